/-
  DERIVED. For MemOwn: Spare and Kept.
-/
import Derived.Test.YtcmhalmmaodmhaaOwn
namespace Go.Proofs.Ytcmhalmmaodmhaa
open Go.RowKit
set_option linter.unusedSimpArgs false
set_option linter.unusedVariables false

/-- The bytes, and what Spare lays behind them. -/
def sp (xs : List Int) (k : Nat) : Int := if k < xs.length then xs.getD k 0 else (201 + (k : Int)) % 256

set_option maxRecDepth 1000000 in
theorem spareb_any (a : Option Addr) (n c : Nat) (xs : List Int) (w : World) (hn : xs.length = n) (hcap : n ≤ 140737488351232)
    (hx : 0 < n → ∃ x, a = some x ∧ ∀ i, i < xs.length → w.cell? (x.add i) = some (.int .u8 (xs.getD i 0))) :
    Calls Try.prog 13 #[.slice a n c] w fun e w' => ∃ g, e = .returned (.tuple #[.slice (some ⟨g, 0, none⟩) n (n + 9), .slice (some ⟨g, 0, none⟩) (n + 9) (n + 9)]) ∧
      Lf w' (.slice (some ⟨g, 0, none⟩) (n + 9) (n + 9)) g (n + 9) (n + 9) (sp xs) ∧ w.heap.size ≤ g ∧ Chg [] w w' := by
  have hmk : ∀ w, (Instr.makeSlice 22 (.int .i64 ((n : Int) + 9)) (.int .i64 ((n : Int) + 9))).run Try.prog w = .ok (.slice (some ⟨w.heap.size, 0, none⟩) (n + 9) (n + 9)) (w.alloc (.cells (madeCells #[.int .u8 0] (n + 9)) 5)) := by
    intro w
    have := run_make_row' (P := Try.prog) 22 5 (.int .u8 0) 1 Try.underlying22 Try.info5 rfl .i64 .i64 (n + 9) (by omega) (by omega) w
    simpa using this
  have hb0 := Blk.new w (madeCells #[.int .u8 0] (n + 9)) 5
  have hsz : (madeCells #[Value.int .u8 0] (n + 9)).size = n + 9 := size_madeCells _ _
  have hg0 : (w.alloc (.cells (madeCells #[.int .u8 0] (n + 9)) 5)).heap[w.heap.size]? = some (.cells (madeCells #[Value.int .u8 0] (n + 9)).toList.toArray 5 (0, 0)) := by
    rw [Array.toArray_toList]; exact hb0
  have hmin : (cellsOf xs).length = Nat.min n (n + 9) := by
    rw [cellsOf_length, hn]; exact (Nat.min_eq_left (by omega)).symm
  have hpos : 0 < (cellsOf xs).length → (some (⟨w.heap.size, 0, none⟩ : Addr)) = some ⟨w.heap.size, 0, none⟩ ∧ ∃ ad, a = some ad ∧ ∀ j v, (cellsOf xs)[j]? = some v → (w.alloc (.cells (madeCells #[.int .u8 0] (n + 9)) 5)).cell? (ad.add j) = some v := by
    intro h0
    rw [cellsOf_length] at h0
    obtain ⟨x, hx1, hx2⟩ := hx (by omega)
    exact ⟨rfl, x, hx1, cellsOf_src (fun i hi => cell_kept _ (hx2 i hi))⟩
  have HG : Hid _ := hg0
  have HMN : Hid _ := hmin
  have HP : Hid _ := hpos
  have HZ : Hid _ := hsz
  have HN : Hid _ := hn
  have HC : Hid (n ≤ 140737488351232) := hcap
  have hu5 : (Try.prog.info? 5).map (·.size) = some 1 := by kernel_rfl
  have HU : Hid _ := hu5
  have H9 : Hid (0 + (cellsOf xs).length ≤ (madeCells #[Value.int .u8 0] (n + 9)).toList.length) := by show _ ≤ _; rw [cellsOf_length, hn, Array.length_toList, hsz]; omega
  have HBB : Hid (Below w.heap.size w (w.alloc (.cells (madeCells #[.int .u8 0] (n + 9)) 5))) := (Below.refl _ w).alloc (Nat.le_refl _) _
  clear hg0 hmin hpos hsz hn hx hb0 hu5
  go_enter Try.func13, Try.ntmps13
  go_wp2_with (with_reducible refine wpList_copy_splice rfl (.tmp 10) (.tmp 11) 22 22 rfl 5 Try.underlying22 HU.out (some ⟨w.heap.size, 0, none⟩) a (n + 9) (n + 9) n c rfl rfl w.heap.size 0 (madeCells #[Value.int .u8 0] (n + 9)).toList 5 HG.out (cellsOf xs) HMN.out HP.out H9.out (cellsOf_one xs) w.heap.size w HBB.out (Nat.le_refl _) ?_; intro w2 hg2 hb2)
  have L0 : Lf w2 (.slice (some ⟨w.heap.size, 0, none⟩) (n + 9) (n + 9)) w.heap.size (n + 9) n (sp xs) := by
    refine ⟨_, _, rfl, by omega, .inr ⟨rfl, Nat.le_refl _, by have := HC.out; unfold maxLen; omega, _, hg2.out, ?_, fun k hk => ?_⟩⟩
    · have := H9.out
      rw [List.size_toArray, length_splice _ _ _ this, Array.length_toList, HZ.out]
    · have hN := HN.out
      simp only [splice, List.take_zero, List.nil_append, List.getElem?_toArray]
      rw [List.getElem?_append_left (by rw [cellsOf_length]; omega), cellsOf_get xs k (by omega)]
      unfold sp; rw [if_pos (by omega)]
  have g2 : Chg [] w w2 := Chg.of_below hb2
  have z2 : w.heap.size < w2.heap.size := L0.lt (by omega)
  clear hg2 hb2
  go_loopw [5] (fun vi wr => ∃ k : Nat, n ≤ k ∧ k ≤ n + 9 ∧ vi = .int .i64 k ∧ Lf wr (.slice (some ⟨w.heap.size, 0, none⟩) (n + 9) (n + 9)) w.heap.size (n + 9) k (sp xs) ∧ Chg [] w wr) (fun i _ => n + 9 - (intOf i).toNat)
  case atStart => exact ⟨n, Nat.le_refl _, by omega, rfl, L0, g2⟩
  case round =>
    obtain ⟨k, hk1, hk2, rfl, hL, hg⟩ := hrel
    clear L0 g2 z2
    by_cases hlt : k < n + 9
    · have h1 : (k : Int) < (n : Int) + 9 := by omega
      have HS := hL.set hlt
      obtain ⟨cap, u, _, hc, hf⟩ := hL.at hlt
      have hsp : sp xs k = IntKind.u8.wrap (201 + (k : Int)) := by
        unfold sp; rw [if_neg (by have := HN.out; omega)]; rfl
      have h2 : 0 ≤ 201 + (k : Int) := by omega
      have hg' := hg.setCell (p := ⟨w.heap.size, k, none⟩) (by simp) (.int .u8 (sp xs k))
      rw [hsp] at HS hg'
      have H1 : Hid _ := HS
      have H2 : Hid _ := hg'
      clear HS hg' hL hg hsp
      go_wp2
      go_roundw
      case rel => exact ⟨k + 1, by omega, by omega, by go_num, H1.out, H2.out⟩
      case measure => simp [intOf]; omega
    · obtain rfl : k = n + 9 := by omega
      go_wp2
      go_ret2
      exact ⟨_, rfl, hL, Nat.le_refl _, hg⟩

/-- 'string(b)' of bytes that lie anywhere. -/
theorem conv_src {a : Option Addr} {n c : Nat} {xs : List Int} {w : World} (hn : xs.length = n)
    (hx : 0 < n → ∃ x, a = some x ∧ ∀ i, i < xs.length → w.cell? (x.add i) = some (.int .u8 (xs.getD i 0))) :
    (convert 22 9 (.slice a n c)).run Try.prog w = .ok (.string (mkStr xs)) w := by
  subst hn
  rw [run_convert_bytes_string w 22 9 5 a xs.length c Try.underlying22 Try.underlying5 Try.underlying9]
  by_cases h0 : 0 < xs.length
  · obtain ⟨x, rfl, hcell⟩ := hx h0
    refine run_bytesToString w _ _ _ xs ?_
    have := run_loadCells_list (P := Try.prog) w x (xs.map (Value.int .u8)) (fun j u hu => by
      have hj : j < xs.length := by
        rcases Nat.lt_or_ge j xs.length with h | h
        · exact h
        · rw [List.getElem?_eq_none (by simpa using h)] at hu; cases hu
      rw [hcell j hj]
      simp [hj] at hu
      simp [List.getD, hj, hu])
    simpa using this
  · obtain rfl : xs = [] := by
      cases xs with
      | nil => rfl
      | cons x l => exact absurd (by simp) h0
    cases a with
    | none => simp [Conv.bytesToString, mkStr, Sem.run_pure]
    | some x =>
      refine run_bytesToString w x 0 c [] ?_
      simpa using run_loadCells_list (P := Try.prog) w x [] (by simp)

set_option maxRecDepth 1000000 in
theorem kept_any (a : Option Addr) (n c g : Nat) (xs : List Int) (w : World) (hn : xs.length = n) (hcap : n ≤ 140737488351232)
    (hx : 0 < n → ∃ x, a = some x ∧ ∀ i, i < xs.length → w.cell? (x.add i) = some (.int .u8 (xs.getD i 0)))
    (hL : Lf w (.slice (some ⟨g, 0, none⟩) (n + 9) (n + 9)) g (n + 9) (n + 9) (sp xs)) :
    Calls Try.prog 15 #[.slice (some ⟨g, 0, none⟩) (n + 9) (n + 9), .slice a n c] w fun e w' => e = .returned (.bool true) ∧ Chg [] w w' := by
  have c1 : ∀ m, (convert 22 9 (.slice (some ⟨g, 0, none⟩) n (n + 9))).run Try.prog (w.drewN m) = .ok (.string (mkStr xs)) (w.drewN m) := fun m =>
    conv_src hn (fun h0 => ⟨_, rfl, fun i hi => by
      rw [add_at, Nat.zero_add]
      have := hL.cell (k := i) (by omega)
      unfold sp at this
      rw [if_pos hi] at this
      exact this⟩)
  have c2 : ∀ m, (convert 22 9 (.slice a n c)).run Try.prog (w.drewN m) = .ok (.string (mkStr xs)) (w.drewN m) := fun m => conv_src hn hx
  have HN : Hid _ := hn
  have HC : Hid (n ≤ 140737488351232) := hcap
  have HL : Hid _ := hL
  clear hn hx hL
  go_enter Try.func15, Try.ntmps15
  go_wp2
  go_quiet (fail)
  clear c1 c2
  have HL2 : Hid (Lf (w.drewN nq) (.slice (some ⟨g, 0, none⟩) (n + 9) (n + 9)) g (n + 9) (n + 9) (sp xs)) := HL.out
  have g0 : Chg [] w (w.drewN nq) := (Chg.refl [] w).drewN nq
  generalize w.drewN nq = w2 at HL2 g0 ⊢
  go_wp2
  go_loop [5] (fun vi => ∃ k : Nat, n ≤ k ∧ k ≤ n + 9 ∧ vi = .int .i64 k) (fun i => n + 9 - (intOf i).toNat)
  case atStart => exact ⟨n, Nat.le_refl _, by omega, rfl⟩
  case round =>
    obtain ⟨k, hk1, hk2, rfl⟩ := hrel
    by_cases hlt : k < n + 9
    · have h1 : (k : Int) < (n : Int) + 9 := by omega
      have hc := HL2.out.cell hlt
      have hsp : sp xs k = IntKind.u8.wrap (201 + (k : Int)) := by
        unfold sp; rw [if_neg (by have := HN.out; omega)]; rfl
      rw [hsp] at hc
      have h2 : 0 ≤ 201 + (k : Int) := by omega
      clear hsp
      go_wp2
      go_round
      case rel => exact ⟨k + 1, by omega, by omega, by go_num⟩
      case measure => simp [intOf]; omega
    · obtain rfl : k = n + 9 := by omega
      go_wp2
      go_ret
      exact ⟨rfl, g0⟩

end Go.Proofs.Ytcmhalmmaodmhaa
