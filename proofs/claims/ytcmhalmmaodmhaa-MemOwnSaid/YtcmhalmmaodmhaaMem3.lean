/-
  DERIVED. The walks of package mem: Bytes, New, Load, a nil memory.
-/
import Derived.Test.YtcmhalmmaodmhaaMem2
import Derived.Deep.OwnRows
namespace Go.Proofs.Ytcmhalmmaodmhaa
open Go.RowKit
set_option linter.unusedSimpArgs false
set_option linter.unusedVariables false

set_option maxRecDepth 1000000 in
theorem clone_none (n c : Nat) (w : World) :
    Calls Try.prog 38 #[.slice none n c] w fun e w' => e = .returned (.slice none 0 0) ∧ w = w' := by
  have hne := fun w => Lib.run_eql_slice_nil (P := Try.prog) w 22 5 none n c 0 0 Try.underlying22
  go_enter Try.func38, Try.ntmps38
  go_wp2
  go_ret
  exact ⟨rfl, rfl⟩

/-- What is made is a byte slice of the call's own. -/
def Own (W w' : World) (v : Value) (xs : List Int) : Prop := ∃ q, Bs w' v q xs ∧ W.heap.size ≤ q

theorem clone_any (a : Option Addr) (n c : Nat) (xs : List Int) (w : World) (hn : xs.length = n) (hcap : n ≤ 140737488351232)
    (hc : 0 < n → ∃ x, a = some x ∧ ∀ i, i < xs.length → w.cell? (x.add i) = some (.int .u8 (xs.getD i 0))) :
    Calls Try.prog 38 #[.slice a n c] w fun e w' => ∃ v, e = .returned v ∧ (a ≠ none → v ≠ .slice none 0 0) ∧ (a = none → v = .slice none 0 0) ∧ Own w w' v xs ∧ Chg [] w w' := by
  cases a with
  | none =>
    have h0 : n = 0 := by
      rcases Nat.eq_zero_or_pos n with h | h
      · exact h
      · obtain ⟨x, hx, _⟩ := hc h; cases hx
    subst h0
    obtain rfl : xs = [] := List.length_eq_zero_iff.1 hn
    refine (clone_none 0 c w).mono ?_
    rintro e w' ⟨rfl, rfl⟩
    exact ⟨_, rfl, fun h => absurd rfl h, fun _ => rfl, ⟨w.heap.size, ⟨none, 0, rfl, Nat.le_refl _, fun h => absurd h (by simp)⟩, Nat.le_refl _⟩, Chg.refl _ _⟩
  | some x =>
    refine (clone_some x n c xs w hn hcap (fun i hi => ?_)).mono ?_
    · obtain ⟨y, hy, hcell⟩ := hc (by omega)
      cases hy
      exact hcell i hi
    · rintro e w' ⟨v, q, rfl, hv, hb, hq, _, hch⟩
      exact ⟨v, rfl, fun _ => hv, fun h => (by cases h), ⟨q, hb, hq⟩, hch⟩

theorem bytes_any (p q : Nat) (s : MS) (w : World) (h : IsMem w p q s) (hlen : s.B.length ≤ 4096) :
    Calls Try.prog 16 #[.pointer (some ⟨p, 0, none⟩)] w fun e w' => ∃ v, e = .returned v ∧ Own w w' v s.B ∧ Chg [] w w' := by
  obtain ⟨a, cap, c0, c1, c2, c3, c4, hf, hb, hl, hr⟩ := h.cells
  have hcl := clone_any a s.B.length cap s.B w rfl (by omega) (fun h0 => ⟨⟨q, 0, none⟩, (hr h0).1, fun i hi => by rw [add_at]; simpa using (hr h0).2.1.cell hi⟩)
  clear hr hl hb
  go_enter Try.func16, Try.ntmps16
  go_wp2_with (go_at_call 38; refine hcl.mono ?_; rintro e w1 ⟨v, rfl, _, _, hown, hch⟩)
  go_ret
  exact ⟨v, rfl, hown, hch⟩

theorem fresh_mem {w : World} {a : Option Addr} {cap q : Nat} {xs : List Int} (hb : Bs w (.slice a xs.length cap) q xs) : IsMem (w.alloc (.cells (memCells a cap (MS.fresh xs)) 85)) w.heap.size q (MS.fresh xs) := by
  obtain ⟨a', cap', hv, hl, hr⟩ := hb
  cases hv
  exact ⟨a, cap, Blk.new _ _ _, hl, fun h0 => ⟨(hr h0).1, (hr h0).2.alloc _⟩⟩

theorem new_any (n : Nat) (w : World) (hn : n ≤ 4096) :
    Calls Try.prog 25 #[.int .i64 n] w fun e w' => ∃ p q, e = .returned (.tuple #[.pointer (some ⟨p, 0, none⟩), .int .i64 0]) ∧ IsMem w' p q (MS.fresh (List.replicate n 0)) ∧ w.heap.size ≤ p ∧ w.heap.size ≤ q ∧ Chg [] w w' := by
  have hmk := run_make_row' (P := Try.prog) 22 5 (.int .u8 0) 1 Try.underlying22 Try.info5 rfl .i64 .i64 n (by omega) (by omega)
  go_enter Try.func25, Try.ntmps25
  go_wp2
  go_ret2
  have hb : Bs (w.alloc (.cells (madeCells #[.int .u8 0] n) 5)) (.slice (some ⟨w.heap.size, 0, none⟩) (List.replicate n (0 : Int)).length n) w.heap.size (List.replicate n 0) := by
    refine ⟨_, n, rfl, by simp, fun h0 => ⟨rfl, _, Blk.new _ _ _, fun i hi => ?_⟩⟩
    have hi' : i < n := by simpa using hi
    simp [madeCells, hi', Nat.mod_one]
  have := fresh_mem hb
  rw [show memCells (some ⟨w.heap.size, 0, none⟩) n (MS.fresh (List.replicate n 0)) = #[.slice (some ⟨w.heap.size, 0, none⟩) n n, .int .u32 0, .bool false, .int .i64 0, .int .i64 0] by simp [memCells, MS.fresh, offW]] at this
  rw [World.size_alloc] at this
  refine ⟨_, w.heap.size, rfl, this, by simp, Nat.le_refl _, ((Chg.refl _ _).alloc _).alloc _⟩

theorem new_bad (n : Int) (w : World) (h : n < 0 ∨ 4096 < n) :
    Calls Try.prog 25 #[.int .i64 n] w fun e w' => e = .returned (.tuple #[.pointer none, .int .i64 2]) ∧ w = w' := by
  by_cases h1 : n < 0
  · go_enter Try.func25, Try.ntmps25
    go_wp2
    go_ret2
    exact ⟨rfl, rfl⟩
  · have h2 : 4096 < n := by omega
    go_enter Try.func25, Try.ntmps25
    go_wp2
    go_ret2
    exact ⟨rfl, rfl⟩

theorem load_any (a : Option Addr) (n c : Nat) (xs : List Int) (w : World) (hn : xs.length = n) (hcap : n ≤ 4096)
    (hc : 0 < n → ∃ x, a = some x ∧ ∀ i, i < xs.length → w.cell? (x.add i) = some (.int .u8 (xs.getD i 0))) :
    Calls Try.prog 14 #[.slice a n c] w fun e w' => ∃ p q, e = .returned (.tuple #[.pointer (some ⟨p, 0, none⟩), .int .i64 0]) ∧ IsMem w' p q (MS.fresh xs) ∧ w.heap.size ≤ p ∧ w.heap.size ≤ q ∧ Chg [] w w' := by
  subst hn
  have hcl := clone_any a xs.length c xs w rfl (by omega) hc
  clear hc
  go_enter Try.func14, Try.ntmps14
  go_wp2_with (go_at_call 38; refine hcl.mono ?_; rintro e w1 ⟨v, rfl, _, _, ⟨q, ⟨a1, cap1, rfl, hl1, hr1⟩, hq⟩, hch⟩)
  go_ret2
  have := fresh_mem (w := w1) ⟨a1, cap1, rfl, hl1, hr1⟩
  exact ⟨_, q, rfl, this, hch.size, hq, hch.alloc _⟩

theorem load_bad (a : Option Addr) (n c : Nat) (w : World) (h : 4096 < n) :
    Calls Try.prog 14 #[.slice a n c] w fun e w' => e = .returned (.tuple #[.pointer none, .int .i64 2]) ∧ w = w' := by
  go_enter Try.func14, Try.ntmps14
  go_wp2
  go_ret2
  exact ⟨rfl, rfl⟩

theorem nil_all (w : World) (i c : Int) :
    (Calls Try.prog 19 #[.pointer none, .int .i64 i, .int .u8 c] w fun e w' => e = .returned (.int .i64 1) ∧ w = w') ∧
    (Calls Try.prog 23 #[.pointer none, .int .i64 i] w fun e w' => e = .returned (.tuple #[.int .u8 0, .int .i64 1]) ∧ w = w') ∧
    (Calls Try.prog 18 #[.pointer none, .int .i64 i] w fun e w' => e = .returned (.int .i64 1) ∧ w = w') ∧
    (Calls Try.prog 21 #[.pointer none] w fun e w' => e = .returned (.tuple #[]) ∧ w = w') ∧
    (Calls Try.prog 20 #[.pointer none] w fun e w' => e = .returned (.bool false) ∧ w = w') ∧
    (Calls Try.prog 22 #[.pointer none] w fun e w' => e = .returned (.int .i64 0) ∧ w = w') ∧
    (Calls Try.prog 24 #[.pointer none] w fun e w' => e = .returned (.int .i64 0) ∧ w = w') ∧
    (Calls Try.prog 16 #[.pointer none] w fun e w' => e = .returned (.slice none 0 0) ∧ w = w') := by
  refine ⟨?_, ?_, ?_, ?_, ?_, ?_, ?_, ?_⟩
  · go_enter Try.func19, Try.ntmps19
    go_wp2
    go_ret
    exact ⟨rfl, rfl⟩
  · go_enter Try.func23, Try.ntmps23
    go_wp2
    go_ret2
    exact ⟨rfl, rfl⟩
  · go_enter Try.func18, Try.ntmps18
    go_wp2
    go_ret
    exact ⟨rfl, rfl⟩
  · go_enter Try.func21, Try.ntmps21
    go_wp2
    go_end0
    exact ⟨rfl, rfl⟩
  · go_enter Try.func20, Try.ntmps20
    go_wp2
    go_ret
    exact ⟨rfl, rfl⟩
  · go_enter Try.func22, Try.ntmps22
    go_wp2
    go_ret
    exact ⟨rfl, rfl⟩
  · go_enter Try.func24, Try.ntmps24
    go_wp2
    go_ret
    exact ⟨rfl, rfl⟩
  · go_enter Try.func16, Try.ntmps16
    go_wp2
    go_ret
    exact ⟨rfl, rfl⟩

end Go.Proofs.Ytcmhalmmaodmhaa
