/-
  DERIVED. The walks of package slices at bytes: Equal, IndexFunc, ContainsFunc, Clone.
-/
import Derived.Test.YtmggfdhlbjlpjaaMap2
namespace Go.Proofs.Ytmggfdhlbjlpjaa
open Go.RowKit
set_option linter.unusedSimpArgs false
set_option linter.unusedVariables false

theorem byte_ne {a b : UInt8} (h : a ≠ b) : ((a.toNat : Int) == (b.toNat : Int)) = false := by
  simp
  intro e
  exact h (UInt8.toNat_inj.1 (by omega))
theorem byte_bd (a : UInt8) : 0 ≤ (a.toNat : Int) ∧ (a.toNat : Int) ≤ 255 := by have := a.toNat_lt; omega

/-- Only the tape of draws may differ. -/
def Dr (a b : World) : Prop := ∃ n, b = a.drewN n
theorem Dr.refl (a : World) : Dr a a := ⟨0, rfl⟩
theorem Dr.drewN {a b : World} (h : Dr a b) (n : Nat) : Dr a (b.drewN n) := by obtain ⟨m, rfl⟩ := h; exact ⟨m + n, by rw [World.drewN_drewN]⟩
theorem Dr.fr {a b : World} (h : Dr a b) : Fr No a b := by obtain ⟨n, rfl⟩ := h; exact (Fr.refl No a).drewN n
theorem Dr.out {a b : World} (h : Dr a b) : ∃ n, b = a.drewN n := h
theorem Dr.cell {a b : World} (h : Dr a b) {x : Addr} {v : Value} (hc : a.cell? x = some v) : b.cell? x = some v := by obtain ⟨n, rfl⟩ := h; exact hc

set_option maxRecDepth 100000 in
theorem equal_any (O O' : Nat → Prop) (a a' : Option Addr) (c c' : Nat) (l l' : List UInt8) (w : World) (h : Rd w O a l) (h' : Rd w O' a' l') (hl : l.length ≤ 140737488351232) :
    Calls Try.prog 29 #[.slice a l.length c, .slice a' l'.length c'] w fun e w' => e = .returned (.bool (decide (l = l'))) ∧ ∃ n, w' = w.drewN n := by
  by_cases hne : l.length = l'.length
  · have HN : Hid (l.length = l'.length) := hne
    have hne2 : ((l.length : Int) == (l'.length : Int)) = true := by simp; omega
    have HR : Hid (Rd w O a l) := h
    have HR' : Hid (Rd w O' a' l') := h'
    clear h h' hne
    go_enter Try.func29, Try.ntmps29
    go_wp2
    go_loopw [13] (fun vk wr => ∃ k : Nat, k ≤ l.length ∧ vk = .int .i64 k ∧ (∀ i (h : i < k), l[i]? = l'[i]?) ∧ Dr w wr) (fun k _ => l.length - (intOf k).toNat)
    case atStart => exact ⟨0, Nat.zero_le _, rfl, fun i h => by omega, Dr.refl w⟩
    case round =>
      obtain ⟨k, hk, rfl, heq, hd⟩ := hrel
      have HE : Hid (∀ i (h : i < k), l[i]? = l'[i]?) := heq
      clear heq
      by_cases hlt : k < l.length
      · have h1 : (k : Int) < (l.length : Int) := by omega
        have h2 : (k : Int) < (l'.length : Int) := by have := HN.out; omega
        have h3 : k < l'.length := by have := HN.out; omega
        obtain ⟨b, off, rfl, _, hc⟩ := HR.out (by omega)
        obtain ⟨b', off', rfl, _, hc'⟩ := HR'.out (by omega)
        have z1 := hd.cell (hc k hlt)
        have z2 := hd.cell (hc' k h3)
        have HG : Hid (l[k]? = some l[k] ∧ l'[k]? = some l'[k]) := ⟨by simp [hlt], by simp [h3]⟩
        clear hc hc'
        generalize l[k] = x at z1 HG
        generalize l'[k] = y at z2 HG
        by_cases hxy : x = y
        · subst hxy
          go_wp2
          go_quiet (fail)
          go_wp2
          go_roundw
          case rel => exact ⟨k + 1, by omega, by go_num, fun i hi => by
            by_cases e : i = k
            · subst e; rw [HG.out.1, HG.out.2]
            · exact HE.out i (by omega), hd.drewN nq⟩
          case measure => simp [intOf]; omega
        · have h5 := byte_ne hxy
          go_wp2
          go_quiet (fail)
          go_wp2
          go_ret
          refine ⟨ret_bool ?_, (hd.drewN nq).out⟩
          have : l ≠ l' := by rintro rfl; rw [HG.out.1] at HG; have := HG.out.2; simp at this; exact hxy this
          simp [this]
      · have e : k = l.length := by omega
        have h1 : ¬ ((k : Int) < (l.length : Int)) := by omega
        go_wp2
        go_ret
        refine ⟨ret_bool ?_, hd.out⟩
        have : l = l' := by
          apply List.ext_getElem?
          intro i
          by_cases hi : i < k
          · exact HE.out i hi
          · rw [List.getElem?_eq_none (by omega), List.getElem?_eq_none (by have := HN.out; omega)]
        simp [this]
  · have hne2 : ((l.length : Int) == (l'.length : Int)) = false := by simp; omega
    have hd : decide (l = l') = false := by simp; rintro rfl; exact hne rfl
    rw [hd]
    clear hne
    go_enter Try.func29, Try.ntmps29
    go_wp2
    go_ret
    exact ⟨rfl, 0, rfl⟩

theorem isnt_any (x : UInt8) (b : Bool) (w : World) (hb : (x != 0) = b) : Calls Try.prog 31 #[.int .u8 (x.toNat : Int)] w fun e w' => e = .returned (.bool b) ∧ w' = w := by
  cases b with
  | true =>
    have h : ((x.toNat : Int) != 0) = true := by have := byte_ne (a := x) (b := 0) (by simpa using hb); simpa [bne] using this
    go_enter Try.func31, Try.ntmps31
    go_wp2
    go_ret
    exact ⟨rfl, rfl⟩
  | false =>
    obtain rfl : x = 0 := by simpa using hb
    go_enter Try.func31, Try.ntmps31
    go_wp2
    go_ret
    exact ⟨rfl, rfl⟩

/-- The first place at which a byte isn't 0, or -1. -/
def Ix (l : List UInt8) (r : Int) : Prop := (0 ≤ r ∧ (l.any fun b => b != 0) = true) ∨ (r < 0 ∧ (l.any fun b => b != 0) = false)

theorem any_take_succ {l : List UInt8} {k : Nat} (hk : k < l.length) (h : ((l.take k).any fun b => b != 0) = false) (h2 : (l[k] != 0) = false) : ((l.take (k + 1)).any fun b => b != 0) = false := by
  rw [List.take_succ_eq_append_getElem hk, List.any_append, h]
  simpa using h2

set_option maxRecDepth 100000 in
theorem index_any (O : Nat → Prop) (a : Option Addr) (c : Nat) (l : List UInt8) (w : World) (h : Rd w O a l) (hl : l.length ≤ 140737488351232) :
    Calls Try.prog 32 #[.slice a l.length c, .func (.func 31) #[] #[]] w fun e w' => ∃ r, e = .returned (.int .i64 r) ∧ Ix l r ∧ w' = w := by
  have HR : Hid (Rd w O a l) := h
  clear h
  go_enter Try.func32, Try.ntmps32
  go_wp2
  go_loop [8] (fun vk => ∃ k : Nat, k ≤ l.length ∧ vk = .int .i64 k ∧ Hid (((l.take k).any fun b => b != 0) = false)) (fun k => l.length - (intOf k).toNat)
  case atStart => exact ⟨0, Nat.zero_le _, rfl, (show _ = _ by simp)⟩
  case round =>
    obtain ⟨k, hk, rfl, HE⟩ := hrel
    by_cases hlt : k < l.length
    · have h1 : (k : Int) < (l.length : Int) := by omega
      obtain ⟨b, off, rfl, _, hc⟩ := HR.out (by omega)
      have z1 := hc k hlt
      clear hc
      by_cases hz : (l[k] != 0) = true
      · have HZ : Hid ((l.any fun b => b != 0) = true) := by show _ = _; rw [List.any_eq_true]; exact ⟨l[k], List.getElem_mem _, hz⟩
        have HX : Hid ((l[k] != 0) = true) := hz
        generalize l[k] = x at z1 HX
        clear hz
        go_wp2_with (go_at_call 31; refine (isnt_any x true _ HX.out).mono ?_; rintro e w' ⟨rfl, rfl⟩)
        go_ret
        exact ⟨k, rfl, .inl ⟨by omega, HZ.out⟩, rfl⟩
      · have hz' : (l[k] != 0) = false := by simpa using hz
        have HZ : Hid (((l.take (k + 1)).any fun b => b != 0) = false) := any_take_succ hlt HE.out hz'
        have HX : Hid ((l[k] != 0) = false) := hz'
        generalize l[k] = x at z1 HX
        clear hz hz'
        go_wp2_with (go_at_call 31; refine (isnt_any x false _ HX.out).mono ?_; rintro e w' ⟨rfl, rfl⟩)
        go_round
        case rel => exact ⟨k + 1, by omega, by go_num, HZ⟩
        case measure => simp [intOf]; omega
    · obtain rfl : k = l.length := by omega
      go_wp2
      go_ret
      exact ⟨-1, rfl, .inr ⟨by omega, by have := HE.out; rwa [List.take_length] at this⟩, rfl⟩

set_option maxRecDepth 100000 in
theorem contains_any (O : Nat → Prop) (a : Option Addr) (c : Nat) (l : List UInt8) (b : Bool) (w : World) (h : Rd w O a l) (hl : l.length ≤ 140737488351232) (hb : (l.any fun b => b != 0) = b) :
    Calls Try.prog 30 #[.slice a l.length c, .func (.func 31) #[] #[]] w fun e w' => e = .returned (.bool b) ∧ w' = w := by
  have HB : Hid ((l.any fun b => b != 0) = b) := hb
  clear hb
  go_enter Try.func30, Try.ntmps30
  go_wp2_with (go_at_call 32; refine (index_any O a c l _ h hl).mono ?_; rintro e w' ⟨r, rfl, hr, rfl⟩)
  go_ret
  refine ⟨ret_bool ?_, rfl⟩
  rw [← HB.out]
  rcases hr with ⟨h1, h2⟩ | ⟨h1, h2⟩
  · rw [h2]; simpa using h1
  · rw [h2]; simpa using h1

/-- The slice value has these bytes, in a row of its own that lies in O, unless there are none. -/
def Ob (w : World) (O : Nat → Prop) (v : Value) (l : List UInt8) : Prop :=
  ∃ a cap, v = .slice a l.length cap ∧ (a = none → cap = 0) ∧ (0 < l.length → ∃ b cur, a = some ⟨b, 0, none⟩ ∧ O b ∧ Blk w b cur 5 ∧ ∀ i (h : i < l.length), cur[i]? = some (.int .u8 (l[i].toNat : Int)))

section
variable {w w' : World} {O C : Nat → Prop} {v : Value} {l : List UInt8}
theorem Ob.bs (h : Ob w O v l) : Bs w O v l :=
  let ⟨a, cap, hv, h0, h⟩ := h; ⟨a, cap, hv, h0, fun hl => let ⟨b, cur, h1, h2, h3, h4⟩ := h hl; ⟨b, 0, h1, h2, fun i hi => by rw [h3.cell, Nat.zero_add]; exact h4 i hi⟩⟩
theorem Ob.keep (h : Ob w O v l) (k : Fr C w w') (hd : ∀ b, O b → ¬ C b) : Ob w' O v l :=
  let ⟨a, cap, hv, h0, h⟩ := h; ⟨a, cap, hv, h0, fun hl => let ⟨b, cur, h1, h2, h3, h4⟩ := h hl; ⟨b, cur, h1, h2, k.blk h3 (hd _ h2), h4⟩⟩
/-- What is of another kind may change. -/
theorem Ob.keep' (h : Ob w O v l) (k : Fr C w w') (hd : ∀ b cur, O b → Blk w b cur 5 → ¬ C b) : Ob w' O v l :=
  let ⟨a, cap, hv, h0, h⟩ := h; ⟨a, cap, hv, h0, fun hl => let ⟨b, cur, h1, h2, h3, h4⟩ := h hl; ⟨b, cur, h1, h2, k.blk h3 (hd _ _ h2 h3), h4⟩⟩
theorem Ob.wide (h : Ob w O v l) (hd : ∀ b, O b → b < w.heap.size → C b) : Ob w C v l :=
  let ⟨a, cap, hv, h0, h⟩ := h; ⟨a, cap, hv, h0, fun hl => let ⟨b, cur, h1, h2, h3, h4⟩ := h hl; ⟨b, cur, h1, hd _ h2 h3.lt, h3, h4⟩⟩
theorem Ob.shape (h : Ob w O v l) : ∃ a cap, v = .slice a l.length cap := let ⟨a, cap, hv, _⟩ := h; ⟨a, cap, hv⟩
theorem Ob.nil (w : World) (O : Nat → Prop) : Ob w O (.slice none 0 0) [] := ⟨none, 0, rfl, fun _ => rfl, fun h => absurd h (by simp)⟩
end

theorem Try.info5 : (Try.prog.info? 5).map (fun i => (i.zero, i.size, i.bytes)) = some (some (.int .u8 0), 1, 1) := by kernel_rfl

theorem u8s_src {w : World} {b off : Nat} {l : List UInt8} (hc : ∀ i (h : i < l.length), w.cell? ⟨b, off + i, none⟩ = some (.int .u8 (l[i].toNat : Int))) :
    ∀ j u, (u8s l)[j]? = some u → w.cell? ((⟨b, off, none⟩ : Addr).add j) = some u := by
  intro j u hu
  have hj : j < l.length := by
    rcases Nat.lt_or_ge j (u8s l).length with h | h
    · rwa [u8s_length] at h
    · rw [List.getElem?_eq_none h] at hu; cases hu
  rw [u8s_get l j hj] at hu
  cases hu
  rw [add_at]
  exact hc j hj

theorem ob_of_owns {w : World} {base n : Nat} {v : Value} {l : List UInt8} (hn : l.length = n) (h : w.ownsRow base 5 1 v n (u8s l)) : Ob w (fun b => base ≤ b) v l := by
  subst hn
  obtain ⟨h1, h2⟩ := h
  rcases h2 with ⟨rfl, h⟩ | ⟨g, cap, cur, rfl, hg, hh, hnc, hcm, hsz, htk⟩
  · obtain rfl : l = [] := List.length_eq_zero_iff.1 h
    exact Ob.nil _ _
  · refine ⟨_, cap, rfl, fun h => (by cases h), fun _ => ⟨g, cur, rfl, hg, hh, fun i hi => ?_⟩⟩
    have e1 := u8s_get l i hi
    rw [← htk, Nat.mul_one, List.getElem?_take_of_lt hi] at e1
    simpa using e1

theorem cell_kept {w : World} {x : Addr} {v : Value} (o : Obj) (h : w.cell? x = some v) : (w.alloc o).cell? x = some v := ((Fr.refl No w).alloc o).old h id

set_option maxRecDepth 1000000 in
theorem clone_any (O : Nat → Prop) (a : Option Addr) (c : Nat) (l : List UInt8) (w : World) (h : Rd w O a l) (hl : l.length ≤ 140737488351232) :
    Calls Try.prog 28 #[.slice a l.length c] w fun e w' => ∃ v, e = .returned v ∧ Ob w' (fun b => w.heap.size ≤ b) v l ∧ Fr No w w' := by
  have hne := fun w => Lib.run_eql_slice_nil (P := Try.prog) w 41 5 a l.length c 0 0 Try.underlying41
  cases a with
  | none =>
    obtain rfl : l = [] := by
      cases l with
      | nil => rfl
      | cons x r => obtain ⟨b, off, h, _⟩ := h (by simp); cases h
    have hne0 := fun w => Lib.run_eql_slice_nil (P := Try.prog) w 41 5 none 0 c 0 0 Try.underlying41
    clear hne
    show Calls Try.prog 28 #[.slice none 0 c] w _
    go_enter Try.func28, Try.ntmps28
    go_wp2
    go_ret
    exact ⟨_, rfl, Ob.nil _ _, Fr.refl _ _⟩
  | some x =>
    obtain ⟨i0, hi, hz0, hz1, hz2⟩ := info_parts Try.info5
    have hown : (w.alloc (.cells #[] 5)).ownsRow w.heap.size 5 1 (.slice (some ⟨w.heap.size, 0, none⟩) 0 0) 0 [] :=
      ⟨rfl, .inr ⟨w.heap.size, 0, #[], rfl, Nat.le_refl _, Blk.new _ _ _, Nat.le_refl _, by unfold maxLen; omega, rfl, rfl⟩⟩
    have hsrc : ∀ j u, (u8s l)[j]? = some u → (w.alloc (.cells #[] 5)).cell? (x.add j) = some u := by
      by_cases h0 : 0 < l.length
      · obtain ⟨b, off, hx, _, hc⟩ := h h0
        cases hx
        exact u8s_src fun i hi => cell_kept _ (hc i hi)
      · intro j u hu
        rw [List.getElem?_eq_none (by rw [u8s_length]; omega)] at hu; cases hu
    have HC : Hid (l.length ≤ 140737488351232) := hl
    have HS : Hid _ := hsrc
    clear hl h hsrc
    go_enter Try.func28, Try.ntmps28
    have H1 : Hid ((u8s l).length = l.length * 1) := by show _ = _; rw [u8s_length]; omega
    have H4 : Hid (0 + l.length ≤ maxLen) := by show _ ≤ _; have := HC.out; unfold maxLen; omega
    have H5 : Hid ((0 + l.length) * 1 ≤ 140737488355328) := by show _ ≤ _; have := HC.out; omega
    have H6 : Hid (w.heap.size ≤ (w.alloc (.cells #[] 5)).heap.size) := by show _ ≤ _; simp
    go_wp2_with (at_builtin; refine wpList_append_own _ rfl _ _ 41 rfl w.heap.size 5 i0 (.int .u8 0) 1 1 Try.underlying41 hi hz0 hz1 hz2 rfl (by decide) _ _ _ rfl hown x l.length c (u8s l) rfl H1.out HS.out (u8s_one l) H4.out H5.out H6.out ?_; intro v' w1 hown' hgrow hnil)
    go_ret
    simp only [Nat.zero_add, List.nil_append] at hown'
    exact ⟨v', rfl, ob_of_owns rfl hown', Fr.of_below (((Below.refl _ w).alloc (Nat.le_refl _) _).grown hgrow (by simp) (by intro k hk; cases hk; exact Nat.le_refl _))⟩

end Go.Proofs.Ytmggfdhlbjlpjaa
