/-
  DERIVED. Byte slices of the program's own; slices.Clone.
-/
import Derived.Test.YtcmhalmmaodmhaaBase
import Derived.Test.YtcmhalmmaodmhaaPure
import Derived.Deep.AppendSrc
namespace Go.Proofs.Ytcmhalmmaodmhaa
open Go.RowKit
set_option linter.unusedSimpArgs false
set_option linter.unusedVariables false

/-- The bytes as cells. -/
def cellsOf (xs : List Int) : List Value := xs.map (Value.int .u8)

/-- Block q's first cells are these bytes. -/
def Row (w : World) (q : Nat) (xs : List Int) : Prop := ∃ cur, Blk w q cur 5 ∧ ∀ i, i < xs.length → cur[i]? = some (.int .u8 (xs.getD i 0))

theorem Row.lt {w : World} {q : Nat} {xs : List Int} (h : Row w q xs) : q < w.heap.size := let ⟨_, hb, _⟩ := h; hb.lt
theorem Row.cell {w : World} {q : Nat} {xs : List Int} (h : Row w q xs) {i : Nat} (hi : i < xs.length) : w.cell? ⟨q, i, none⟩ = some (.int .u8 (xs.getD i 0)) := by
  obtain ⟨cur, hb, hc⟩ := h
  rw [hb.cell]; exact hc i hi
theorem Row.free {w : World} {q : Nat} {xs : List Int} (h : Row w q xs) (i : Nat) : w.frozen? ⟨q, i, none⟩ = false := let ⟨_, hb, _⟩ := h; hb.free i
theorem Row.keep {bs : List Nat} {w w' : World} {q : Nat} {xs : List Int} (h : Row w q xs) (k : Chg bs w w') (hn : q ∉ bs) : Row w' q xs :=
  let ⟨cur, hb, hc⟩ := h; ⟨cur, k.blk hb hn, hc⟩
theorem Row.other {w : World} {q : Nat} {xs : List Int} (h : Row w q xs) (a : Addr) (v : Value) (hn : q ≠ a.block) : Row (w.setCell a v) q xs :=
  let ⟨cur, hb, hc⟩ := h; ⟨cur, hb.other a v hn, hc⟩
theorem Row.set {w : World} {q : Nat} {xs : List Int} (h : Row w q xs) (i : Nat) (c : Int) (hi : i < xs.length) : Row (w.setCell ⟨q, i, none⟩ (.int .u8 c)) q (xs.set i c) := by
  obtain ⟨cur, hb, hc⟩ := h
  refine ⟨_, hb.set i _, fun j hj => ?_⟩
  have hj' : j < xs.length := by simpa using hj
  have h2 : i < cur.size := by
    have := hc i hi
    rcases Nat.lt_or_ge i cur.size with h' | h'
    · exact h'
    · rw [Array.getElem?_eq_none h'] at this; cases this
  by_cases e : i = j
  · subst e
    simp [h2, List.getD, hj']
  · rw [Array.getElem?_setIfInBounds_ne e, hc j hj']
    simp [List.getD, List.getElem?_set_ne e]
theorem Row.alloc {w : World} {q : Nat} {xs : List Int} (h : Row w q xs) (o : Obj) : Row (w.alloc o) q xs :=
  let ⟨cur, hb, hc⟩ := h; ⟨cur, hb.alloc o, hc⟩

/-- The slice value v has the bytes xs; they lie in block q, unless there are none. -/
def Bs (w : World) (v : Value) (q : Nat) (xs : List Int) : Prop := ∃ a cap, v = .slice a xs.length cap ∧ xs.length ≤ cap ∧ (0 < xs.length → a = some ⟨q, 0, none⟩ ∧ Row w q xs)

theorem Bs.keep {bs : List Nat} {w w' : World} {v : Value} {q : Nat} {xs : List Int} (h : Bs w v q xs) (k : Chg bs w w') (hn : q ∉ bs) : Bs w' v q xs :=
  let ⟨a, cap, hv, hl, hr⟩ := h; ⟨a, cap, hv, hl, fun hp => ⟨(hr hp).1, (hr hp).2.keep k hn⟩⟩

theorem Try.info5 : (Try.prog.info? 5).map (fun i => (i.zero, i.size, i.bytes)) = some (some (.int .u8 0), 1, 1) := by kernel_rfl

theorem cellsOf_length (xs : List Int) : (cellsOf xs).length = xs.length := by simp [cellsOf]
theorem cellsOf_get (xs : List Int) (i : Nat) (hi : i < xs.length) : (cellsOf xs)[i]? = some (.int .u8 (xs.getD i 0)) := by
  simp [cellsOf, List.getD, hi]

/-- A row that the call owns, of these bytes, is a byte slice of its own. -/
theorem Bs.of_owns {w : World} {base : Nat} {v : Value} {n : Nat} {xs : List Int} (hn : xs.length = n) (h : w.ownsRow base 5 1 v n (cellsOf xs)) (hv : v ≠ .slice none 0 0) :
    ∃ q, Bs w v q xs ∧ base ≤ q ∧ q < w.heap.size := by
  obtain ⟨h1, h2⟩ := h
  rcases h2 with ⟨rfl, rfl⟩ | ⟨g, cap, cur, rfl, hg, hh, hnc, hcm, hsz, htk⟩
  · exact absurd rfl hv
  · refine ⟨g, ⟨some ⟨g, 0, none⟩, cap, by rw [hn], by omega, fun hp => ⟨rfl, cur, hh, fun i hi => ?_⟩⟩, hg, ?_⟩
    · have e1 := cellsOf_get xs i hi
      rw [← htk, Nat.mul_one, List.getElem?_take_of_lt (by omega)] at e1
      simpa using e1
    · rcases Nat.lt_or_ge g w.heap.size with h' | h'
      · exact h'
      · rw [Array.getElem?_eq_none h'] at hh; cases hh

theorem cellsOf_src {w : World} {x : Addr} {xs : List Int} (hc : ∀ i, i < xs.length → w.cell? (x.add i) = some (.int .u8 (xs.getD i 0))) :
    ∀ j u, (cellsOf xs)[j]? = some u → w.cell? (x.add j) = some u := by
  intro j u hu
  have hj : j < xs.length := by
    rcases Nat.lt_or_ge j (cellsOf xs).length with h | h
    · rwa [cellsOf_length] at h
    · rw [List.getElem?_eq_none h] at hu; cases hu
  rw [cellsOf_get xs j hj] at hu
  cases hu
  exact hc j hj

theorem cellsOf_one (xs : List Int) : ∀ u ∈ cellsOf xs, u.oneCell' = true := by
  intro u hu
  simp only [cellsOf, List.mem_map] at hu
  obtain ⟨_, _, rfl⟩ := hu
  rfl

set_option maxRecDepth 1000000 in
/-- slices.Clone of bytes that lie behind an address. -/
theorem clone_some (x : Addr) (n c : Nat) (xs : List Int) (w : World) (hn : xs.length = n) (hcap : n ≤ 140737488351232)
    (hc : ∀ i, i < xs.length → w.cell? (x.add i) = some (.int .u8 (xs.getD i 0))) :
    Calls Try.prog 38 #[.slice (some x) n c] w fun e w' => ∃ v q, e = .returned v ∧ v ≠ .slice none 0 0 ∧ Bs w' v q xs ∧ w.heap.size ≤ q ∧ q < w'.heap.size ∧ Chg [] w w' := by
  have hne := fun w => Lib.run_eql_slice_nil (P := Try.prog) w 22 5 (some x) n c 0 0 Try.underlying22
  obtain ⟨i0, hi, hz0, hz1, hz2⟩ := info_parts Try.info5
  have hown : (w.alloc (.cells #[] 5)).ownsRow w.heap.size 5 1 (.slice (some ⟨w.heap.size, 0, none⟩) 0 0) 0 [] :=
    ⟨rfl, .inr ⟨w.heap.size, 0, #[], rfl, Nat.le_refl _, Blk.new _ _ _, Nat.le_refl _, by unfold maxLen; omega, rfl, rfl⟩⟩
  have hsrc : ∀ j u, (cellsOf xs)[j]? = some u → (w.alloc (.cells #[] 5)).cell? (x.add j) = some u := by
    refine cellsOf_src fun i hi => ?_
    have := hc i hi
    rw [← this]
    refine World.cell?_of_block (w := w) (Below.heap_alloc _ _ _ ?_)
    rcases Nat.lt_or_ge (x.add i).block w.heap.size with h' | h'
    · exact h'
    · simp [World.cell?, Array.getElem?_eq_none h'] at this
  have HC : Hid _ := hcap
  have HN : Hid _ := hn
  have HS : Hid _ := hsrc
  clear hcap hc hn hsrc
  go_enter Try.func38, Try.ntmps38
  have H1 : Hid ((cellsOf xs).length = n * 1) := by show _ = _; rw [cellsOf_length, HN.out]; omega
  have H4 : Hid (0 + n ≤ maxLen) := by show _ ≤ _; have := HC.out; unfold maxLen; omega
  have H5 : Hid ((0 + n) * 1 ≤ 140737488355328) := by show _ ≤ _; have := HC.out; omega
  have H6 : Hid (w.heap.size ≤ (w.alloc (.cells #[] 5)).heap.size) := by show _ ≤ _; simp
  go_wp2_with (at_builtin; refine wpList_append_own _ rfl _ _ 22 rfl w.heap.size 5 i0 (.int .u8 0) 1 1 Try.underlying22 hi hz0 hz1 hz2 rfl (by decide) _ _ _ rfl hown x n c (cellsOf xs) rfl H1.out HS.out (cellsOf_one xs) H4.out H5.out H6.out ?_; intro v' w1 hown' hgrow hnil)
  go_ret
  have hv : v' ≠ .slice none 0 0 := fun h => by have := (hnil.1 h).1; cases this
  simp only [Nat.zero_add, List.nil_append] at hown'
  obtain ⟨q, hb, hq1, hq2⟩ := Bs.of_owns HN.out hown' hv
  exact ⟨v', q, rfl, hv, hb, hq1, hq2, Chg.of_below (((Below.refl _ w).alloc (Nat.le_refl _) _).grown hgrow (by simp) (by intro k hk; cases hk; exact Nat.le_refl _))⟩

set_option maxRecDepth 1000000 in
theorem clone_nil (w : World) :
    Calls Try.prog 38 #[.slice none 0 0] w fun e w' => e = .returned (.slice none 0 0) ∧ w' = w := by
  have hne := fun w => Lib.run_eql_slice_nil (P := Try.prog) w 22 5 none 0 0 0 0 Try.underlying22
  go_enter Try.func38, Try.ntmps38
  go_wp2
  go_ret
  exact ⟨rfl, rfl⟩

end Go.Proofs.Ytcmhalmmaodmhaa
