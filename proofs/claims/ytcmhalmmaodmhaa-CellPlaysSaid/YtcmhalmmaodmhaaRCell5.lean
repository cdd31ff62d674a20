/-
  DERIVED. The document's Open in every case; its Next.
-/
import Derived.Test.YtcmhalmmaodmhaaRCell4
namespace Go.Proofs.Ytcmhalmmaodmhaa
open Go.RowKit
set_option linter.unusedSimpArgs false
set_option linter.unusedVariables false

/-- What the document's Open answers. -/
def ROpened (w w' : World) (p : Nat) (s : MS) (mx : Int) (e : Ending) : Prop :=
  ((openR s mx).2 = 0 ∧ ∃ c, e = .returned (.tuple #[.pointer (some ⟨c, 0, none⟩), .int .i64 0]) ∧ IsRCell w' c p mx (openV s) false ∧ w.heap.size ≤ c) ∨
  ((openR s mx).2 ≠ 0 ∧ e = .returned (.tuple #[.pointer none, .int .i64 (openR s mx).2]))

theorem ropen_all (p q : Nat) (s : MS) (mx : Int) (w : World) (h : IsRef w p q s) (hq : q < w.heap.size) (hok : s.Ok 50000) (hb : s.Bytes) :
    Calls Try.prog 34 #[.pointer (some ⟨p, 0, none⟩), .int .u32 mx] w fun e w' => ROpened w w' p s mx e ∧ IsRef w' p q (openR s mx).1 ∧ Chg [p, q] w w' := by
  by_cases hm : mx = 0
  · have E : openR s mx = (s, 2) := by unfold openR; rw [if_pos (.inl hm)]
    unfold ROpened
    rw [E]
    subst hm
    clear E
    go_enter Try.func34, Try.ntmps34
    go_wp2
    go_ret2
    exact ⟨.inr ⟨by decide, rfl⟩, h, Chg.refl _ _⟩
  · have hd1 : (mx == 0) = false := by simpa using hm
    obtain ⟨a, cap, c0, c1, c2, c3, c4, hf, hbl, hle, hr⟩ := h.cells
    by_cases hl : s.B.length < 10
    · have E : openR s mx = (s, 2) := by unfold openR; rw [if_pos (.inr hl)]
      unfold ROpened
      rw [E]
      have hd2 : decide ((s.B.length : Int) < 10) = true := by simp; omega
      clear E
      go_enter Try.func34, Try.ntmps34
      go_wp2
      go_ret2
      exact ⟨.inr ⟨by decide, rfl⟩, h, Chg.refl _ _⟩
    · by_cases ho : s.off = true
      · have E : openR s mx = (s, 70) := by unfold openR; rw [if_neg (by omega), if_pos ho]
        unfold ROpened
        rw [E]
        have hd2 : decide ((s.B.length : Int) < 10) = false := by simp; omega
        rw [ho] at c1
        clear E
        go_enter Try.func34, Try.ntmps34
        go_wp2
        go_ret2
        exact ⟨.inr ⟨by decide, rfl⟩, h, Chg.refl _ _⟩
      · exact ropen_any p q s mx w h hq hok hb hm (by omega) (by simpa using ho)

theorem rnext_cut (c p q : Nat) (s : MS) (mx v : Int) (dead : Bool) (w : World) (hc : IsRCell w c p mx v dead) (hmem : IsRef w p q s) (hd : dead = true ∨ s.off = true) :
    Calls Try.prog 35 #[.pointer (some ⟨c, 0, none⟩)] w fun e w' => e = .returned (.tuple #[.int .u32 0, .int .i64 70]) ∧ w = w' := by
  obtain ⟨a, cap, c0, c1, c2, c3, c4, hf, hbl, hle, hr⟩ := hmem.cells
  have d0 := hc.cell 0
  have d1 := hc.cell 1
  have d2 := hc.cell 2
  have d3 := hc.cell 3
  simp at d0 d1 d2 d3
  go_enter Try.func35, Try.ntmps35
  cases dead with
  | true =>
    go_wp2
    go_ret2
    exact ⟨rfl, rfl⟩
  | false =>
    have ho : s.off = true := by simpa using hd
    go_wp2
    go_ret2
    exact ⟨rfl, rfl⟩

theorem rnext_full (c p q : Nat) (s : MS) (mx v : Int) (w : World) (hc : IsRCell w c p mx v false) (hmem : IsRef w p q s) (ho : s.off = false) (hv : mx ≤ v) :
    Calls Try.prog 35 #[.pointer (some ⟨c, 0, none⟩)] w fun e w' => e = .returned (.tuple #[.int .u32 0, .int .i64 80]) ∧ Dr w w' := by
  obtain ⟨a, cap, c0, c1, c2, c3, c4, hf, hbl, hle, hr⟩ := hmem.cells
  have d0 := hc.cell 0
  have d1 := hc.cell 1
  have d2 := hc.cell 2
  have d3 := hc.cell 3
  simp at d0 d1 d2 d3
  have hd : decide (mx ≤ v) = true := by simpa using hv
  go_enter Try.func35, Try.ntmps35
  go_wp2
  go_quiet (fail)
  go_wp2
  go_ret2
  exact ⟨rfl, _, rfl⟩

/-- What the document's Next answers. -/
def RNexted (w' : World) (c p : Nat) (s : MS) (mx v : Int) (e : Ending) : Prop :=
  ((nextR s v).2 = 0 ∧ e = .returned (.tuple #[.int .u32 (v + 1), .int .i64 0]) ∧ IsRCell w' c p mx (v + 1) false) ∨
  ((nextR s v).2 ≠ 0 ∧ e = .returned (.tuple #[.int .u32 0, .int .i64 70]) ∧ IsRCell w' c p mx v true)

end Go.Proofs.Ytcmhalmmaodmhaa
