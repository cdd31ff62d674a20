/-
  DERIVED. Tick and Ticks of a watchdog, and of the document's one.
-/
import Derived.Test.YtppeoifanilihaaDog
import Derived.Deep.RegionWith
namespace Go.Proofs.Ytppeoifanilihaa
open Go.RowKit
set_option linter.unusedSimpArgs false
set_option linter.unusedVariables false

theorem ret_bool {a b : Bool} (h : a = b) : Ending.returned (.bool a) = .returned (.bool b) := by rw [h]

/-- The count behind n ticks. -/
def cnt (L s n : Int) : Int := if L ≤ s then s else if L - s ≤ n then L else s + n
/-- Does one of n ticks make the limit? -/
def hit (L s n : Int) : Bool := decide (s < L) && decide (L - s ≤ n)

theorem tick_any (b : Nat) (L s : Int) (w : World) (h : Dog w b L s) (h1 : 0 ≤ s) (h2 : s ≤ L) (h3 : L ≤ 1048576) :
    Calls Try.prog 11 #[.pointer (some ⟨b, 0, none⟩)] w fun e w' => e = .returned (.bool (hit L s 1)) ∧ Dog w' b L (cnt L s 1) ∧ Chg [b] w w' := by
  have c0 := h.c0
  by_cases hx : L ≤ s
  · have e1 : hit L s 1 = false := by simp [hit]; omega
    have e2 : cnt L s 1 = s := by simp [cnt, hx]
    rw [e1, e2]
    have hd : decide (L ≤ s) = true := by simpa using hx
    go_enter Try.func11, Try.ntmps11
    go_wp2_with (go_at_call 10; refine (expired_any b L s _ h h1 (by omega)).mono ?_; rintro e w1 ⟨rfl, h', g'⟩; have c0' := h'.c0)
    go_ret
    exact ⟨rfl, h', g'.wide (by simp)⟩
  · have e1 : hit L s 1 = decide (s + 1 = L) := by rw [Bool.eq_iff_iff]; simp [hit]; omega
    have e2 : cnt L s 1 = s + 1 := by simp only [cnt]; split <;> omega
    rw [e1, e2]
    have hd : decide (L ≤ s) = false := by simpa using hx
    go_enter Try.func11, Try.ntmps11
    go_wp2_with (go_at_call 10; refine (expired_any b L s _ h h1 (by omega)).mono ?_; rintro e w1 ⟨rfl, h', g'⟩; have c0' := h'.c0)
    go_region_with (go_at_call 16; refine (add_any b L s _ _ ?_ h1 (by omega) (by omega)).mono ?_; exact h'; rintro e w' ⟨rfl, rfl⟩)
    all_goals (go_wp2; go_ret)
    all_goals exact ⟨ret_bool (by go_unwrap; rw [Bool.eq_iff_iff]; simp), Dog.set h' _, (g'.wide (by simp)).drew.setCell (by simp) _⟩

end Go.Proofs.Ytppeoifanilihaa
