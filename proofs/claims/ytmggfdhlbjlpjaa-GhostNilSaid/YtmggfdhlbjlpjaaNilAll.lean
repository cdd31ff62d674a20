/-
  DERIVED. GhostNil, whatever came in.
-/
import Derived.Test.YtmggfdhlbjlpjaaNilW
import Derived.Test.YtmggfdhlbjlpjaaOpen
namespace Go.Proofs.Ytmggfdhlbjlpjaa
open Go.RowKit
set_option linter.unusedSimpArgs false
set_option linter.unusedVariables false

set_option maxRecDepth 1000000 in
theorem nil_long (a : Option Addr) (n ca : Nat) (w : World) (hl : 300 < n) :
    Calls Try.prog 5 #[.slice a n ca] w fun e w' => e = .returned (.bool true) ∧ Fr No w w' := by
  have l1 : decide ((300 : Int) < n) = true := by simp; omega
  go_enter Try.func5, Try.ntmps5
  go_wp2_with (go_at_call 7; refine (awake_any _).mono ?_; rintro e w1 ⟨rfl, hk1⟩)
  go_ret
  exact ⟨rfl, hk1⟩

theorem nil_all {H : Type} {enc : TypeId × Value → H} {W : World} {v1 : Value} {d1 : DataW H} {p1 : List MemPlace} {r1 : Reach} {b1 : Nat}
    (hv1 : Value.okWide Try.prog W r1 b1 26 v1) (h1 : DataW.Trod enc Try.prog W 0 (fun _ => true) true 26 v1 d1 p1) (s1 : ∀ n ∈ d1.weights Try.prog 26, n ≤ reachBytes) :
    Calls Try.prog 5 #[v1] W fun e w' => e = .returned (.bool true) ∧ Fr No W w' := by
  obtain ⟨l1, f1, g1, hl⟩ := facts_open hv1 h1 s1
  obtain ⟨b, cb, rfl, _⟩ := f1.shape
  by_cases h300 : l1.length ≤ 300
  · by_cases hp : 0 < l1.length
    · obtain ⟨_, b2, off2, vf0, rfl, _⟩ := f1.at_ hp
      exact nil_cons b2 off2 cb l1 W h300 hp f1 g1
    · obtain rfl : l1 = [] := by cases l1 with
        | nil => rfl
        | cons x r => exact absurd (Nat.succ_pos _) hp
      exact nil_nil b cb W f1
  · exact nil_long b _ cb W (by omega)

end Go.Proofs.Ytmggfdhlbjlpjaa
