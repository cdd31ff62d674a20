/-
  DERIVED. GhostStarts at all data.
-/
import Derived.Test.YtmggfdhlbjlpjaaStarts
import Derived.Test.YtmggfdhlbjlpjaaOpen
namespace Go.Proofs.Ytmggfdhlbjlpjaa
open Go.ChangeShapes Go.WideShapes Go.ChangeAt Go.RowKit

theorem starts_all {H : Type} {enc : TypeId × Value → H} {W : World} (cut : Int) {v0 v1 : Value} {d0 d1 : DataW H} {p0 p1 : List MemPlace} {r0 r1 : Reach} {b0 b1 : Nat}
    (hv0 : Value.okWide Try.prog W r0 b0 26 v0) (h0 : DataW.Trod enc Try.prog W 0 (fun _ => true) true 26 v0 d0 p0) (s0 : ∀ n ∈ d0.weights Try.prog 26, n ≤ reachBytes)
    (hv1 : Value.okWide Try.prog W r1 b1 26 v1) (h1 : DataW.Trod enc Try.prog W 0 (fun _ => true) true 26 v1 d1 p1) (s1 : ∀ n ∈ d1.weights Try.prog 26, n ≤ reachBytes) :
    Calls Try.prog 4 #[v0, v1, .int .i64 cut] W fun e w' => e = .returned (.bool true) ∧ Fr No W w' := by
  obtain ⟨l0, f0, g0, _⟩ := facts_open hv0 h0 s0
  obtain ⟨l1, f1, g1, _⟩ := facts_open hv1 h1 s1
  obtain ⟨a, ca, rfl, _⟩ := f0.shape
  obtain ⟨b, cb, rfl, _⟩ := f1.shape
  exact starts_any _ _ a b ca cb l0 l1 cut W f0 f1 g0 g1

end Go.Proofs.Ytmggfdhlbjlpjaa
