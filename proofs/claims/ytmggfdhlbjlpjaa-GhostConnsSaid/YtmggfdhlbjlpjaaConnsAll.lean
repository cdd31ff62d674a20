/-
  DERIVED. GhostConns at all data.
-/
import Derived.Test.YtmggfdhlbjlpjaaConnsW
namespace Go.Proofs.Ytmggfdhlbjlpjaa
open Go.ChangeShapes Go.WideShapes Go.ChangeAt Go.RowKit

theorem conns_all {H : Type} {enc : TypeId × Value → H} {W : World} {v0 : Value} {d0 : DataW H} {p0 : List MemPlace} {r0 : Reach} {b0 : Nat}
    (hv0 : Value.okWide Try.prog W r0 b0 26 v0) (h0 : DataW.Trod enc Try.prog W 0 (fun _ => true) true 26 v0 d0 p0) (s0 : ∀ n ∈ d0.weights Try.prog 26, n ≤ reachBytes) :
    Calls Try.prog 6 #[v0] W fun e w' => e = .returned (.bool true) ∧ Fr No W w' := by
  obtain ⟨l0, f0, g0, _⟩ := facts_open hv0 h0 s0
  obtain ⟨a, ca, rfl, _⟩ := f0.shape
  exact conns_any a ca l0 W f0 g0

end Go.Proofs.Ytmggfdhlbjlpjaa
