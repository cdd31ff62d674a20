/-
  DERIVED. MemCuts at every input that can be read.
-/
import Derived.Test.YtcmhalmmaodmhaaCuts
import Derived.Test.YtcmhalmmaodmhaaPlaysAll
namespace Go.Proofs.Ytcmhalmmaodmhaa
open Go.ChangeShapes Go.WideShapes Go.ChangeAt Go.RowKit
set_option linter.unusedSimpArgs false
set_option linter.unusedVariables false

set_option maxRecDepth 100000 in
/-- A slice of ints that came in. -/
theorem ints_open {H : Type} {enc : TypeId × Value → H} {W : World} {v : Value} {d : DataW H} {p : List MemPlace} {r : Reach} {b0 : Nat} (hv : Value.okWide Try.prog W r b0 35 v)
    (h : DataW.Trod enc Try.prog W 0 (fun _ => true) true 35 v d p) :
    ∃ (a : Option Addr) (n c : Nat) (zs : Nat → Int), v = .slice a n c ∧ (0 < n → ∃ b off, a = some ⟨b, off, none⟩ ∧ ∀ i, i < n → W.cell? ⟨b, off + i, none⟩ = some (.int .i64 (zs i)) ∧ -9223372036854775808 ≤ zs i ∧ zs i ≤ 9223372036854775807) := by
  obtain ⟨a, n, c, rfl⟩ := okWide_slice Try.underlying35 hv
  obtain ⟨fuel, hf⟩ := h
  rcases open_ints Try.underlying35 Try.underlying3 (by kernel_rfl) hf with ⟨hcs, _⟩ | ⟨x, l, c', zs, hcs, _, hl, hm, hz, hx, hcell, hwz⟩
  · simp [Value.cells] at hcs
    obtain ⟨rfl, rfl, rfl⟩ := hcs
    exact ⟨none, 0, 0, fun _ => 0, rfl, fun h => absurd h (by simp)⟩
  · simp [Value.cells] at hcs
    obtain ⟨rfl, rfl, rfl⟩ := hcs
    have hz' : zs.length = c := by simpa using hz
    by_cases h0 : n = 0
    · subst h0
      exact ⟨_, 0, _, fun _ => 0, rfl, fun h => absurd h (by simp)⟩
    obtain ⟨b, off, spot⟩ := x
    have hspot : spot = none := by
      have := spot_none (hcell 0 (by omega))
      simpa [Addr.add] using this
    subst hspot
    refine ⟨_, n, _, fun i => zs.getD i 0, rfl, fun _ => ⟨b, off, rfl, fun i hi => ?_⟩⟩
    have h1 := hcell i (by omega)
    rw [add_at] at h1
    have h2 : zs.getD i 0 = zs[i] := by simp [List.getD, show i < zs.length by omega]
    have := bounds_i64 (hwz _ (List.getElem_mem (show i < zs.length by omega)))
    exact ⟨h1, by show _ ≤ zs.getD i 0; rw [h2]; exact this.1, by show zs.getD i 0 ≤ _; rw [h2]; exact this.2⟩

set_option maxRecDepth 100000 in
theorem cuts_all {H : Type} {enc : TypeId × Value → H} {W : World} (n : Int) {v1 v2 : Value} {d1 d2 : DataW H} {p1 p2 : List MemPlace} {r1 r2 : Reach} {b1 b2 : Nat}
    (hv1 : Value.okWide Try.prog W r1 b1 22 v1) (h1 : DataW.Trod enc Try.prog W 0 (fun _ => true) true 22 v1 d1 p1) (hsz : ∀ n ∈ d1.weights Try.prog 22, n ≤ reachBytes)
    (hv2 : Value.okWide Try.prog W r2 b2 35 v2) (h2 : DataW.Trod enc Try.prog W 0 (fun _ => true) true 35 v2 d2 p2) :
    Calls Try.prog 4 #[v1, .int .i64 n, v2] W fun e w' => e = .returned (.bool true) ∧ Chg [] W w' := by
  obtain ⟨a, m, c, xs, rfl, hl, hm, _, hx⟩ := bytes_open hv1 h1 hsz
  obtain ⟨as_, ls, cs, zs, rfl, hs⟩ := ints_open hv2 h2
  by_cases h : n < 0 ∨ 300 < n ∨ m < 1 ∨ 4096 < m ∨ 400 < ls
  · exact cuts_out n a m c as_ ls cs W h
  · exact cuts_true n (by omega) (by omega) a m c xs as_ ls cs zs W hl (by omega) (by omega) (by omega) hx (fun h0 => let ⟨b, off, e, hc⟩ := hs h0; ⟨b, off, e, fun i hi => (hc i hi).1⟩)

end Go.Proofs.Ytcmhalmmaodmhaa
