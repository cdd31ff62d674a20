/-
  DERIVED. WatchPlays at every script that can be read.
-/
import Derived.Test.YtppeoifanilihaaPlays
import Derived.Deep.SlicePairs
import Derived.ProofKit
import Derived.OpenShut
namespace Go.Proofs.Ytppeoifanilihaa
open Go.ChangeShapes Go.WideShapes Go.ChangeAt Go.RowKit
set_option linter.unusedSimpArgs false
set_option linter.unusedVariables false

theorem add_at (b off n : Nat) : (⟨b, off, none⟩ : Addr).add n = ⟨b, off + n, none⟩ := by
  unfold Addr.add
  by_cases h : n = 0 <;> simp [h]

theorem plays_all {H : Type} {enc : TypeId × Value → H} {W : World} {v1 : Value} {d1 : DataW H} {p1 : List MemPlace} {may : Reach} {base : Nat} (L : Int)
    (h1 : DataW.Trod enc Try.prog W 0 (fun _ => true) true 33 v1 d1 p1) (hv1 : Value.okWide Try.prog W may base 33 v1) :
    Calls Try.prog 5 #[.int .i64 L, v1] W fun e w' => e = .returned (.bool true) ∧ Chg [] W w' := by
  by_cases hL : L < 1 ∨ 1048576 < L
  · exact plays_out L _ W hL
  obtain ⟨a1, len1, cap1, rfl⟩ := okWide_slice Try.underlying33 hv1
  obtain ⟨fuel, hf⟩ := h1
  rcases Go.Deep.open_slice_pairs Try.underlying33 Try.underlying38 (by kernel_rfl) rfl rfl (by kernel_rfl) (by kernel_rfl) hf with ⟨hcs, _⟩ | ⟨x, l, c, m, n, V0, V1, D0, D1, P0, P1, hcs, _, hl, hm, hmm, _, hcell⟩
  · simp [Value.cells] at hcs
    obtain ⟨rfl, rfl, rfl⟩ := hcs
    exact plays_empty L W (by omega) (by omega) none 0
  · simp [Value.cells] at hcs
    obtain ⟨rfl, rfl, rfl⟩ := hcs
    by_cases h0 : len1 = 0
    · subst h0; exact plays_empty L W (by omega) (by omega) _ _
    simp at hmm
    subst hmm
    obtain ⟨b, off, spot⟩ := x
    have hc0 := (hcell 0 (by omega)).1
    have hspot : spot = none := by simpa [Addr.add] using World.cell?_spot hc0
    subst hspot
    unfold maxLen at hm
    have hv : ∀ i, i < len1 → ∃ z : Int × Int, V0 i = .int .i64 z.1 ∧ V1 i = .int .i64 z.2 ∧ -9223372036854775808 ≤ z.2 ∧ z.2 ≤ 9223372036854775807 := by
      intro i hi
      obtain ⟨_, _, t0, t1⟩ := hcell i (by omega)
      obtain ⟨k0, e0, _, g0⟩ := DataW.trod_int Try.underlying3 t0
      obtain ⟨k1, e1, _, g1⟩ := DataW.trod_int Try.underlying3 t1
      simp at e0 e1
      have := bounds_i64 g1
      exact ⟨(k0, k1), e0, e1, by omega, by omega⟩
    obtain ⟨Z, hZ⟩ := Go.Deep.choose_lt hv
    refine plays_true L W (by omega) (by omega) b off len1 _ (fun i => (Z i).1) (fun i => (Z i).2) (by omega) (fun i hi => ?_) (fun i hi => ?_) (fun i hi => (hZ i hi).2.2)
    · have := (hcell i (by omega)).1
      rw [(hZ i hi).1] at this
      rwa [add_at] at this
    · have := (hcell i (by omega)).2.1
      rw [(hZ i hi).2.1] at this
      rw [add_at] at this; simpa [Nat.add_assoc] using this

end Go.Proofs.Ytppeoifanilihaa
