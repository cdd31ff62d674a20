/-
  DERIVED. CellPlays at all data.
-/
import Derived.Test.YtcmhalmmaodmhaaCPlays2
import Derived.Test.YtcmhalmmaodmhaaPlaysAll
namespace Go.Proofs.Ytcmhalmmaodmhaa
open Go.RowKit Go.ChangeShapes Go.WideShapes Go.ChangeAt
set_option linter.unusedSimpArgs false
set_option linter.unusedVariables false

set_option maxRecDepth 100000 in
/-- A slice of the cell's calls that came in. -/
theorem cops_open {H : Type} {enc : TypeId × Value → H} {W : World} {v : Value} {d : DataW H} {p : List MemPlace} {r : Reach} {b0 : Nat} (hv : Value.okWide Try.prog W r b0 65 v)
    (h : DataW.Trod enc Try.prog W 0 (fun _ => true) true 65 v d p) :
    ∃ (a : Option Addr) (n c : Nat) (ks ns : Nat → Int), v = .slice a n c ∧ (0 < n → ∃ b off, a = some ⟨b, off, none⟩ ∧ ∀ i, i < n → W.cell? ⟨b, off + i * 2, none⟩ = some (.int .i64 (ks i)) ∧ W.cell? ⟨b, off + i * 2 + 1, none⟩ = some (.int .i64 (ns i)) ∧ ns i ≤ 9223372036854775807) := by
  obtain ⟨a, n, c, rfl⟩ := okWide_slice Try.underlying65 hv
  obtain ⟨fuel, hf⟩ := h
  have h42 : Try.prog.cellsOf 74 = 2 := by kernel_rfl
  rcases Go.Deep.open_slice Try.underlying65 hf with ⟨hcs, _⟩ | ⟨x, l, c', m, f, D, Pl, hcs, _, hl, hm, hmm, _, hx⟩
  · simp [Value.cells] at hcs
    obtain ⟨rfl, rfl, rfl⟩ := hcs
    exact ⟨none, 0, 0, fun _ => 0, fun _ => 0, rfl, fun h => absurd h (by simp)⟩
  · simp [Value.cells] at hcs
    obtain ⟨rfl, rfl, rfl⟩ := hcs
    simp at hmm
    subst hmm
    have each : ∀ i, i < n → ∃ z : Int × Int, W.cell? (x.add (i * 2)) = some (.int .i64 z.1) ∧ W.cell? (x.add (i * 2 + 1)) = some (.int .i64 z.2) ∧ z.2 ≤ 9223372036854775807 := by
      intro i hi
      obtain ⟨cs', e1, e2⟩ := hx i (by omega)
      rw [h42] at e1
      obtain ⟨_, hlen, hcell⟩ := World.cells?_some e1
      match cs', hlen with
      | [c0, c1], _ =>
        obtain ⟨y0, y1, g, _, _, t0, t1⟩ := trod_struct2 Try.underlying74 e2
        have cA : Try.prog.cellsOf 3 = 1 := by kernel_rfl
        simp [cA] at t0 t1
        obtain ⟨k0, q0, _, g0⟩ := DataW.trod_int Try.underlying3 t0
        obtain ⟨k1, q1, _, g1⟩ := DataW.trod_int Try.underlying3 t1
        simp at q0 q1
        subst q0 q1
        have w0 := hcell 0 (by omega)
        have w1 := hcell 1 (by omega)
        rw [Go.Deep.add_add] at w0 w1
        have := bounds_i64 g1
        exact ⟨(k0, k1), by simpa using w0, by simpa using w1, this.2⟩
    by_cases h0 : n = 0
    · subst h0
      exact ⟨_, 0, _, fun _ => 0, fun _ => 0, rfl, fun h => absurd h (by simp)⟩
    obtain ⟨Z, hZ⟩ := Go.Deep.choose_lt each
    obtain ⟨b, off, spot⟩ := x
    have hc0 := (hZ 0 (by omega)).1
    have hspot : spot = none := by
      have := spot_none hc0
      simpa [Addr.add] using this
    subst hspot
    refine ⟨_, n, _, fun i => (Z i).1, fun i => (Z i).2, rfl, fun _ => ⟨b, off, rfl, fun i hi => ?_⟩⟩
    obtain ⟨z0, z1, z3⟩ := hZ i hi
    rw [add_at] at z0 z1
    exact ⟨z0, by simpa [Nat.add_assoc] using z1, z3⟩

set_option maxRecDepth 100000 in
theorem cplays_all {H : Type} {enc : TypeId × Value → H} {W : World} (mx : Int) {v1 v2 : Value} {d1 d2 : DataW H} {p1 p2 : List MemPlace} {r1 r2 : Reach} {b1 b2 : Nat}
    (hv1 : Value.okWide Try.prog W r1 b1 22 v1) (h1 : DataW.Trod enc Try.prog W 0 (fun _ => true) true 22 v1 d1 p1)
    (hsz : ∀ n ∈ d1.weights Try.prog 22, n ≤ reachBytes) (hmx : mx ≤ 4294967295)
    (hv2 : Value.okWide Try.prog W r2 b2 65 v2) (h2 : DataW.Trod enc Try.prog W 0 (fun _ => true) true 65 v2 d2 p2) :
    Calls Try.prog 11 #[v1, .int .u32 mx, v2] W fun e w' => e = .returned (.bool true) ∧ Chg [] W w' := by
  obtain ⟨a, m, c, xs, rfl, hl, hm, hb, hx⟩ := bytes_open hv1 h1 hsz
  obtain ⟨as_, ls, cs, ks, ns, rfl, hs⟩ := cops_open hv2 h2
  by_cases h : 4096 < m
  · exact cplays_big a m c xs mx as_ ls cs W hl hm h hx
  · exact cplays_ok a m c xs mx as_ ls cs ks ns W hl (by omega) hb hmx hx hs

end Go.Proofs.Ytcmhalmmaodmhaa
