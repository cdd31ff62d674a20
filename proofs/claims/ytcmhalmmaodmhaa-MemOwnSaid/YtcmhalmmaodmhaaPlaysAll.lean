/-
  DERIVED. MemPlays at every input that can be read.
-/
import Derived.Test.YtcmhalmmaodmhaaPlays
import Derived.Deep.Slices
import Derived.Deep.Strs
import Derived.ProofKit
import Derived.OpenShut
namespace Go.Proofs.Ytcmhalmmaodmhaa
open Go.ChangeShapes Go.WideShapes Go.ChangeAt Go.RowKit
set_option linter.unusedSimpArgs false
set_option linter.unusedVariables false

theorem spot_none {w : World} {x : Addr} {v : Value} (h : w.cell? x = some v) : x.spot = none := World.cell?_spot h

set_option maxRecDepth 100000 in
/-- A slice of bytes that came in. -/
theorem bytes_open {H : Type} {enc : TypeId × Value → H} {W : World} {v : Value} {d : DataW H} {p : List MemPlace} {r : Reach} {b0 : Nat} (hv : Value.okWide Try.prog W r b0 22 v)
    (h : DataW.Trod enc Try.prog W 0 (fun _ => true) true 22 v d p) (hsz : ∀ n ∈ d.weights Try.prog 22, n ≤ reachBytes) :
    ∃ (a : Option Addr) (n c : Nat) (xs : List Int), v = .slice a n c ∧ xs.length = n ∧ n ≤ 140737488351232 ∧ (∀ x ∈ xs, 0 ≤ x ∧ x ≤ 255) ∧ (0 < n → ∃ x, a = some x ∧ ∀ i, i < xs.length → W.cell? (x.add i) = some (.int .u8 (xs.getD i 0))) := by
  obtain ⟨a, n, c, rfl⟩ := okWide_slice Try.underlying22 hv
  obtain ⟨fuel, hf⟩ := h
  rcases open_ints Try.underlying22 Try.underlying5 (by kernel_rfl) hf with ⟨hcs, _⟩ | ⟨x, l, c', zs, hcs, _, hl, hm, hz, hx, hcell, hwz⟩
  · simp [Value.cells] at hcs
    obtain ⟨rfl, rfl, rfl⟩ := hcs
    exact ⟨none, 0, 0, [], rfl, rfl, by omega, by simp, fun h => absurd h (by simp)⟩
  · simp [Value.cells] at hcs
    obtain ⟨rfl, rfl, rfl⟩ := hcs
    have hz' : zs.length = c := by simpa using hz
    have hreach : c ≤ 140737488351232 := by
      have := hsz c (by
        simp only [Prod.mk.injEq] at hx
        rw [hx.1]
        simp [DataW.weights, Try.underlying22, show Try.prog.bytesOf 5 = 1 from by kernel_rfl, lits]
        omega)
      simpa [reachBytes] using this
    refine ⟨_, n, _, zs.take n, rfl, by simp; omega, by omega, fun y hy => ?_, fun h0 => ⟨x, rfl, fun i hi => ?_⟩⟩
    · have := bounds_u8 (hwz y (List.mem_of_mem_take hy))
      omega
    · have hi' : i < n := by simp at hi; omega
      have := hcell i (by omega)
      rw [this]
      simp [List.getD, List.getElem?_take_of_lt hi']

set_option maxRecDepth 100000 in
/-- A slice of calls that came in. -/
theorem ops_open {H : Type} {enc : TypeId × Value → H} {W : World} {v : Value} {d : DataW H} {p : List MemPlace} {r : Reach} {b0 : Nat} (hv : Value.okWide Try.prog W r b0 46 v)
    (h : DataW.Trod enc Try.prog W 0 (fun _ => true) true 46 v d p) :
    ∃ (a : Option Addr) (n c : Nat) (ks is cs : Nat → Int), v = .slice a n c ∧ (0 < n → ∃ b off, a = some ⟨b, off, none⟩ ∧ ∀ i, i < n → W.cell? ⟨b, off + i * 3, none⟩ = some (.int .i64 (ks i)) ∧ W.cell? ⟨b, off + i * 3 + 1, none⟩ = some (.int .i64 (is i)) ∧ W.cell? ⟨b, off + i * 3 + 2, none⟩ = some (.int .u8 (cs i)) ∧ is i ≤ 9223372036854775807) := by
  obtain ⟨a, n, c, rfl⟩ := okWide_slice Try.underlying46 hv
  obtain ⟨fuel, hf⟩ := h
  have h42 : Try.prog.cellsOf 42 = 3 := by kernel_rfl
  rcases Go.Deep.open_slice Try.underlying46 hf with ⟨hcs, _⟩ | ⟨x, l, c', m, f, D, Pl, hcs, _, hl, hm, hmm, _, hx⟩
  · simp [Value.cells] at hcs
    obtain ⟨rfl, rfl, rfl⟩ := hcs
    exact ⟨none, 0, 0, fun _ => 0, fun _ => 0, fun _ => 0, rfl, fun h => absurd h (by simp)⟩
  · simp [Value.cells] at hcs
    obtain ⟨rfl, rfl, rfl⟩ := hcs
    simp at hmm
    subst hmm
    have each : ∀ i, i < n → ∃ z : Int × Int × Int, W.cell? (x.add (i * 3)) = some (.int .i64 z.1) ∧ W.cell? (x.add (i * 3 + 1)) = some (.int .i64 z.2.1) ∧ W.cell? (x.add (i * 3 + 2)) = some (.int .u8 z.2.2) ∧ z.2.1 ≤ 9223372036854775807 := by
      intro i hi
      obtain ⟨cs', e1, e2⟩ := hx i (by omega)
      rw [h42] at e1
      obtain ⟨_, hlen, hcell⟩ := World.cells?_some e1
      match cs', hlen with
      | [c0, c1, c2], _ =>
        obtain ⟨y0, y1, y2, g, _, _, t0, t1, t2⟩ := Go.Deep.trod_struct3 Try.underlying42 e2
        have cA : Try.prog.cellsOf 3 = 1 := by kernel_rfl
        have cB : Try.prog.cellsOf 5 = 1 := by kernel_rfl
        simp [cA, cB] at t0 t1 t2
        obtain ⟨k0, q0, _, g0⟩ := DataW.trod_int Try.underlying3 t0
        obtain ⟨k1, q1, _, g1⟩ := DataW.trod_int Try.underlying3 t1
        obtain ⟨k2, q2, _, g2⟩ := DataW.trod_int Try.underlying5 t2
        simp at q0 q1 q2
        subst q0 q1 q2
        have w0 := hcell 0 (by omega)
        have w1 := hcell 1 (by omega)
        have w2 := hcell 2 (by omega)
        rw [Go.Deep.add_add] at w0 w1 w2
        have := bounds_i64 g1
        exact ⟨(k0, k1, k2), by simpa using w0, by simpa using w1, by simpa using w2, this.2⟩
    by_cases h0 : n = 0
    · subst h0
      exact ⟨_, 0, _, fun _ => 0, fun _ => 0, fun _ => 0, rfl, fun h => absurd h (by simp)⟩
    obtain ⟨Z, hZ⟩ := Go.Deep.choose_lt each
    obtain ⟨b, off, spot⟩ := x
    have hc0 := (hZ 0 (by omega)).1
    have hspot : spot = none := by
      have := spot_none hc0
      simpa [Addr.add] using this
    subst hspot
    refine ⟨_, n, _, fun i => (Z i).1, fun i => (Z i).2.1, fun i => (Z i).2.2, rfl, fun _ => ⟨b, off, rfl, fun i hi => ?_⟩⟩
    obtain ⟨z0, z1, z2, z3⟩ := hZ i hi
    rw [add_at] at z0 z1 z2
    exact ⟨z0, by simpa [Nat.add_assoc] using z1, by simpa [Nat.add_assoc] using z2, z3⟩

set_option maxRecDepth 100000 in
theorem plays_all {H : Type} {enc : TypeId × Value → H} {W : World} (n : Int) {v1 v2 : Value} {d1 d2 : DataW H} {p1 p2 : List MemPlace} {r1 r2 : Reach} {b1 b2 : Nat}
    (hv1 : Value.okWide Try.prog W r1 b1 22 v1) (h1 : DataW.Trod enc Try.prog W 0 (fun _ => true) true 22 v1 d1 p1)
    (hsz : ∀ n ∈ d1.weights Try.prog 22, n ≤ reachBytes)
    (hv2 : Value.okWide Try.prog W r2 b2 46 v2) (h2 : DataW.Trod enc Try.prog W 0 (fun _ => true) true 46 v2 d2 p2) :
    Calls Try.prog 6 #[.int .i64 n, v1, v2] W fun e w' => e = .returned (.bool true) ∧ Chg [] W w' := by
  obtain ⟨a, m, c, xs, rfl, hl, hm, _, hx⟩ := bytes_open hv1 h1 hsz
  obtain ⟨as_, ls, cs, ks, is, cs', rfl, hs⟩ := ops_open hv2 h2
  by_cases hn : 0 ≤ n ∧ n ≤ 4096
  · by_cases hb : m ≤ 4096
    · exact plays_11 n hn.1 hn.2 a m c xs as_ ls cs ks is cs' W hl hm hb hx hs
    · exact plays_10 n hn.1 hn.2 a m c xs as_ ls cs ks is cs' W hl hm (by omega) hx hs
  · by_cases hb : m ≤ 4096
    · exact plays_01 n (by omega) a m c xs as_ ls cs ks is cs' W hl hm hb hx hs
    · exact plays_00 n (by omega) a m c xs as_ ls cs ks is cs' W hl hm (by omega) hx hs

end Go.Proofs.Ytcmhalmmaodmhaa
