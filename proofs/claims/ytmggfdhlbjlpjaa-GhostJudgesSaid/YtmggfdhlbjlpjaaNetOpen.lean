/-
  DERIVED. A net that came in.
-/
import Derived.Test.YtmggfdhlbjlpjaaJdgW
import Derived.Test.YtmggfdhlbjlpjaaOpen
namespace Go.Proofs.Ytmggfdhlbjlpjaa
open Go.ChangeShapes Go.WideShapes Go.ChangeAt Go.RowKit
set_option linter.unusedSimpArgs false
set_option linter.unusedVariables false

def I64 (z : Int) : Prop := -9223372036854775808 ≤ z ∧ z ≤ 9223372036854775807

set_option maxRecDepth 100000 in
set_option maxHeartbeats 4000000 in
/-- Sets of parameters that came in. -/
theorem params_in {H : Type} {enc : TypeId × Value → H} {W : World} {fuel : Nat} {v : Value} {y : DataW H × List MemPlace} (hf : DataW.trod enc Try.prog W 0 (fun _ => true) true fuel 22 [v] = some y) :
    ∃ ws : List Int, Prs W (fun b => b < W.heap.size) v ws ∧ ∀ x ∈ ws, I64 x := by
  have h66 : Try.prog.cellsOf 66 = 5 := by kernel_rfl
  rcases Go.Deep.open_slice Try.underlying22 hf with ⟨hcs, _⟩ | ⟨x, l, c', m, f, D, Pl, hcs, _, hl, hm, hmm, hx0, hx⟩
  · simp at hcs
    subst hcs
    exact ⟨[], ⟨none, 0, [], rfl, rfl, fun h => absurd h (by simp), by simp, fun i h => absurd h (by simp)⟩, by simp⟩
  · simp at hcs
    subst hcs
    simp at hmm
    subst hmm
    have each : ∀ i, i < l → ∃ z : List Value × Int, z.1.length = 5 ∧ (∀ u ∈ z.1, u.oneCell' = true) ∧ z.1[3]? = some (.int .i64 z.2) ∧ I64 z.2 ∧ ∀ k u, z.1[k]? = some u → W.cell? (x.add (i * 5 + k)) = some u := by
      intro i hi
      obtain ⟨cs', e1, e2⟩ := hx i (by omega)
      rw [h66] at e1
      obtain ⟨_, hlen, hcell⟩ := World.cells?_some e1
      match cs', hlen with
      | [c0, c1, c2, c3, c4], _ =>
        obtain ⟨ys, n', _, hDi, _, hyl, hfld⟩ := DataW.trod_struct Try.underlying66 e2
        have cB : Try.prog.cellsOf 3 = 1 := by kernel_rfl
        have cD : Try.prog.cellsOf 23 = 1 := by kernel_rfl
        have hys : ∀ j, j < 5 → ∃ y, ys[j]? = some y := fun j hj => ⟨_, List.getElem?_eq_getElem (by rw [hyl]; exact hj)⟩
        obtain ⟨y0, w0⟩ := hys 0 (by omega)
        obtain ⟨y1, w1⟩ := hys 1 (by omega)
        obtain ⟨y2, w2⟩ := hys 2 (by omega)
        obtain ⟨y3, w3⟩ := hys 3 (by omega)
        obtain ⟨y4, w4⟩ := hys 4 (by omega)
        have t0 := hfld 0 _ rfl
        have t1 := hfld 1 _ rfl
        have t2 := hfld 2 _ rfl
        have t3 := hfld 3 _ rfl
        have t4 := hfld 4 _ rfl
        simp [cD, w0] at t0
        simp [cB, w1] at t1
        simp [cB, w2] at t2
        simp [cB, w3] at t3
        simp [cD, w4] at t4
        obtain ⟨k0, q0, _, g0⟩ := DataW.trod_int Try.underlying23 t0
        obtain ⟨k1, q1, _, g1⟩ := DataW.trod_int Try.underlying3 t1
        obtain ⟨k2, q2, _, g2⟩ := DataW.trod_int Try.underlying3 t2
        obtain ⟨k3, q3, _, g3⟩ := DataW.trod_int Try.underlying3 t3
        obtain ⟨k4, q4, _, g4⟩ := DataW.trod_int Try.underlying23 t4
        simp at q0 q1 q2 q3 q4
        subst q0 q1 q2 q3 q4
        refine ⟨([.int .u32 k0, .int .i64 k1, .int .i64 k2, .int .i64 k3, .int .u32 k4], k3), rfl, ?_, rfl, bounds_i64 g3, fun k u hu => ?_⟩
        · intro u hu
          simp only [List.mem_cons, List.not_mem_nil, or_false] at hu
          rcases hu with rfl | rfl | rfl | rfl | rfl <;> rfl
        · have hk : k < 5 := by
            rcases Nat.lt_or_ge k 5 with h | h
            · exact h
            · rw [List.getElem?_eq_none (by show 5 ≤ k; omega)] at hu; cases hu
          have hck := hcell k (by omega)
          rw [Go.Deep.add_add] at hck
          rw [hck, ← hu]
          try rfl
    have : Inhabited (List Value × Int) := ⟨([], 0)⟩
    obtain ⟨Z, hZ⟩ := Go.Deep.choose_lt each
    have hll : ((List.range l).map fun i => (Z i).2).length = l := by simp
    have hget : ∀ n, n ≤ l → ((List.range n).flatMap fun i => (Z i).1).length = n * 5 ∧ ∀ i, i < n → ∀ k, k < 5 → ((List.range n).flatMap fun i => (Z i).1)[i * 5 + k]? = (Z i).1[k]? := by
      intro n
      induction n with
      | zero => intro _; exact ⟨rfl, fun i h => absurd h (by omega)⟩
      | succ n ih =>
        intro hn
        obtain ⟨i1, i2⟩ := ih (by omega)
        have h5 := (hZ n (by omega)).1
        rw [List.range_succ, List.flatMap_append]
        simp only [List.flatMap_cons, List.flatMap_nil, List.append_nil]
        refine ⟨by rw [List.length_append, i1, h5]; omega, fun i hi k hk => ?_⟩
        by_cases e : i < n
        · rw [List.getElem?_append_left (by rw [i1]; omega)]
          exact i2 i e k hk
        · obtain rfl : i = n := by omega
          rw [List.getElem?_append_right (by rw [i1]; omega), i1]
          congr 1; omega
    obtain ⟨hg1, hg2⟩ := hget l (Nat.le_refl _)
    refine ⟨(List.range l).map fun i => (Z i).2, ⟨some x, _, (List.range l).flatMap fun i => (Z i).1, by rw [hll], by rw [hll, hg1], fun h0 => ?_, ?_, fun i hi => ?_⟩, ?_⟩
    · rw [hg1] at h0
      have hc : ∀ j u, ((List.range l).flatMap fun i => (Z i).1)[j]? = some u → W.cell? (x.add j) = some u := by
        intro j u hj
        have hjl : j < l * 5 := by
          rcases Nat.lt_or_ge j (l * 5) with h | h
          · exact h
          · rw [List.getElem?_eq_none (by omega)] at hj; cases hj
        have e : j = (j / 5) * 5 + j % 5 := by omega
        rw [e, hg2 (j / 5) (by omega) (j % 5) (by omega)] at hj
        have := (hZ (j / 5) (by omega)).2.2.2.2 (j % 5) u hj
        rw [e]; exact this
      obtain ⟨b, off, spot⟩ := x
      obtain ⟨u0, hu0⟩ : ∃ u, ((List.range l).flatMap fun i => (Z i).1)[0]? = some u := ⟨_, List.getElem?_eq_getElem (by omega)⟩
      have hc0 := hc 0 u0 hu0
      have hspot : spot = none := by
        have := spot_none hc0
        simpa [Addr.add] using this
      subst hspot
      refine ⟨b, off, rfl, ?_, fun j u hj => ?_⟩
      · have := lt_of_cell? hc0
        simpa [Addr.add] using this
      · have := hc j u hj
        rwa [add_at] at this
    · intro u hu
      obtain ⟨i, hi, hu⟩ := List.mem_flatMap.1 hu
      exact (hZ i (List.mem_range.1 hi)).2.1 u hu
    · rw [hll] at hi
      rw [hg2 i hi 3 (by omega), (hZ i hi).2.2.1]
      simp
    · intro z hz
      obtain ⟨i, hi, rfl⟩ := List.mem_map.1 hz
      exact (hZ i (List.mem_range.1 hi)).2.2.2.1

/-- A net that came in. -/
theorem net_open {H : Type} {enc : TypeId × Value → H} {W : World} {v : Value} {d : DataW H} {p : List MemPlace} {r : Reach} {b0 : Nat} (hv : Value.okWide Try.prog W r b0 25 v) (h : DataW.Trod enc Try.prog W 0 (fun _ => true) true 25 v d p) :
    ∃ vh vd wh wd ms, v = .agg #[vh, vd, .int .u32 ms] ∧ Prs W (fun b => b < W.heap.size) vh wh ∧ Prs W (fun b => b < W.heap.size) vd wd ∧ NetOk (wh.zip wd) := by
  obtain ⟨cs, rfl, hsz⟩ := okWide_struct Try.underlying25 hv
  have h3 : Try.prog.cellsOf 25 = 3 := by kernel_rfl
  rw [h3] at hsz
  obtain ⟨fuel, hf⟩ := h
  obtain ⟨cl⟩ := cs
  match cl, hsz with
  | [c0, c1, c2], _ =>
    have hf' : DataW.trod enc Try.prog W 0 (fun _ => true) true fuel 25 [c0, c1, c2] = some (d, p) := by simpa [Value.cells] using hf
    obtain ⟨ys, n', _, hDi, _, hyl, hfld⟩ := DataW.trod_struct Try.underlying25 hf'
    have cA : Try.prog.cellsOf 22 = 1 := by kernel_rfl
    have cD : Try.prog.cellsOf 23 = 1 := by kernel_rfl
    have hys : ∀ j, j < 3 → ∃ y, ys[j]? = some y := fun j hj => ⟨_, List.getElem?_eq_getElem (by rw [hyl]; exact hj)⟩
    obtain ⟨y0, w0⟩ := hys 0 (by omega)
    obtain ⟨y1, w1⟩ := hys 1 (by omega)
    obtain ⟨y2, w2⟩ := hys 2 (by omega)
    have t0 := hfld 0 _ rfl
    have t1 := hfld 1 _ rfl
    have t2 := hfld 2 _ rfl
    simp [cA, w0] at t0
    simp [cA, w1] at t1
    simp [cD, w2] at t2
    obtain ⟨k2, q2, _, g2⟩ := DataW.trod_int Try.underlying23 t2
    simp at q2
    subst q2
    obtain ⟨wh, p0, b0⟩ := params_in t0
    obtain ⟨wd, p1, b1⟩ := params_in t1
    refine ⟨_, _, wh, wd, k2, rfl, p0, p1, fun q hq => ?_⟩
    have := List.of_mem_zip (a := q.1) (b := q.2) hq
    exact ⟨b0 _ this.1, b1 _ this.2⟩

theorem judges_all {H : Type} {enc : TypeId × Value → H} {W : World} {v0 v1 : Value} {d0 d1 : DataW H} {p0 p1 : List MemPlace} {r0 r1 : Reach} {b0 b1 : Nat}
    (hv0 : Value.okWide Try.prog W r0 b0 25 v0) (h0 : DataW.Trod enc Try.prog W 0 (fun _ => true) true 25 v0 d0 p0)
    (hv1 : Value.okWide Try.prog W r1 b1 26 v1) (h1 : DataW.Trod enc Try.prog W 0 (fun _ => true) true 26 v1 d1 p1) (s1 : ∀ n ∈ d1.weights Try.prog 26, n ≤ reachBytes) :
    Calls Try.prog 3 #[v0, v1] W fun e w' => e = .returned (.bool true) ∧ Fr No W w' := by
  obtain ⟨vh, vd, wh, wd, ms, rfl, p0, p1, hn⟩ := net_open hv0 h0
  obtain ⟨l1, f1, g1, hl⟩ := facts_open hv1 h1 s1
  obtain ⟨b, cb, rfl, _⟩ := f1.shape
  exact judges_any vh vd wh wd ms b cb l1 W p0 p1 hn f1 g1 hl

end Go.Proofs.Ytmggfdhlbjlpjaa
