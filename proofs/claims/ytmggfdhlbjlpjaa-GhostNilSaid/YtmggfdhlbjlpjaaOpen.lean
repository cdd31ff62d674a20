/-
  DERIVED. Lists of facts that came in.
-/
import Derived.Test.YtmggfdhlbjlpjaaApp
import Derived.Deep.Slices
import Derived.Deep.Strs
import Derived.ProofKit
import Derived.OpenShut
namespace Go.Proofs.Ytmggfdhlbjlpjaa
open Go.ChangeShapes Go.WideShapes Go.ChangeAt Go.RowKit
set_option linter.unusedSimpArgs false
set_option linter.unusedVariables false

theorem spot_none {w : World} {x : Addr} {v : Value} (h : w.cell? x = some v) : x.spot = none := World.cell?_spot h

theorem weightsAll_mem {H : Type} {P : Program} {e : TypeId} {d : DataW H} {n : Nat} (hn : n ∈ d.weights P e) : ∀ {l : List (DataW H)}, d ∈ l → n ∈ DataW.weightsAll P e l
  | [], h => by cases h
  | a :: r, h => by
    unfold DataW.weightsAll
    rcases List.mem_cons.1 h with rfl | h
    · exact List.mem_append_left _ hn
    · exact List.mem_append_right _ (weightsAll_mem hn h)

set_option maxRecDepth 100000 in
/-- Bytes that came in. -/
theorem bytes_in {H : Type} {enc : TypeId × Value → H} {W : World} {fuel : Nat} {v : Value} {y : DataW H × List MemPlace} (hf : DataW.trod enc Try.prog W 0 (fun _ => true) true fuel 41 [v] = some y) (hsz : ∀ n ∈ y.1.weights Try.prog 41, n ≤ reachBytes) :
    ∃ l : List UInt8, Bs W (fun b => b < W.heap.size) v l ∧ l.length ≤ 140737488351232 := by
  rcases open_ints Try.underlying41 Try.underlying5 (by kernel_rfl) hf with ⟨hcs, _⟩ | ⟨x, l, c', zs, hcs, _, hl, hm, hz, hx, hcell, hwz⟩
  · simp at hcs
    subst hcs
    exact ⟨[], ⟨none, 0, rfl, fun _ => rfl, fun h => absurd h (by simp)⟩, by simp⟩
  · simp at hcs
    subst hcs
    have hz' : zs.length = c' := by simpa using hz
    have hreach : c' ≤ 140737488351232 := by
      have := hsz c' (by
        rw [hx]
        simp [DataW.weights, Try.underlying41, show Try.prog.bytesOf 5 = 1 from by kernel_rfl, lits]
        omega)
      simpa [reachBytes] using this
    have hll : ((zs.take l).map fun z => UInt8.ofNat z.toNat).length = l := by simp; omega
    refine ⟨(zs.take l).map fun z => UInt8.ofNat z.toNat, ⟨some x, c', by rw [hll], fun h => (by cases h), fun h0 => ?_⟩, by omega⟩
    rw [hll] at h0
    have hc : ∀ i (h : i < ((zs.take l).map fun z => UInt8.ofNat z.toNat).length), W.cell? (x.add i) = some (.int .u8 ((((zs.take l).map fun z => UInt8.ofNat z.toNat)[i]).toNat : Int)) := by
      intro i hi
      rw [hll] at hi
      rw [hcell i (by omega)]
      have hiz : i < zs.length := by omega
      have hb := bounds_u8 (hwz zs[i] (List.getElem_mem _))
      simp [List.getD, hiz, List.getElem_take]
      omega
    obtain ⟨b, off, spot⟩ := x
    have hc0 := hc 0 (by omega)
    have hspot : spot = none := by
      have := spot_none hc0
      simpa [Addr.add] using this
    subst hspot
    refine ⟨b, off, rfl, ?_, fun i hi => ?_⟩
    · have := lt_of_cell? hc0
      simpa [Addr.add] using this
    · have := hc i hi
      rwa [add_at] at this

set_option maxRecDepth 100000 in
set_option maxHeartbeats 4000000 in
/-- A list of facts that came in. -/
theorem facts_open {H : Type} {enc : TypeId × Value → H} {W : World} {v : Value} {d : DataW H} {p : List MemPlace} {r : Reach} {b0 : Nat} (hv : Value.okWide Try.prog W r b0 26 v) (h : DataW.Trod enc Try.prog W 0 (fun _ => true) true 26 v d p) (hsz : ∀ n ∈ d.weights Try.prog 26, n ≤ reachBytes) :
    ∃ l : List FactP, Fs W (fun b => b < W.heap.size) (fun b => b < W.heap.size) v l ∧ (∀ f ∈ l, f.Good) ∧ l.length * 72 ≤ 140737488351232 := by
  obtain ⟨a, n, c, rfl⟩ := okWide_slice Try.underlying26 hv
  obtain ⟨fuel, hf⟩ := h
  have h43 : Try.prog.cellsOf 43 = 8 := by kernel_rfl
  rcases Go.Deep.open_slice Try.underlying26 hf with ⟨hcs, _⟩ | ⟨x, l, c', m, f, D, Pl, hcs, _, hl, hm, hmm, hx0, hx⟩
  · simp [Value.cells] at hcs
    obtain ⟨rfl, rfl, rfl⟩ := hcs
    exact ⟨[], ⟨none, 0, rfl, by simp, fun _ => rfl, fun h => absurd h (by simp)⟩, fun f hf => (by cases hf), by simp⟩
  · simp [Value.cells] at hcs
    obtain ⟨rfl, rfl, rfl⟩ := hcs
    simp at hmm
    subst hmm
    simp only [Prod.mk.injEq] at hx0
    have hcap : n * 72 ≤ 140737488351232 := by
      have := hsz (m * 72) (by
        rw [hx0.1]
        simp [DataW.weights, Try.underlying26, show Try.prog.bytesOf 43 = 72 from by kernel_rfl]
        left; omega)
      have h2 : m * 72 ≤ 140737488351232 := by simpa [reachBytes] using this
      omega
    have each : ∀ i, i < n → ∃ z : FactP × Value, z.1.Good ∧ Bs W (fun b => b < W.heap.size) z.2 z.1.data ∧ ∀ k u, (factCells z.1 z.2)[k]? = some u → W.cell? (x.add (i * 8 + k)) = some u := by
      intro i hi
      obtain ⟨cs', e1, e2⟩ := hx i (by omega)
      rw [h43] at e1
      obtain ⟨_, hlen, hcell⟩ := World.cells?_some e1
      match cs', hlen with
      | [c0, c1, c2, c3, c4, c5, c6, c7], _ =>
        obtain ⟨ys, n', _, hDi, _, hyl, hfld⟩ := DataW.trod_struct Try.underlying43 e2
        simp only [Prod.mk.injEq] at hDi
        have cA : Try.prog.cellsOf 38 = 1 := by kernel_rfl
        have cB : Try.prog.cellsOf 3 = 1 := by kernel_rfl
        have cC : Try.prog.cellsOf 39 = 1 := by kernel_rfl
        have cD : Try.prog.cellsOf 23 = 1 := by kernel_rfl
        have cE : Try.prog.cellsOf 4 = 1 := by kernel_rfl
        have cF : Try.prog.cellsOf 40 = 1 := by kernel_rfl
        have cG : Try.prog.cellsOf 41 = 1 := by kernel_rfl
        have hys : ∀ j, j < 8 → ∃ y, ys[j]? = some y := fun j hj => ⟨_, List.getElem?_eq_getElem (by rw [hyl]; exact hj)⟩
        obtain ⟨y0, w0⟩ := hys 0 (by omega)
        obtain ⟨y1, w1⟩ := hys 1 (by omega)
        obtain ⟨y2, w2⟩ := hys 2 (by omega)
        obtain ⟨y3, w3⟩ := hys 3 (by omega)
        obtain ⟨y4, w4⟩ := hys 4 (by omega)
        obtain ⟨y5, w5⟩ := hys 5 (by omega)
        obtain ⟨y6, w6⟩ := hys 6 (by omega)
        obtain ⟨y7, w7⟩ := hys 7 (by omega)
        have t0 := hfld 0 _ rfl
        have t1 := hfld 1 _ rfl
        have t2 := hfld 2 _ rfl
        have t3 := hfld 3 _ rfl
        have t4 := hfld 4 _ rfl
        have t5 := hfld 5 _ rfl
        have t6 := hfld 6 _ rfl
        have t7 := hfld 7 _ rfl
        simp [cA, w0] at t0
        simp [cB, w1] at t1
        simp [cC, w2] at t2
        simp [cD, w3] at t3
        simp [cD, w4] at t4
        simp [cE, w5] at t5
        simp [cF, w6] at t6
        simp [cG, w7] at t7
        obtain ⟨k0, q0, _, g0⟩ := DataW.trod_int Try.underlying38 t0
        obtain ⟨k1, q1, _, g1⟩ := DataW.trod_int Try.underlying3 t1
        obtain ⟨k2, q2, _, g2⟩ := DataW.trod_int Try.underlying39 t2
        obtain ⟨k3, q3, _, g3⟩ := DataW.trod_int Try.underlying23 t3
        obtain ⟨k4, q4, _, g4⟩ := DataW.trod_int Try.underlying23 t4
        obtain ⟨k5, q5, _⟩ := DataW.trod_bool Try.underlying4 t5
        obtain ⟨k6, q6, _, g6⟩ := DataW.trod_int Try.underlying40 t6
        simp at q0 q1 q2 q3 q4 q5 q6
        subst q0 q1 q2 q3 q4 q5 q6
        obtain ⟨dl, hb, hdl⟩ := bytes_in t7 (fun n' hn' => by
          refine hsz n' ?_
          rw [hx0.1]
          have h1 : n' ∈ (D i).weights Try.prog 43 := by
            rw [hDi.1]
            have : n' ∈ DataW.weightsEach Try.prog [38, 3, 39, 23, 23, 4, 40, 41] (ys.map (·.1)) := DataW.weights_mem_each (j := 7) (t := 41) (d := y7.1) (by kernel_rfl) (by simp [w7]) n' hn'
            simpa [DataW.weights, Try.underlying43] using this
          have h2 := weightsAll_mem (P := Try.prog) (e := 43) h1 (l := (List.range n).map D) (List.mem_map.2 ⟨i, List.mem_range.2 hi, rfl⟩)
          simp [DataW.weights, Try.underlying26]
          exact .inr (.inl h2))
        refine ⟨(⟨k0, k1, k2, k3, k4, k5, k6, dl⟩, c7), ⟨⟨bounds_u32 g3, bounds_u32 g4, bounds_i64 g6⟩, hdl⟩, hb, fun k u hu => ?_⟩
        have hk : k < 8 := by
          rcases Nat.lt_or_ge k 8 with h | h
          · exact h
          · rw [Array.getElem?_eq_none (by show 8 ≤ k; omega)] at hu; cases hu
        have hck := hcell k (by omega)
        rw [Go.Deep.add_add] at hck
        rw [hck, ← hu]
        rcases (by omega : k = 0 ∨ k = 1 ∨ k = 2 ∨ k = 3 ∨ k = 4 ∨ k = 5 ∨ k = 6 ∨ k = 7) with rfl | rfl | rfl | rfl | rfl | rfl | rfl | rfl <;> rfl
    by_cases h0 : n = 0
    · subst h0
      exact ⟨[], ⟨_, _, rfl, by simp, fun h => (by cases h), fun h => absurd h (by simp)⟩, fun f hf => (by cases hf), by simp⟩
    have : Inhabited (FactP × Value) := ⟨(⟨0, 0, 0, 0, 0, false, 0, []⟩, .slice none 0 0)⟩
    obtain ⟨Z, hZ⟩ := Go.Deep.choose_lt each
    obtain ⟨b, off, spot⟩ := x
    have hc0 := (hZ 0 (by omega)).2.2 0 _ rfl
    have hspot : spot = none := by
      have := spot_none hc0
      simpa [Addr.add] using this
    subst hspot
    have hll : ((List.range n).map fun i => (Z i).1).length = n := by simp
    refine ⟨(List.range n).map fun i => (Z i).1, ⟨_, _, by rw [hll], by rw [hll]; exact hl, fun h => (by cases h), fun _ => ⟨b, off, rfl, ?_, fun i hi => ?_⟩⟩, ?_, by rw [hll]; exact hcap⟩
    · have := lt_of_cell? hc0
      simpa [Addr.add] using this
    · rw [hll] at hi
      obtain ⟨z0, z1, z2⟩ := hZ i hi
      refine ⟨(Z i).2, by simpa using z1, fun k u hu => ?_⟩
      have := z2 k u (by simpa using hu)
      rw [add_at] at this
      rw [Nat.add_assoc]
      exact this
    · intro f hf
      obtain ⟨i, hi, rfl⟩ := List.mem_map.1 hf
      exact (hZ i (List.mem_range.1 hi)).1

end Go.Proofs.Ytmggfdhlbjlpjaa
