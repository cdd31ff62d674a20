/-
  DERIVED. The walk of the reference's See.
-/
import Derived.Test.YtmggfdhlbjlpjaaRRd
import Derived.Test.YtmggfdhlbjlpjaaSee
namespace Go.Proofs.Ytmggfdhlbjlpjaa
open Go.RowKit
set_option linter.unusedSimpArgs false
set_option linter.unusedVariables false

theorem IsR.redo {w w' : World} {O O' : Nat → Prop} {j n : Nat} {st st' : JP} (h : IsR w O j st n) (k : Fr (fun b => b = j) w w') (hb : ∀ ve vse vst, Blk w j (rCells ve vse vst st) 48 → Blk w' j (rCells ve vse vst st') 48) (hl : st'.lines = st.lines) (hO : ∀ b, O b → O' b) (hO' : ∀ b, O' b → b < w'.heap.size) : IsR w' O' j st' n := by
  obtain ⟨h1, h2, ve, vse, vst, S, a, b, c, d, e, f⟩ := h
  have un : ∀ {x : Nat} {cs : Array Value} {t : TypeId}, t ≠ 48 → Blk w x cs t → ¬ x = j := fun ht hb => hb.unlike a ht
  refine ⟨hO', hO _ h2, ve, vse, vst, S, hb _ _ _ a, ?_, ?_, ?_, ?_, f⟩
  · rw [hl]; exact b.keep k (fun b c _ h => un (by decide) h) (fun b c _ h => un (by decide) h) hO
  · rw [hl]; exact c.keep k (fun b c _ h => un (by decide) h) hO
  · exact d.keep k (fun b c _ h => un (by decide) h) (fun b c _ h => un (by decide) h) fun b h _ => hO b h
  · rw [hl]; exact e

theorem rsee_mid {w : World} {O : Nat → Prop} {j n : Nat} {st : JP} (h : IsR w O j st n) {a r x : Int} (h1 : st.at_ = a) (h2 : st.rule = r) (h3 : st.rat = x) :
    w.cell? ⟨j, 3, none⟩ = some (.int .i64 a) ∧ w.cell? ⟨j, 4, none⟩ = some (.int .i64 r) ∧ w.cell? ⟨j, 5, none⟩ = some (.int .i64 x) ∧ w.frozen? ⟨j, 3, none⟩ = false ∧ w.frozen? ⟨j, 4, none⟩ = false ∧ w.frozen? ⟨j, 5, none⟩ = false := by
  obtain ⟨_, _, ve, vse, vst, S, b, _⟩ := h
  subst h1 h2 h3
  exact ⟨b.cell 3, b.cell 4, b.cell 5, b.free 3, b.free 4, b.free 5⟩

theorem rsee_fin {w W w2 w3 : World} {O : Nat → Prop} {j res n : Nat} {st st' : JP} (hW : Fr No w W) (hJ : IsR w2 (Grow O W w2) j st n) (hk2 : Fr O W w2) (hoj : O j) (hO : ∀ b, O b → b < w.heap.size) (hr1 : w.heap.size ≤ res) (hr2 : res < W.heap.size)
    (k3 : Fr (fun b => b = j) w2 w3) (hb3 : ∀ ve vse vst, Blk w2 j (rCells ve vse vst st) 48 → Blk w3 j (rCells ve vse vst st') 48) (hl : st'.lines = st.lines) (v0 v1 : Value) :
    IsR ((w3.setCell ⟨res, 0, none⟩ v0).setCell ⟨res, 1, none⟩ v1) (Grow O w ((w3.setCell ⟨res, 0, none⟩ v0).setCell ⟨res, 1, none⟩ v1)) j st' n ∧ Fr O w ((w3.setCell ⟨res, 0, none⟩ v0).setCell ⟨res, 1, none⟩ v1) := by
  have k4 : Fr (fun b => b = res) w3 ((w3.setCell ⟨res, 0, none⟩ v0).setCell ⟨res, 1, none⟩ v1) := ((Fr.refl (fun b => b = res) w3).setCell (p := ⟨res, 0, none⟩) (fun _ => rfl) v0).setCell (p := ⟨res, 1, none⟩) (fun _ => rfl) v1
  have s1 := hW.size
  have s2 := hk2.size
  have s3 := k3.size
  have s4 := k4.size
  have j3 : IsR w3 (Grow O W w2) j st' n := hJ.redo k3 hb3 hl (fun _ h => h) fun b hb => Nat.lt_of_lt_of_le (hJ.1 b hb) s3
  have j4 := j3.keep k4 (by
    rintro b (hb | hb) rfl
    · have := hO _ hb; omega
    · omega)
  refine ⟨j4.wide ?_ ?_, ?_⟩
  · rintro b (hb | hb)
    · exact .inl hb
    · exact .inr ⟨by omega, by omega⟩
  · rintro b (hb | hb)
    · have := hO _ hb; omega
    · exact hb.2
  · have k5 : Fr O w w2 := (hW.no O).trans hk2
    have k6 : Fr O w w3 := k5.more k3 (by rintro x rfl _; exact hoj)
    exact k6.more k4 (by rintro x rfl hx; omega)

set_option maxRecDepth 1000000 in
set_option maxHeartbeats 8000000 in
theorem rsee_any (O O' : Nat → Prop) (j : Nat) (st : JP) (f : FactP) (vf : Value) (N : Int) (n : Nat) (w : World) (hj : IsR w O j st n) (hf : Bs w O' vf f.data) (hd : ∀ b, O' b → ¬ O b) (hlen : f.data.length ≤ 140737488351232) (hfo : f.Ok) (hok : st.Ok N) (hN : N ≤ 2000) (hat : 0 ≤ st.at_ ∧ st.at_ ≤ 2000) (hn : n ≤ 4000) :
    Calls Try.prog 14 #[.pointer (some ⟨j, 0, none⟩), factV f vf] w fun e w' => e = .returned (.agg #[.int .i64 (st.see f).rule, .int .i64 (st.see f).rat]) ∧ IsR w' (Grow O w w') j (st.see f) (n + 1) ∧ Fr O w w' := by
  have hoj : O j := hj.2.1
  have hOlt := hj.1
  have HJ := Lib.hid hj
  obtain ⟨g1, g2, ve, vse, vst, S, g3, g4⟩ := hj
  have c1 : w.cell? ⟨j, 3, none⟩ = some (.int .i64 st.at_) := g3.cell 3
  have c2 : w.cell? ⟨j, 4, none⟩ = some (.int .i64 st.rule) := g3.cell 4
  have c3 : w.cell? ⟨j, 5, none⟩ = some (.int .i64 st.rat) := g3.cell 5
  have hlt := g3.lt
  have hfr := g3.free
  have z1 := hfr 3
  have z2 := hfr 4
  have z3 := hfr 5
  have hadd : IntKind.i64.wrap (st.at_ + 1) = st.at_ + 1 := IntWalk.i64_in _ (by omega)
  have HRUL := Lib.hid (fun W (kk : Fr No w W) => rrule_any O O' j st f vf N n W (HJ.out.grow kk) (hf.keep kk fun _ _ => id) hd hlen hfo hok hN hn)
  have hfv : ∃ a' c', vf = .slice a' f.data.length c' := let ⟨a, c, h, _⟩ := hf; ⟨a, c, h⟩
  have HG3 := Lib.hid g3
  obtain ⟨hJ1, hJ2, hJ3⟩ := judge_fields st f
  have HJ1 := Lib.hid hJ1
  have HJ2 := Lib.hid hJ2
  have HJ3 := Lib.hid hJ3
  clear g1 g4 hf hd hlen hfo hok hN hfr g3 g2 hJ1 hJ2 hJ3
  obtain ⟨kind, conn, side, sess, number, on, code, data⟩ := f
  obtain ⟨a', cap', rfl⟩ := hfv
  show Calls Try.prog 14 #[.pointer (some ⟨j, 0, none⟩), .agg #[.int .i64 kind, .int .i64 conn, .int .i64 side, .int .u32 sess, .int .u32 number, .bool on, .int .i64 code, .slice a' data.length cap']] w _
  have k0 := ((Fr.refl No w).alloc (.cells #[.int .i64 kind, .int .i64 conn, .int .i64 side, .int .u32 sess, .int .u32 number, .bool on, .int .i64 code, .slice a' data.length cap'] 43)).alloc (.cells #[.int .i64 0, .int .i64 0] 34)
  have HK0 := Lib.hid k0
  clear k0
  by_cases hr0 : st.rule = 0
  · rw [hr0] at c2
    have HR0 := Lib.hid hr0
    clear hr0
    obtain ⟨r, hr⟩ : ∃ r, (st.judge ⟨kind, conn, side, sess, number, on, code, data⟩).2 = r := ⟨_, rfl⟩
    have HR := Lib.hid hr
    clear hr
    have HPURE : Hid (st.see ⟨kind, conn, side, sess, number, on, code, data⟩ = if r = 0 then { (st.judge ⟨kind, conn, side, sess, number, on, code, data⟩).1 with at_ := st.at_ + 1 } else { st with at_ := st.at_ + 1, rule := r, rat := st.at_ }) := by
      show _ = _; unfold JP.see; rw [if_pos HR0.out, HR.out]
    by_cases h0 : r = 0
    · subst h0
      rw [if_pos rfl] at HPURE
      go_enter Try.func14, Try.ntmps14
      go_wp2_with (go_at_call 19; refine (HRUL.out _ HK0.out).mono ?_; rintro e w2 ⟨rfl, hJ2', hk2⟩; rw [HR.out]; have hz2 := hk2.size; simp at hz2; obtain ⟨d1, d2, d3, f1, f2, f3⟩ := rsee_mid hJ2' HJ1.out (HJ2.out.trans HR0.out) HJ3.out; have hR2 := see_res hk2 (fun h => absurd (hOlt _ h) (by omega)); have r0 := hR2.free 0; have r1 := hR2.free 1; have e0 := hR2.cell 0; have e1 := hR2.cell 1; have jlt : j < w2.heap.size := by omega)
      have hfin := rsee_fin HK0.out hJ2' hk2 hoj hOlt (res := w.heap.size + 1) (by omega) (by simp) (w3 := w2.setCell ⟨j, 3, none⟩ (.int .i64 (st.at_ + 1))) ((Fr.refl (fun b => b = j) w2).setCell (p := ⟨j, 3, none⟩) (fun _ => rfl) _) (st' := { (st.judge ⟨kind, conn, side, sess, number, on, code, data⟩).1 with at_ := st.at_ + 1 }) (fun ve vse vst h => h.set' 3 _ rfl) rfl (.int .i64 0) (.int .i64 st.rat)
      have hne : w.heap.size + 1 ≠ j := by omega
      rw [HPURE.out]
      refine bodyPost_ret (v := .agg #[.int .i64 0, .int .i64 st.rat]) (by simp [results, Try.results14, go_sem, e0, e1]) rfl ⟨?_, hfin⟩
      have e2 := HJ2.out.trans HR0.out
      have e3 := HJ3.out
      rw [e2, e3]
    · have h0' : (r != 0) = true := by simpa using h0
      rw [if_neg h0] at HPURE
      go_enter Try.func14, Try.ntmps14
      go_wp2_with (go_at_call 19; refine (HRUL.out _ HK0.out).mono ?_; rintro e w2 ⟨rfl, hJ2', hk2⟩; rw [HR.out]; have hz2 := hk2.size; simp at hz2; obtain ⟨d1, d2, d3, f1, f2, f3⟩ := rsee_mid hJ2' HJ1.out (HJ2.out.trans HR0.out) HJ3.out; have hR2 := see_res hk2 (fun h => absurd (hOlt _ h) (by omega)); have r0 := hR2.free 0; have r1 := hR2.free 1; have e0 := hR2.cell 0; have e1 := hR2.cell 1; have jlt : j < w2.heap.size := by omega)
      have hfin := rsee_fin HK0.out hJ2' hk2 hoj hOlt (res := w.heap.size + 1) (by omega) (by simp) (w3 := ((w2.setCell ⟨j, 4, none⟩ (.int .i64 r)).setCell ⟨j, 5, none⟩ (.int .i64 st.at_)).setCell ⟨j, 3, none⟩ (.int .i64 (st.at_ + 1))) ((((Fr.refl (fun b => b = j) w2).setCell (p := ⟨j, 4, none⟩) (fun _ => rfl) _).setCell (p := ⟨j, 5, none⟩) (fun _ => rfl) _).setCell (p := ⟨j, 3, none⟩) (fun _ => rfl) _) (st' := { (st.judge ⟨kind, conn, side, sess, number, on, code, data⟩).1 with at_ := st.at_ + 1, rule := r, rat := st.at_ }) (fun ve vse vst h => ((h.set 4 _).set 5 _).set' 3 _ rfl) rfl (.int .i64 r) (.int .i64 st.at_)
      have hne : w.heap.size + 1 ≠ j := by omega
      rw [HPURE.out]
      refine bodyPost_ret (v := .agg #[.int .i64 r, .int .i64 st.at_]) (by simp [results, Try.results14, go_sem, e0, e1]) rfl ⟨rfl, ?_⟩
      rw [judge_broken _ _ (by rw [HR.out]; exact h0)] at hfin
      exact hfin
  · have hr0' : (st.rule == 0) = false := by simpa using hr0
    have HPURE : Hid (st.see ⟨kind, conn, side, sess, number, on, code, data⟩ = { st with at_ := st.at_ + 1 }) := by
      show _ = _; unfold JP.see; rw [if_neg hr0]
    clear hr0
    go_enter Try.func14, Try.ntmps14
    go_wp2
    rw [HPURE.out]
    have k1 : Fr (fun b => b = j) w (w.setCell ⟨j, 3, none⟩ (.int .i64 (st.at_ + 1))) := (Fr.refl (fun b => b = j) w).setCell (p := ⟨j, 3, none⟩) (fun _ => rfl) _
    have j1 : IsR (w.setCell ⟨j, 3, none⟩ (.int .i64 (st.at_ + 1))) O j { st with at_ := st.at_ + 1 } n := HJ.out.redo k1 (fun ve vse vst h => h.set' 3 _ rfl) rfl (fun _ h => h) fun b hb => Nat.lt_of_lt_of_le (hOlt b hb) k1.size
    refine bodyPost_ret (v := .agg #[.int .i64 st.rule, .int .i64 st.rat]) (by simp [results, Try.results14, go_sem]) rfl ⟨rfl, ?_, ?_⟩
    · refine ((j1.grow (((Fr.refl No _).alloc _).alloc _)).wide (fun b hb => .inl hb) ?_).more (Nat.le_succ n)
      rintro b (hb | hb)
      · have := hOlt b hb; simp; omega
      · exact hb.2
    · exact ((k1.wide (O' := O) (by rintro x rfl _; exact hoj)).alloc _).alloc _

end Go.Proofs.Ytmggfdhlbjlpjaa
