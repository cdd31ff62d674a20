/-
  DERIVED. The walks of the judge's See and Verdict.
-/
import Derived.Test.YtmggfdhlbjlpjaaRuleC
namespace Go.Proofs.Ytmggfdhlbjlpjaa
open Go.RowKit
set_option linter.unusedSimpArgs false
set_option linter.unusedVariables false

theorem LineAt.keep' {w w' : World} {O O' C : Nat → Prop} {cs : Array Value} {o mb : Nat} {l : LineP} (h : LineAt w O cs o mb l) (k : Fr C w w') (hm : ¬ C mb) (hC : ∀ b cur, C b → ¬ Blk w b cur 5) (hO : ∀ b, O b → O' b) : LineAt w' O' cs o mb l := h.keep k hm hC hO fun _ _ _ => rfl

/-- The judge's own cells are others. -/
theorem IsJ.redo {w w' : World} {O O' : Nat → Prop} {j : Nat} {st st' : JP} (h : IsJ w O j st) (k : Fr (fun b => b = j) w w') (hb : ∀ a cap, Blk w j (jCells a cap st) 58 → Blk w' j (jCells a cap st') 58) (hl : st'.lines = st.lines) (hO : ∀ b, O b → O' b) (hO' : ∀ b, O' b → b < w'.heap.size) : IsJ w' O' j st' := by
  obtain ⟨h1, h2, a, cap, h3, h4⟩ := h
  refine ⟨hO', hO _ h2, a, cap, hb a cap h3, fun hp => ?_⟩
  rw [hl] at hp
  obtain ⟨q, cs, mb, ha, hL⟩ := h4 hp
  refine ⟨q, cs, mb, ha, ?_⟩
  rw [hl]
  refine ⟨k.blk hL.b fun e => h3.unlike hL.b (by decide) e.symm, hO _ hL.o, fun i hi => (hL.at_ i hi).keep' k ?_ ?_ hO, hL.inj⟩
  · intro e; exact (hL.at_ i hi).map.not_blk _ _ (e ▸ h3)
  · rintro b cur rfl hb'; exact h3.unlike hb' (by decide) rfl

theorem IsJ.grow {w w' : World} {O : Nat → Prop} {j : Nat} {st : JP} (h : IsJ w O j st) (k : Fr No w w') : IsJ w' O j st := h.keep k fun _ _ h => h

theorem judge_fields (st : JP) (f : FactP) : (st.judge f).1.at_ = st.at_ ∧ (st.judge f).1.rule = st.rule ∧ (st.judge f).1.rat = st.rat := by
  unfold JP.judge; split <;> exact ⟨rfl, rfl, rfl⟩

set_option maxRecDepth 1000000 in
set_option maxHeartbeats 8000000 in
theorem verdict_any (O : Nat → Prop) (j : Nat) (st : JP) (w : World) (hj : IsJ w O j st) :
    Calls Try.prog 11 #[.pointer (some ⟨j, 0, none⟩)] w fun e w' => e = .returned (.agg #[.int .i64 st.rule, .int .i64 st.rat]) ∧ Fr No w w' := by
  obtain ⟨g1, g2, a, cap, g3, g4⟩ := hj
  have c2 : w.cell? ⟨j, 2, none⟩ = some (.int .i64 st.rule) := g3.cell 2
  have c3 : w.cell? ⟨j, 3, none⟩ = some (.int .i64 st.rat) := g3.cell 3
  have hlt := g3.lt
  have k0 := Fr.refl No w
  clear g1 g2 g3 g4
  go_enter Try.func11, Try.ntmps11
  go_wp2
  refine bodyPost_ret (v := .agg #[.int .i64 st.rule, .int .i64 st.rat]) (by simp [results, Try.results11, go_sem]) rfl ⟨rfl, ?_⟩
  exact k0.alloc _

set_option maxRecDepth 1000000 in
theorem verdict_nil (w : World) : Calls Try.prog 11 #[.pointer none] w fun e w' => e = .returned (.agg #[.int .i64 0, .int .i64 0]) ∧ Fr No w w' := by
  have k0 := Fr.refl No w
  go_enter Try.func11, Try.ntmps11
  go_wp2
  refine bodyPost_ret (v := .agg #[.int .i64 0, .int .i64 0]) (by simp [results, Try.results11, go_sem]) rfl ⟨rfl, ?_⟩
  exact k0.alloc _

set_option maxRecDepth 1000000 in
theorem see_nil (f : FactP) (vf : Value) (w : World) (hf : ∃ a' c', vf = .slice a' f.data.length c') : Calls Try.prog 13 #[.pointer none, factV f vf] w fun e w' => e = .returned (.agg #[.int .i64 0, .int .i64 0]) ∧ Fr No w w' := by
  obtain ⟨kind, conn, side, sess, number, on, code, data⟩ := f
  obtain ⟨a', cap', rfl⟩ := hf
  show Calls Try.prog 13 #[.pointer none, .agg #[.int .i64 kind, .int .i64 conn, .int .i64 side, .int .u32 sess, .int .u32 number, .bool on, .int .i64 code, .slice a' data.length cap']] w _
  have k0 := Fr.refl No w
  go_enter Try.func13, Try.ntmps13
  go_wp2
  refine bodyPost_ret (v := .agg #[.int .i64 0, .int .i64 0]) (by simp [results, Try.results13, go_sem]) rfl ⟨rfl, ?_⟩
  exact (k0.alloc _).alloc _

theorem see_mid {w : World} {O : Nat → Prop} {j : Nat} {st : JP} (h : IsJ w O j st) {a r x : Int} (h1 : st.at_ = a) (h2 : st.rule = r) (h3 : st.rat = x) :
    w.cell? ⟨j, 1, none⟩ = some (.int .i64 a) ∧ w.cell? ⟨j, 2, none⟩ = some (.int .i64 r) ∧ w.cell? ⟨j, 3, none⟩ = some (.int .i64 x) ∧ w.frozen? ⟨j, 1, none⟩ = false ∧ w.frozen? ⟨j, 2, none⟩ = false ∧ w.frozen? ⟨j, 3, none⟩ = false := by
  obtain ⟨_, _, a', cap, b, _⟩ := h
  subst h1 h2 h3
  exact ⟨b.cell 1, b.cell 2, b.cell 3, b.free 1, b.free 2, b.free 3⟩

theorem see_broken (l : LineP) (f : FactP) (h : (l.see f).2 ≠ 0) : (l.see f).1 = l := by
  unfold LineP.see at *
  dsimp only at *
  repeat' split at h
  all_goals first | exact absurd rfl h | skip
  all_goals simp_all
theorem judge_broken (st : JP) (f : FactP) (h : (st.judge f).2 ≠ 0) : (st.judge f).1 = st := by
  unfold JP.judge at *
  split at h
  · rename_i hin
    rw [if_pos hin]
    dsimp only
    rw [see_broken _ _ h]
    have hlt : f.conn.toNat < st.lines.length := by obtain ⟨_, _, _, _, _⟩ := hin; omega
    have : st.lines.set f.conn.toNat (st.line f.conn.toNat) = st.lines := by
      apply List.ext_getElem (by simp)
      intro i h1 h2
      rw [List.getElem_set]
      split
      · rename_i e; subst e; simp [JP.line, hlt]
      · rfl
    rw [this]
  · rename_i hin
    rw [if_neg hin]

theorem IsJ.wide {w : World} {O O' : Nat → Prop} {j : Nat} {st : JP} (h : IsJ w O j st) (hO : ∀ b, O b → O' b) (hO' : ∀ b, O' b → b < w.heap.size) : IsJ w O' j st :=
  h.redo (Fr.refl _ w) (fun _ _ h => h) rfl hO hO'

theorem see_fin {w W w2 w3 : World} {O : Nat → Prop} {j res : Nat} {st st' : JP} (hW : Fr No w W) (hJ : IsJ w2 (Grow O W w2) j st) (hk2 : Fr O W w2) (hoj : O j) (hO : ∀ b, O b → b < w.heap.size) (hr1 : w.heap.size ≤ res) (hr2 : res < W.heap.size)
    (k3 : Fr (fun b => b = j) w2 w3) (hb3 : ∀ a cap, Blk w2 j (jCells a cap st) 58 → Blk w3 j (jCells a cap st') 58) (hl : st'.lines = st.lines) (v0 v1 : Value) :
    IsJ ((w3.setCell ⟨res, 0, none⟩ v0).setCell ⟨res, 1, none⟩ v1) (Grow O w ((w3.setCell ⟨res, 0, none⟩ v0).setCell ⟨res, 1, none⟩ v1)) j st' ∧ Fr O w ((w3.setCell ⟨res, 0, none⟩ v0).setCell ⟨res, 1, none⟩ v1) := by
  have k4 : Fr (fun b => b = res) w3 ((w3.setCell ⟨res, 0, none⟩ v0).setCell ⟨res, 1, none⟩ v1) := ((Fr.refl (fun b => b = res) w3).setCell (p := ⟨res, 0, none⟩) (fun _ => rfl) v0).setCell (p := ⟨res, 1, none⟩) (fun _ => rfl) v1
  have s1 := hW.size
  have s2 := hk2.size
  have s3 := k3.size
  have s4 := k4.size
  have j3 : IsJ w3 (Grow O W w2) j st' := hJ.redo k3 hb3 hl (fun _ h => h) fun b hb => Nat.lt_of_lt_of_le (hJ.1 b hb) s3
  have j4 := j3.keep k4 (by
    rintro b (hb | hb) rfl
    · have := hO _ hb; omega
    · omega)
  refine ⟨j4.wide ?_ ?_, ?_⟩
  · rintro b (hb | hb)
    · exact .inl hb
    · exact .inr ⟨by omega, by omega⟩
  · rintro b (hb | hb)
    · have := hO _ hb; omega
    · exact hb.2
  · have k5 : Fr O w w2 := (hW.no O).trans hk2
    have k6 : Fr O w w3 := k5.more k3 (by rintro x rfl _; exact hoj)
    exact k6.more k4 (by rintro x rfl hx; omega)

theorem see_res {w w2 : World} {O : Nat → Prop} {o : Obj} (k : Fr O ((w.alloc o).alloc (.cells #[.int .i64 0, .int .i64 0] 34)) w2) (hn : ¬ O (w.heap.size + 1)) : Blk w2 (w.heap.size + 1) #[.int .i64 0, .int .i64 0] 34 := by
  refine k.blk ?_ hn
  have := Blk.new (w.alloc o) #[.int .i64 0, .int .i64 0] 34
  simpa using this

set_option maxRecDepth 1000000 in
set_option maxHeartbeats 8000000 in
theorem see_any (O O' : Nat → Prop) (j : Nat) (st : JP) (f : FactP) (vf : Value) (N : Int) (w : World) (hj : IsJ w O j st) (hf : Bs w O' vf f.data) (hd : ∀ b, O' b → ¬ O b) (hlen : f.data.length ≤ 140737488351232) (hfo : f.Ok) (hok : st.Ok N) (hN : N ≤ 2000) (hat : 0 ≤ st.at_ ∧ st.at_ ≤ 2000) :
    Calls Try.prog 13 #[.pointer (some ⟨j, 0, none⟩), factV f vf] w fun e w' => e = .returned (.agg #[.int .i64 (st.see f).rule, .int .i64 (st.see f).rat]) ∧ IsJ w' (Grow O w w') j (st.see f) ∧ Fr O w w' := by
  have hoj : O j := hj.2.1
  have hOlt := hj.1
  have HJ := Lib.hid hj
  obtain ⟨g1, g2, a, cap, g3, g4⟩ := hj
  have c1 : w.cell? ⟨j, 1, none⟩ = some (.int .i64 st.at_) := g3.cell 1
  have c2 : w.cell? ⟨j, 2, none⟩ = some (.int .i64 st.rule) := g3.cell 2
  have c3 : w.cell? ⟨j, 3, none⟩ = some (.int .i64 st.rat) := g3.cell 3
  have hlt := g3.lt
  have hfr := g3.free
  have z1 := hfr 1
  have z2 := hfr 2
  have z3 := hfr 3
  have hadd : IntKind.i64.wrap (st.at_ + 1) = st.at_ + 1 := IntWalk.i64_in _ (by omega)
  have HRUL := Lib.hid (fun W (kk : Fr No w W) => rule_any O O' j st f vf N W (HJ.out.grow kk) (hf.keep kk fun _ _ => id) hd hlen hfo hok hN)
  have hfv : ∃ a' c', vf = .slice a' f.data.length c' := let ⟨a, c, h, _⟩ := hf; ⟨a, c, h⟩
  have HG3 := Lib.hid g3
  obtain ⟨hJ1, hJ2, hJ3⟩ := judge_fields st f
  have HJ1 := Lib.hid hJ1
  have HJ2 := Lib.hid hJ2
  have HJ3 := Lib.hid hJ3
  clear g1 g4 hf hd hlen hfo hok hN hfr g3 g2 hJ1 hJ2 hJ3
  obtain ⟨kind, conn, side, sess, number, on, code, data⟩ := f
  obtain ⟨a', cap', rfl⟩ := hfv
  show Calls Try.prog 13 #[.pointer (some ⟨j, 0, none⟩), .agg #[.int .i64 kind, .int .i64 conn, .int .i64 side, .int .u32 sess, .int .u32 number, .bool on, .int .i64 code, .slice a' data.length cap']] w _
  have k0 := ((Fr.refl No w).alloc (.cells #[.int .i64 kind, .int .i64 conn, .int .i64 side, .int .u32 sess, .int .u32 number, .bool on, .int .i64 code, .slice a' data.length cap'] 43)).alloc (.cells #[.int .i64 0, .int .i64 0] 34)
  have HK0 := Lib.hid k0
  clear k0
  by_cases hr0 : st.rule = 0
  · rw [hr0] at c2
    have HR0 := Lib.hid hr0
    clear hr0
    obtain ⟨r, hr⟩ : ∃ r, (st.judge ⟨kind, conn, side, sess, number, on, code, data⟩).2 = r := ⟨_, rfl⟩
    have HR := Lib.hid hr
    clear hr
    have HPURE : Hid (st.see ⟨kind, conn, side, sess, number, on, code, data⟩ = if r = 0 then { (st.judge ⟨kind, conn, side, sess, number, on, code, data⟩).1 with at_ := st.at_ + 1 } else { st with at_ := st.at_ + 1, rule := r, rat := st.at_ }) := by
      show _ = _; unfold JP.see; rw [if_pos HR0.out, HR.out]
    by_cases h0 : r = 0
    · subst h0
      rw [if_pos rfl] at HPURE
      go_enter Try.func13, Try.ntmps13
      go_wp2_with (go_at_call 18; refine (HRUL.out _ HK0.out).mono ?_; rintro e w2 ⟨rfl, hJ2', hk2⟩; rw [HR.out]; have hz2 := hk2.size; simp at hz2; obtain ⟨d1, d2, d3, f1, f2, f3⟩ := see_mid hJ2' HJ1.out (HJ2.out.trans HR0.out) HJ3.out; have hR2 := see_res hk2 (fun h => absurd (hOlt _ h) (by omega)); have r0 := hR2.free 0; have r1 := hR2.free 1; have e0 := hR2.cell 0; have e1 := hR2.cell 1; have jlt : j < w2.heap.size := by omega)
      have hfin := see_fin HK0.out hJ2' hk2 hoj hOlt (res := w.heap.size + 1) (by omega) (by simp) (w3 := w2.setCell ⟨j, 1, none⟩ (.int .i64 (st.at_ + 1))) ((Fr.refl (fun b => b = j) w2).setCell (p := ⟨j, 1, none⟩) (fun _ => rfl) _) (st' := { (st.judge ⟨kind, conn, side, sess, number, on, code, data⟩).1 with at_ := st.at_ + 1 }) (fun a cap h => h.set' 1 _ rfl) rfl (.int .i64 0) (.int .i64 st.rat)
      have hne : w.heap.size + 1 ≠ j := by omega
      rw [HPURE.out]
      refine bodyPost_ret (v := .agg #[.int .i64 0, .int .i64 st.rat]) (by simp [results, Try.results13, go_sem, e0, e1]) rfl ⟨?_, hfin⟩
      have e2 := HJ2.out.trans HR0.out
      have e3 := HJ3.out
      rw [e2, e3]
    · have h0' : (r != 0) = true := by simpa using h0
      rw [if_neg h0] at HPURE
      go_enter Try.func13, Try.ntmps13
      go_wp2_with (go_at_call 18; refine (HRUL.out _ HK0.out).mono ?_; rintro e w2 ⟨rfl, hJ2', hk2⟩; rw [HR.out]; have hz2 := hk2.size; simp at hz2; obtain ⟨d1, d2, d3, f1, f2, f3⟩ := see_mid hJ2' HJ1.out (HJ2.out.trans HR0.out) HJ3.out; have hR2 := see_res hk2 (fun h => absurd (hOlt _ h) (by omega)); have r0 := hR2.free 0; have r1 := hR2.free 1; have e0 := hR2.cell 0; have e1 := hR2.cell 1; have jlt : j < w2.heap.size := by omega)
      have hfin := see_fin HK0.out hJ2' hk2 hoj hOlt (res := w.heap.size + 1) (by omega) (by simp) (w3 := ((w2.setCell ⟨j, 2, none⟩ (.int .i64 r)).setCell ⟨j, 3, none⟩ (.int .i64 st.at_)).setCell ⟨j, 1, none⟩ (.int .i64 (st.at_ + 1))) ((((Fr.refl (fun b => b = j) w2).setCell (p := ⟨j, 2, none⟩) (fun _ => rfl) _).setCell (p := ⟨j, 3, none⟩) (fun _ => rfl) _).setCell (p := ⟨j, 1, none⟩) (fun _ => rfl) _) (st' := { (st.judge ⟨kind, conn, side, sess, number, on, code, data⟩).1 with at_ := st.at_ + 1, rule := r, rat := st.at_ }) (fun a cap h => ((h.set 2 _).set 3 _).set' 1 _ rfl) rfl (.int .i64 r) (.int .i64 st.at_)
      have hne : w.heap.size + 1 ≠ j := by omega
      rw [HPURE.out]
      refine bodyPost_ret (v := .agg #[.int .i64 r, .int .i64 st.at_]) (by simp [results, Try.results13, go_sem, e0, e1]) rfl ⟨rfl, ?_⟩
      rw [judge_broken _ _ (by rw [HR.out]; exact h0)] at hfin
      exact hfin
  · have hr0' : (st.rule == 0) = false := by simpa using hr0
    have HPURE : Hid (st.see ⟨kind, conn, side, sess, number, on, code, data⟩ = { st with at_ := st.at_ + 1 }) := by
      show _ = _; unfold JP.see; rw [if_neg hr0]
    clear hr0
    go_enter Try.func13, Try.ntmps13
    go_wp2
    rw [HPURE.out]
    have k1 : Fr (fun b => b = j) w (w.setCell ⟨j, 1, none⟩ (.int .i64 (st.at_ + 1))) := (Fr.refl (fun b => b = j) w).setCell (p := ⟨j, 1, none⟩) (fun _ => rfl) _
    have j1 : IsJ (w.setCell ⟨j, 1, none⟩ (.int .i64 (st.at_ + 1))) O j { st with at_ := st.at_ + 1 } := HJ.out.redo k1 (fun a cap h => h.set' 1 _ rfl) rfl (fun _ h => h) fun b hb => Nat.lt_of_lt_of_le (hOlt b hb) k1.size
    refine bodyPost_ret (v := .agg #[.int .i64 st.rule, .int .i64 st.rat]) (by simp [results, Try.results13, go_sem]) rfl ⟨rfl, ?_, ?_⟩
    · refine (j1.grow (((Fr.refl No _).alloc _).alloc _)).wide (fun b hb => .inl hb) ?_
      rintro b (hb | hb)
      · have := hOlt b hb; simp; omega
      · exact hb.2
    · exact ((k1.wide (O' := O) (by rintro x rfl _; exact hoj)).alloc _).alloc _

end Go.Proofs.Ytmggfdhlbjlpjaa
