/-
  DERIVED. The walk of law17's Copied: a net with rows of its own. (Printed by ncopy.py.)
-/
import Derived.Test.YtmggfdhlbjlpjaaRNew
import Derived.Test.YtmggfdhlbjlpjaaPair
namespace Go.Proofs.Ytmggfdhlbjlpjaa
open Go.RowKit
set_option linter.unusedSimpArgs false
set_option linter.unusedVariables false

/-- An empty row, as a step of a region that draws. -/
theorem step_build_p {W : World} {ops : Array Oper} {o : Oper} {a : Act} {K : Act → World → Prop} {Q : Exit → Act → World → Prop} {E : Prop} (hgd : o.guard = none) (ho : o.op = .buildSlice 22 0 #[])
    (h : ∀ g w1, Blk w1 g #[] 66 → Fr No W w1 → W.heap.size ≤ g → K (a.put o.dst (.slice (some ⟨g, 0, none⟩) 0 0)) w1) : if Region.wanted o (yielded ops a.tmps) = true then Oper.wp Try.prog o a W K Q else E := by
  have hw : Region.wanted o (yielded ops a.tmps) = true := by simp [Region.wanted, hgd]
  rw [if_pos hw]
  have hr : (Instr.buildSlice 22 0 #[]).run Try.prog W = .ok (.slice (some ⟨W.heap.size, 0, none⟩) 0 0) (W.alloc (.cells #[] 66)) := by simp [go_sem]
  have hm : Array.map (fun p : Nat × Operand => (p.1, a.eval p.2)) (#[] : Array (Nat × Operand)) = #[] := by simp
  unfold Oper.wp execOp
  simp only [ho]
  rw [hm]
  simp only [Sem.run_bind, hr, Result.andThen_ok, Sem.run_pure]
  exact h _ _ (Blk.new _ _ _) ((Fr.refl No W).alloc _) (Nat.le_refl _)

theorem prs_of_owns {w : World} {base g cap : Nat} {ws : List Int} {xs : List Value} (hl : xs.length = ws.length * 5) (h1 : ∀ u ∈ xs, u.oneCell' = true) (he : ∀ i (h : i < ws.length), xs[i * 5 + 3]? = some (.int .i64 ws[i])) (h : w.ownsRow base 66 5 (.slice (some ⟨g, 0, none⟩) ws.length cap) ws.length xs) : Prs w (fun b => b = g) (.slice (some ⟨g, 0, none⟩) ws.length cap) ws := by
  obtain ⟨h0, h2⟩ := h
  rcases h2 with ⟨h, _⟩ | ⟨g', cap', cur, hv, hg, hh, hnc, hcm, hsz, htk⟩
  · cases h
  · cases hv
    have hb : Blk w g cur 66 := hh
    refine ⟨_, cap, xs, rfl, hl, fun _ => ⟨g, 0, rfl, rfl, fun j u hj => ?_⟩, h1, he⟩
    have hjl : j < xs.length := by
      rcases Nat.lt_or_ge j xs.length with h | h
      · exact h
      · rw [List.getElem?_eq_none h] at hj; cases hj
    rw [← htk, List.getElem?_take_of_lt (by omega)] at hj
    rw [hb.cell, Nat.zero_add]
    simpa using hj

theorem Prs.wide {w : World} {O C : Nat → Prop} {v : Value} {ws : List Int} (h : Prs w O v ws) (hd : ∀ b, O b → C b) : Prs w C v ws :=
  let ⟨a, cap, xs, h1, h2, h3, h4⟩ := h; ⟨a, cap, xs, h1, h2, h3.wide hd, h4⟩

/-- append([]Param{}, x...), as a step of a region that draws. -/
theorem step_append_p {W : World} {ops : Array Oper} {o : Oper} {a : Act} {K : Act → World → Prop} {Q : Exit → Act → World → Prop} {E : Prop} (hgd : o.guard = none) (s x : Operand) (ho : o.op = .call { callee := .builtin .append, args := #[s, x], argTypes := #[22, 22] })
    (g0 : Nat) (hs : a.eval s = .slice (some ⟨g0, 0, none⟩) 0 0) (hg : Blk W g0 #[] 66) (v : Value) (ws : List Int) (O : Nat → Prop) (hx : a.eval x = v) (hp : Prs W O v ws) (hlen : ws.length ≤ 40)
    (h : ∀ g cap1 w1, Prs w1 (fun b => b = g0 ∨ (W.heap.size ≤ b ∧ b < w1.heap.size)) (.slice (some ⟨g, 0, none⟩) ws.length cap1) ws → Fr (fun b => b = g0) W w1 → K (a.put o.dst (.slice (some ⟨g, 0, none⟩) ws.length cap1)) w1) :
    if Region.wanted o (yielded ops a.tmps) = true then Oper.wp Try.prog o a W K Q else E := by
  have hw : Region.wanted o (yielded ops a.tmps) = true := by simp [Region.wanted, hgd]
  rw [if_pos hw]
  obtain ⟨i1, hi1, hy0, hy1, hy2⟩ := info_parts Try.info66
  have hown5 : W.ownsRow g0 66 5 (.slice (some ⟨g0, 0, none⟩) 0 0) 0 [] := ⟨rfl, .inr ⟨g0, 0, #[], rfl, Nat.le_refl _, hg, Nat.le_refl _, by unfold maxLen; omega, rfl, rfl⟩⟩
  obtain ⟨a', cap', xs, rfl, hl, hrow, hone, he⟩ := hp
  cases a' with
  | none =>
    obtain rfl : ws = [] := by
      cases ws with
      | nil => rfl
      | cons y r => obtain ⟨b, off, h, _⟩ := hrow (by rw [hl]; simp); cases h
    obtain rfl : xs = [] := List.length_eq_zero_iff.1 (by simpa using hl)
    have hr : (Builtin.append_ #[22, 22] o.type #[.slice (some ⟨g0, 0, none⟩) 0 0, .slice none 0 cap']).run Try.prog W = .ok (.slice (some ⟨g0, 0, none⟩) 0 0) W := by
      simp [Builtin.append_, run_underlying Try.underlying22, sizeOf, typeInfo, hi1, Builtin.lenOf, Builtin.firstCells, loadCells, loadCellsFrom, storeCells]
    have hx' : a.eval x = .slice none 0 cap' := hx
    unfold Oper.wp execOp
    simp only [ho, resolve, invoke, builtin, Sem.run_bind, Sem.run_pure, Result.andThen_ok, List.map_toArray, List.map_cons, List.map_nil, hs, hx', hr]
    exact h g0 0 W ⟨_, 0, [], rfl, rfl, fun h => absurd h (by simp), by simp, fun i h => absurd h (by simp)⟩ (Fr.refl _ _)
  | some x' =>
    have hsrc : ∀ j u, xs[j]? = some u → W.cell? (x'.add j) = some u := by
      by_cases hp : 0 < xs.length
      · obtain ⟨b, off, hx, _, hc⟩ := hrow hp
        cases hx
        intro j u hu
        rw [add_at]
        exact hc j u hu
      · intro j u hu
        rw [List.getElem?_eq_none (by omega)] at hu; cases hu
    by_cases h0 : ws.length = 0
    · obtain rfl : ws = [] := List.length_eq_zero_iff.1 h0
      refine wp_append_own W s x 22 ho g0 66 i1 _ 5 40 Try.underlying22 hi1 hy0 hy1 hy2 rfl (by decide) _ 0 [] hs hown5 x' 0 cap' xs hx hl hsrc hone (by unfold maxLen; omega) (by omega) (Nat.le_of_lt hg.lt) ?_
      intro v1 w1 h1 h2 h3
      obtain ⟨g, cap1, rfl⟩ := owns_some h1 (fun e => by cases (h3.1 e).1)
      exact h g cap1 w1 ⟨_, cap1, [], rfl, rfl, fun h => absurd h (by simp), by simp, fun i h => absurd h (by simp)⟩ ((grown_fr h2).wide fun b hb _ => by cases hb; rfl)
    · refine wp_append_lies W s x 22 ho g0 66 i1 _ 5 40 Try.underlying22 hi1 hy0 hy1 hy2 rfl (by decide) _ 0 [] hs hown5 x' ws.length cap' xs hx hl hsrc hone (by omega) (by unfold maxLen; omega) (by omega) (Nat.le_of_lt hg.lt) W.heap.size rfl ?_
      intro g cap1 w1 h1 h2 h3 h4
      simp only [Nat.zero_add, List.nil_append] at h1
      have hp := prs_of_owns hl hone he h1
      have := h g cap1 w1 (hp.wide fun b hb => by
        subst hb
        rcases h3 with h3 | h3
        · cases h3; exact .inl rfl
        · exact .inr ⟨by omega, h4⟩) ((grown_fr h2).wide fun b hb _ => by cases hb; rfl)
      simpa using this

set_option maxRecDepth 1000000 in
set_option maxHeartbeats 8000000 in
theorem ncopy_any (O : Nat → Prop) (vh vd : Value) (wh wd : List Int) (ms : Int) (w : World) (hh : Prs w O vh wh) (hd : Prs w O vd wd) (hlen : wh.length ≤ 40 ∧ wd.length ≤ 40) :
    Calls Try.prog 9 #[.agg #[vh, vd, .int .u32 ms]] w fun e w' => ∃ ah ch ad cd, e = .returned (.agg #[.slice ah wh.length ch, .slice ad wd.length cd, .int .u32 ms]) ∧ Prs w' (fun b => w.heap.size ≤ b ∧ b < w'.heap.size) (.slice ah wh.length ch) wh ∧ Prs w' (fun b => w.heap.size ≤ b ∧ b < w'.heap.size) (.slice ad wd.length cd) wd ∧ Fr No w w' := by
  obtain ⟨ah, ch, _, rfl, _⟩ := id hh
  obtain ⟨ad, cd, _, rfl, _⟩ := id hd
  have HHH := Lib.hid hh
  have HHD := Lib.hid hd
  have HLN := Lib.hid hlen
  clear hh hd hlen
  have K0 := ((Fr.refl No w).alloc (.cells #[.slice ah wh.length ch, .slice ad wd.length cd, .int .u32 ms] 25)).alloc (.cells #[.slice none 0 0, .slice none 0 0, .int .u32 0] 25)
  have B0 := ((Fr.refl No _).alloc (.cells #[.slice none 0 0, .slice none 0 0, .int .u32 0] 25)).blk (Blk.new w #[.slice ah wh.length ch, .slice ad wd.length cd, .int .u32 ms] 25) id
  have B1 := Blk.new (w.alloc (.cells #[.slice ah wh.length ch, .slice ad wd.length cd, .int .u32 ms] 25)) #[.slice none 0 0, .slice none 0 0, .int .u32 0] 25
  rw [show (w.alloc (.cells #[.slice ah wh.length ch, .slice ad wd.length cd, .int .u32 ms] 25)).heap.size = w.heap.size + 1 by simp] at B1
  have hN : ∃ N, N = w.heap.size := ⟨_, rfl⟩
  obtain ⟨N, hN⟩ := hN
  go_enter Try.func9, Try.ntmps9
  go_wp2
  generalize (w.alloc (.cells #[.slice ah wh.length ch, .slice ad wd.length cd, .int .u32 ms] 25)).alloc (.cells #[.slice none 0 0, .slice none 0 0, .int .u32 0] 25) = W1 at K0 B0 B1 ⊢
  rw [← hN] at B0 B1 ⊢
  have n0 : W1.cell? ⟨N, 0, none⟩ = some (.slice ah wh.length ch) := B0.cell 0
  have n1 : W1.cell? ⟨N, 1, none⟩ = some (.slice ad wd.length cd) := B0.cell 1
  have n2 : W1.cell? ⟨N, 2, none⟩ = some (.int .u32 ms) := B0.cell 2
  have HB1 := Lib.hid B1
  have HK0 := Lib.hid K0
  have HN := Lib.hid hN
  have nn : ¬ N = N + 1 := by omega
  have hl1 := B1.lt
  have HL1 := Lib.hid hl1
  have hsz1 := K0.size
  have HSZ := Lib.hid hsz1
  clear B0 B1 K0 hN hsz1
  have X : Fr No W1 W1.drew := (Fr.refl No W1).drew
  have HX := Lib.hid X
  refine wp_region_held_drew (S := fun W => Fr (fun x => x = N + 1) W1 W) (by kernel_rfl) (X.no _) (fun hHeld => ?_)
  clear X
  refine wpAnyH_take (i := 1) (oi := { dst := some 4, op := Op.fieldAddr 25 (Operand.tmp 1) 0, type := 0, pos := "law.go:34", after := #[], guard := none }) (v := ?v1) rfl (by kernel_rfl) (by kernel_rfl) (by kernel_rfl) (fun _ _ _ h => h) (Or.inl ⟨by rfl, ?h1⟩) (by assumption) ?r1
  case h1 => (intro W hSw; have e0 := hSw.old n0 nn; have e1 := hSw.old n1 nn; have e2 := hSw.old n2 nn; go_simp; try with_reducible rfl)
  try simp only [Act.put, List.setIfInBounds_toArray, List.set_cons_zero, List.set_cons_succ]
  refine wpAnyH_take (i := 2) (oi := { dst := some 5, op := Op.load 22 (Operand.tmp 4), type := 22, pos := "law.go:34", after := #[{ on := 1, ground := Ground.data }], guard := none }) (v := ?v2) rfl (by kernel_rfl) (by kernel_rfl) (by kernel_rfl) (fun _ _ _ h => h) (Or.inl ⟨by rfl, ?h2⟩) (by assumption) ?r2
  case h2 => (intro W hSw; have e0 := hSw.old n0 nn; have e1 := hSw.old n1 nn; have e2 := hSw.old n2 nn; go_simp; try with_reducible rfl)
  try simp only [Act.put, List.setIfInBounds_toArray, List.set_cons_zero, List.set_cons_succ]
  refine wpAnyH_take (i := 5) (oi := { dst := some 8, op := Op.fieldAddr 25 (Operand.tmp 1) 1, type := 0, pos := "law.go:34", after := #[], guard := none }) (v := ?v3) rfl (by kernel_rfl) (by kernel_rfl) (by kernel_rfl) (fun _ _ _ h => h) (Or.inl ⟨by rfl, ?h3⟩) (by assumption) ?r3
  case h3 => (intro W hSw; have e0 := hSw.old n0 nn; have e1 := hSw.old n1 nn; have e2 := hSw.old n2 nn; go_simp; try with_reducible rfl)
  try simp only [Act.put, List.setIfInBounds_toArray, List.set_cons_zero, List.set_cons_succ]
  refine wpAnyH_take (i := 6) (oi := { dst := some 9, op := Op.load 22 (Operand.tmp 8), type := 22, pos := "law.go:34", after := #[{ on := 5, ground := Ground.data }], guard := none }) (v := ?v4) rfl (by kernel_rfl) (by kernel_rfl) (by kernel_rfl) (fun _ _ _ h => h) (Or.inl ⟨by rfl, ?h4⟩) (by assumption) ?r4
  case h4 => (intro W hSw; have e0 := hSw.old n0 nn; have e1 := hSw.old n1 nn; have e2 := hSw.old n2 nn; go_simp; try with_reducible rfl)
  try simp only [Act.put, List.setIfInBounds_toArray, List.set_cons_zero, List.set_cons_succ]
  refine wpAnyH_take (i := 8) (oi := { dst := some 11, op := Op.fieldAddr 25 (Operand.tmp 1) 2, type := 0, pos := "law.go:34", after := #[], guard := none }) (v := ?v5) rfl (by kernel_rfl) (by kernel_rfl) (by kernel_rfl) (fun _ _ _ h => h) (Or.inl ⟨by rfl, ?h5⟩) (by assumption) ?r5
  case h5 => (intro W hSw; have e0 := hSw.old n0 nn; have e1 := hSw.old n1 nn; have e2 := hSw.old n2 nn; go_simp; try with_reducible rfl)
  try simp only [Act.put, List.setIfInBounds_toArray, List.set_cons_zero, List.set_cons_succ]
  refine wpAnyH_take (i := 9) (oi := { dst := some 12, op := Op.load 23 (Operand.tmp 11), type := 23, pos := "law.go:34", after := #[{ on := 8, ground := Ground.data }], guard := none }) (v := ?v6) rfl (by kernel_rfl) (by kernel_rfl) (by kernel_rfl) (fun _ _ _ h => h) (Or.inl ⟨by rfl, ?h6⟩) (by assumption) ?r6
  case h6 => (intro W hSw; have e0 := hSw.old n0 nn; have e1 := hSw.old n1 nn; have e2 := hSw.old n2 nn; go_simp; try with_reducible rfl)
  try simp only [Act.put, List.setIfInBounds_toArray, List.set_cons_zero, List.set_cons_succ]
  refine wpAnyH_ready (rs := [0, 4]) (by kernel_rfl) (by simp) ?_
  refine AllReadyH.cons rfl (fun K hK => ?_) (AllReadyH.cons rfl (fun K hK => ?_) AllReadyH.nil)
  · skip
    refine step_build_p (by rfl) (by rfl) ?_
    intro gA w0 bkA kf0 geA
    have geA : W1.heap.size ≤ gA := geA
    have ltA := bkA.lt
    have sz0 : W1.heap.size ≤ w0.heap.size := kf0.size
    have X := HX.out.trans kf0
    have hglA : W1.heap.size ≤ gA := by omega
    have HX := Lib.hid X
    clear X
    refine hK.out _ _ (HX.out.no _) (fun hHeld => ?_)
    clear hK K
    refine wpAnyH_ready (rs := [3, 4]) (by kernel_rfl) (by simp) ?_
    refine AllReadyH.cons rfl (fun K hK => ?_) (AllReadyH.cons rfl (fun K hK => ?_) AllReadyH.nil)
    · skip
      refine step_append_p (by rfl) _ _ (by rfl) gA (by rfl) bkA (.slice ah wh.length ch) wh O (by rfl) (HHH.out.keep (HK0.out.trans HX.out) fun _ _ => id) HLN.out.1 ?_
      intro qA capA w1 prA kg1
      have sz1 := kg1.size
      have X := HX.out.more kg1 (by rintro b rfl hb; omega)
      have HX := Lib.hid X
      clear X
      refine hK.out _ _ (HX.out.no _) (fun hHeld => ?_)
      clear hK K
      refine wpAnyH_ready (rs := [4]) (by kernel_rfl) (by simp) ?_
      refine AllReadyH.cons rfl (fun K hK => ?_) AllReadyH.nil
      refine step_build_p (by rfl) (by rfl) ?_
      intro gB w2 bkB kf2 geB
      have geB : w1.heap.size ≤ gB := geB
      have ltB := bkB.lt
      have sz2 : w1.heap.size ≤ w2.heap.size := kf2.size
      have X := HX.out.trans kf2
      have prA := prA.keep kf2 fun _ _ => id
      have hglB : W1.heap.size ≤ gB := by omega
      have HX := Lib.hid X
      clear X
      refine hK.out _ _ (HX.out.no _) (fun hHeld => ?_)
      clear hK K
      refine wpAnyH_ready (rs := [7]) (by kernel_rfl) (by simp) ?_
      refine AllReadyH.cons rfl (fun K hK => ?_) AllReadyH.nil
      refine step_append_p (by rfl) _ _ (by rfl) gB (by rfl) bkB (.slice ad wd.length cd) wd O (by rfl) (HHD.out.keep (HK0.out.trans HX.out) fun _ _ => id) HLN.out.2 ?_
      intro qB capB w3 prB kg3
      have sz3 := kg3.size
      have X := HX.out.more kg3 (by rintro b rfl hb; omega)
      have prA := prA.keep kg3 (fun b hb e => by omega)
      have HX := Lib.hid X
      clear X
      refine hK.out _ _ (HX.out.no _) (fun hHeld => ?_)
      clear hK K
      refine wpAnyH_take (i := 10) (oi := { dst := some 13, op := Op.build 25 #[(0, Operand.tmp 6), (1, Operand.tmp 10), (2, Operand.tmp 12)], type := 25, pos := "law.go:34", after := #[{ on := 3, ground := Ground.data }, { on := 7, ground := Ground.data }, { on := 9, ground := Ground.data }], guard := none }) (v := ?v7) rfl (by kernel_rfl) (by kernel_rfl) (by kernel_rfl) (fun _ _ _ h => h) (Or.inl ⟨by rfl, ?h7⟩) (by assumption) ?r7
      case h7 => (intro W hSw; have e0 := hSw.old n0 nn; have e1 := hSw.old n1 nn; have e2 := hSw.old n2 nn; go_simp; try with_reducible rfl)
      try simp only [Act.put, List.setIfInBounds_toArray, List.set_cons_zero, List.set_cons_succ]
      refine wpAnyH_ready (rs := [11]) (by kernel_rfl) (by simp) ?_
      refine AllReadyH.cons rfl (fun K hK => ?_) AllReadyH.nil
      have bq : Blk w3 (N + 1) #[.slice none 0 0, .slice none 0 0, .int .u32 0] 25 := HX.out.blk HB1.out id
      have m0 : w3.cell? ⟨N + 1, 0, none⟩ = some (.slice none 0 0) := bq.cell 0
      have m1 : w3.cell? ⟨N + 1, 1, none⟩ = some (.slice none 0 0) := bq.cell 1
      have m2 : w3.cell? ⟨N + 1, 2, none⟩ = some (.int .u32 0) := bq.cell 2
      have f0 := bq.free 0
      have f1 := bq.free 1
      have f2 := bq.free 2
      have ql := bq.lt
      go_simp
      refine hK.out _ _ ((((HX.out.no (fun x => x = N + 1)).setCell (p := ⟨N + 1, 0, none⟩) (fun _ => rfl) _).setCell (p := ⟨N + 1, 1, none⟩) (fun _ => rfl) _).setCell (p := ⟨N + 1, 2, none⟩) (fun _ => rfl) _) (fun hHeld => ?_)
      clear hK K
      refine wpAnyH_done (by kernel_rfl) ?_ _
      have s3 : Fr (fun b => b = N + 1) w3 (((w3.setCell ⟨N + 1, 0, none⟩ (.slice (some ⟨qA, 0, none⟩) wh.length capA)).setCell ⟨N + 1, 1, none⟩ (.slice (some ⟨qB, 0, none⟩) wd.length capB)).setCell ⟨N + 1, 2, none⟩ (.int .u32 ms)) := (((Fr.refl (fun b => b = N + 1) w3).setCell (p := ⟨N + 1, 0, none⟩) (fun _ => rfl) _).setCell (p := ⟨N + 1, 1, none⟩) (fun _ => rfl) _).setCell (p := ⟨N + 1, 2, none⟩) (fun _ => rfl) _
      have s3z := s3.size
      have HN' := HN.out
      have HL' := HL1.out
      have HS' := HSZ.out
      go_wp2
      refine bodyPost_ret (v := .agg #[.slice (some ⟨qA, 0, none⟩) wh.length capA, .slice (some ⟨qB, 0, none⟩) wd.length capB, .int .u32 ms]) (by simp [results, Try.results9, go_sem, m0, m1, m2, f0, f1, f2, ql]) rfl ⟨_, _, _, _, rfl, ?_, ?_, ?_⟩
      · obtain ⟨a0, c0, x0, y1, y2, y3, y4⟩ := prA.keep s3 (fun b hb e => by omega)
        exact ⟨a0, c0, x0, y1, y2, y3.wide fun b hb => by omega, y4⟩
      · obtain ⟨a0, c0, x0, y1, y2, y3, y4⟩ := prB.keep s3 (fun b hb e => by omega)
        exact ⟨a0, c0, x0, y1, y2, y3.wide fun b hb => by omega, y4⟩
      · exact (HK0.out.trans HX.out).more s3 (by rintro b rfl hb; omega)
    · skip
      refine step_build_p (by rfl) (by rfl) ?_
      intro gB w1 bkB kf1 geB
      have geB : w0.heap.size ≤ gB := geB
      have ltB := bkB.lt
      have sz1 : w0.heap.size ≤ w1.heap.size := kf1.size
      have X := HX.out.trans kf1
      have bkA := kf1.blk bkA id
      have hglB : W1.heap.size ≤ gB := by omega
      have HX := Lib.hid X
      clear X
      refine hK.out _ _ (HX.out.no _) (fun hHeld => ?_)
      clear hK K
      refine wpAnyH_ready (rs := [3]) (by kernel_rfl) (by simp) ?_
      refine AllReadyH.cons rfl (fun K hK => ?_) AllReadyH.nil
      refine step_append_p (by rfl) _ _ (by rfl) gA (by rfl) bkA (.slice ah wh.length ch) wh O (by rfl) (HHH.out.keep (HK0.out.trans HX.out) fun _ _ => id) HLN.out.1 ?_
      intro qA capA w2 prA kg2
      have sz2 := kg2.size
      have X := HX.out.more kg2 (by rintro b rfl hb; omega)
      have bkB := kg2.blk bkB (by omega)
      have HX := Lib.hid X
      clear X
      refine hK.out _ _ (HX.out.no _) (fun hHeld => ?_)
      clear hK K
      refine wpAnyH_ready (rs := [7]) (by kernel_rfl) (by simp) ?_
      refine AllReadyH.cons rfl (fun K hK => ?_) AllReadyH.nil
      refine step_append_p (by rfl) _ _ (by rfl) gB (by rfl) bkB (.slice ad wd.length cd) wd O (by rfl) (HHD.out.keep (HK0.out.trans HX.out) fun _ _ => id) HLN.out.2 ?_
      intro qB capB w3 prB kg3
      have sz3 := kg3.size
      have X := HX.out.more kg3 (by rintro b rfl hb; omega)
      have prA := prA.keep kg3 (fun b hb e => by omega)
      have HX := Lib.hid X
      clear X
      refine hK.out _ _ (HX.out.no _) (fun hHeld => ?_)
      clear hK K
      refine wpAnyH_take (i := 10) (oi := { dst := some 13, op := Op.build 25 #[(0, Operand.tmp 6), (1, Operand.tmp 10), (2, Operand.tmp 12)], type := 25, pos := "law.go:34", after := #[{ on := 3, ground := Ground.data }, { on := 7, ground := Ground.data }, { on := 9, ground := Ground.data }], guard := none }) (v := ?v8) rfl (by kernel_rfl) (by kernel_rfl) (by kernel_rfl) (fun _ _ _ h => h) (Or.inl ⟨by rfl, ?h8⟩) (by assumption) ?r8
      case h8 => (intro W hSw; have e0 := hSw.old n0 nn; have e1 := hSw.old n1 nn; have e2 := hSw.old n2 nn; go_simp; try with_reducible rfl)
      try simp only [Act.put, List.setIfInBounds_toArray, List.set_cons_zero, List.set_cons_succ]
      refine wpAnyH_ready (rs := [11]) (by kernel_rfl) (by simp) ?_
      refine AllReadyH.cons rfl (fun K hK => ?_) AllReadyH.nil
      have bq : Blk w3 (N + 1) #[.slice none 0 0, .slice none 0 0, .int .u32 0] 25 := HX.out.blk HB1.out id
      have m0 : w3.cell? ⟨N + 1, 0, none⟩ = some (.slice none 0 0) := bq.cell 0
      have m1 : w3.cell? ⟨N + 1, 1, none⟩ = some (.slice none 0 0) := bq.cell 1
      have m2 : w3.cell? ⟨N + 1, 2, none⟩ = some (.int .u32 0) := bq.cell 2
      have f0 := bq.free 0
      have f1 := bq.free 1
      have f2 := bq.free 2
      have ql := bq.lt
      go_simp
      refine hK.out _ _ ((((HX.out.no (fun x => x = N + 1)).setCell (p := ⟨N + 1, 0, none⟩) (fun _ => rfl) _).setCell (p := ⟨N + 1, 1, none⟩) (fun _ => rfl) _).setCell (p := ⟨N + 1, 2, none⟩) (fun _ => rfl) _) (fun hHeld => ?_)
      clear hK K
      refine wpAnyH_done (by kernel_rfl) ?_ _
      have s3 : Fr (fun b => b = N + 1) w3 (((w3.setCell ⟨N + 1, 0, none⟩ (.slice (some ⟨qA, 0, none⟩) wh.length capA)).setCell ⟨N + 1, 1, none⟩ (.slice (some ⟨qB, 0, none⟩) wd.length capB)).setCell ⟨N + 1, 2, none⟩ (.int .u32 ms)) := (((Fr.refl (fun b => b = N + 1) w3).setCell (p := ⟨N + 1, 0, none⟩) (fun _ => rfl) _).setCell (p := ⟨N + 1, 1, none⟩) (fun _ => rfl) _).setCell (p := ⟨N + 1, 2, none⟩) (fun _ => rfl) _
      have s3z := s3.size
      have HN' := HN.out
      have HL' := HL1.out
      have HS' := HSZ.out
      go_wp2
      refine bodyPost_ret (v := .agg #[.slice (some ⟨qA, 0, none⟩) wh.length capA, .slice (some ⟨qB, 0, none⟩) wd.length capB, .int .u32 ms]) (by simp [results, Try.results9, go_sem, m0, m1, m2, f0, f1, f2, ql]) rfl ⟨_, _, _, _, rfl, ?_, ?_, ?_⟩
      · obtain ⟨a0, c0, x0, y1, y2, y3, y4⟩ := prA.keep s3 (fun b hb e => by omega)
        exact ⟨a0, c0, x0, y1, y2, y3.wide fun b hb => by omega, y4⟩
      · obtain ⟨a0, c0, x0, y1, y2, y3, y4⟩ := prB.keep s3 (fun b hb e => by omega)
        exact ⟨a0, c0, x0, y1, y2, y3.wide fun b hb => by omega, y4⟩
      · exact (HK0.out.trans HX.out).more s3 (by rintro b rfl hb; omega)
  · skip
    refine step_build_p (by rfl) (by rfl) ?_
    intro gB w0 bkB kf0 geB
    have geB : W1.heap.size ≤ gB := geB
    have ltB := bkB.lt
    have sz0 : W1.heap.size ≤ w0.heap.size := kf0.size
    have X := HX.out.trans kf0
    have hglB : W1.heap.size ≤ gB := by omega
    have HX := Lib.hid X
    clear X
    refine hK.out _ _ (HX.out.no _) (fun hHeld => ?_)
    clear hK K
    refine wpAnyH_ready (rs := [0]) (by kernel_rfl) (by simp) ?_
    refine AllReadyH.cons rfl (fun K hK => ?_) AllReadyH.nil
    refine step_build_p (by rfl) (by rfl) ?_
    intro gA w1 bkA kf1 geA
    have geA : w0.heap.size ≤ gA := geA
    have ltA := bkA.lt
    have sz1 : w0.heap.size ≤ w1.heap.size := kf1.size
    have X := HX.out.trans kf1
    have bkB := kf1.blk bkB id
    have hglA : W1.heap.size ≤ gA := by omega
    have HX := Lib.hid X
    clear X
    refine hK.out _ _ (HX.out.no _) (fun hHeld => ?_)
    clear hK K
    refine wpAnyH_ready (rs := [3]) (by kernel_rfl) (by simp) ?_
    refine AllReadyH.cons rfl (fun K hK => ?_) AllReadyH.nil
    refine step_append_p (by rfl) _ _ (by rfl) gA (by rfl) bkA (.slice ah wh.length ch) wh O (by rfl) (HHH.out.keep (HK0.out.trans HX.out) fun _ _ => id) HLN.out.1 ?_
    intro qA capA w2 prA kg2
    have sz2 := kg2.size
    have X := HX.out.more kg2 (by rintro b rfl hb; omega)
    have bkB := kg2.blk bkB (by omega)
    have HX := Lib.hid X
    clear X
    refine hK.out _ _ (HX.out.no _) (fun hHeld => ?_)
    clear hK K
    refine wpAnyH_ready (rs := [7]) (by kernel_rfl) (by simp) ?_
    refine AllReadyH.cons rfl (fun K hK => ?_) AllReadyH.nil
    refine step_append_p (by rfl) _ _ (by rfl) gB (by rfl) bkB (.slice ad wd.length cd) wd O (by rfl) (HHD.out.keep (HK0.out.trans HX.out) fun _ _ => id) HLN.out.2 ?_
    intro qB capB w3 prB kg3
    have sz3 := kg3.size
    have X := HX.out.more kg3 (by rintro b rfl hb; omega)
    have prA := prA.keep kg3 (fun b hb e => by omega)
    have HX := Lib.hid X
    clear X
    refine hK.out _ _ (HX.out.no _) (fun hHeld => ?_)
    clear hK K
    refine wpAnyH_take (i := 10) (oi := { dst := some 13, op := Op.build 25 #[(0, Operand.tmp 6), (1, Operand.tmp 10), (2, Operand.tmp 12)], type := 25, pos := "law.go:34", after := #[{ on := 3, ground := Ground.data }, { on := 7, ground := Ground.data }, { on := 9, ground := Ground.data }], guard := none }) (v := ?v9) rfl (by kernel_rfl) (by kernel_rfl) (by kernel_rfl) (fun _ _ _ h => h) (Or.inl ⟨by rfl, ?h9⟩) (by assumption) ?r9
    case h9 => (intro W hSw; have e0 := hSw.old n0 nn; have e1 := hSw.old n1 nn; have e2 := hSw.old n2 nn; go_simp; try with_reducible rfl)
    try simp only [Act.put, List.setIfInBounds_toArray, List.set_cons_zero, List.set_cons_succ]
    refine wpAnyH_ready (rs := [11]) (by kernel_rfl) (by simp) ?_
    refine AllReadyH.cons rfl (fun K hK => ?_) AllReadyH.nil
    have bq : Blk w3 (N + 1) #[.slice none 0 0, .slice none 0 0, .int .u32 0] 25 := HX.out.blk HB1.out id
    have m0 : w3.cell? ⟨N + 1, 0, none⟩ = some (.slice none 0 0) := bq.cell 0
    have m1 : w3.cell? ⟨N + 1, 1, none⟩ = some (.slice none 0 0) := bq.cell 1
    have m2 : w3.cell? ⟨N + 1, 2, none⟩ = some (.int .u32 0) := bq.cell 2
    have f0 := bq.free 0
    have f1 := bq.free 1
    have f2 := bq.free 2
    have ql := bq.lt
    go_simp
    refine hK.out _ _ ((((HX.out.no (fun x => x = N + 1)).setCell (p := ⟨N + 1, 0, none⟩) (fun _ => rfl) _).setCell (p := ⟨N + 1, 1, none⟩) (fun _ => rfl) _).setCell (p := ⟨N + 1, 2, none⟩) (fun _ => rfl) _) (fun hHeld => ?_)
    clear hK K
    refine wpAnyH_done (by kernel_rfl) ?_ _
    have s3 : Fr (fun b => b = N + 1) w3 (((w3.setCell ⟨N + 1, 0, none⟩ (.slice (some ⟨qA, 0, none⟩) wh.length capA)).setCell ⟨N + 1, 1, none⟩ (.slice (some ⟨qB, 0, none⟩) wd.length capB)).setCell ⟨N + 1, 2, none⟩ (.int .u32 ms)) := (((Fr.refl (fun b => b = N + 1) w3).setCell (p := ⟨N + 1, 0, none⟩) (fun _ => rfl) _).setCell (p := ⟨N + 1, 1, none⟩) (fun _ => rfl) _).setCell (p := ⟨N + 1, 2, none⟩) (fun _ => rfl) _
    have s3z := s3.size
    have HN' := HN.out
    have HL' := HL1.out
    have HS' := HSZ.out
    go_wp2
    refine bodyPost_ret (v := .agg #[.slice (some ⟨qA, 0, none⟩) wh.length capA, .slice (some ⟨qB, 0, none⟩) wd.length capB, .int .u32 ms]) (by simp [results, Try.results9, go_sem, m0, m1, m2, f0, f1, f2, ql]) rfl ⟨_, _, _, _, rfl, ?_, ?_, ?_⟩
    · obtain ⟨a0, c0, x0, y1, y2, y3, y4⟩ := prA.keep s3 (fun b hb e => by omega)
      exact ⟨a0, c0, x0, y1, y2, y3.wide fun b hb => by omega, y4⟩
    · obtain ⟨a0, c0, x0, y1, y2, y3, y4⟩ := prB.keep s3 (fun b hb e => by omega)
      exact ⟨a0, c0, x0, y1, y2, y3.wide fun b hb => by omega, y4⟩
    · exact (HK0.out.trans HX.out).more s3 (by rintro b rfl hb; omega)
end Go.Proofs.Ytmggfdhlbjlpjaa
