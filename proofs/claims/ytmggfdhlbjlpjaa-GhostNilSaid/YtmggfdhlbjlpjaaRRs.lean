/-
  DERIVED. The walk of the reference's rule at a unit that was sent, and at a session's beginning. (Printed by rsent.py.)
-/
import Derived.Test.YtmggfdhlbjlpjaaRJdg
import Derived.Outline
import Derived.StillTailTactics
namespace Go.Proofs.Ytmggfdhlbjlpjaa
open Go.RowKit
set_option linter.unusedSimpArgs false
set_option linter.unusedVariables false

theorem step_append_b {W : World} {ops : Array Oper} {o : Oper} {a : Act} {K : Act → World → Prop} {Q : Exit → Act → World → Prop} {E : Prop} (hgd : o.guard = none) (s x : Operand) (ho : o.op = .call { callee := .builtin .append, args := #[s, x], argTypes := #[41, 41] })
    (g0 : Nat) (hs : a.eval s = .slice (some ⟨g0, 0, none⟩) 0 0) (hg : Blk W g0 #[] 5) (a' : Option Addr) (cap' : Nat) (l : List UInt8) (O' : Nat → Prop) (hx : a.eval x = .slice a' l.length cap') (hnil : a' = none → cap' = 0) (hrd : Rd W O' a' l) (hlen : l.length ≤ 140737488351232)
    (h : ∀ g cap1 w1, Ob w1 (fun b => g0 ≤ b) (.slice (some ⟨g, 0, none⟩) l.length cap1) l → W.grownBy w1 (some g0) → g < w1.heap.size → g0 ≤ g → K (a.put o.dst (.slice (some ⟨g, 0, none⟩) l.length cap1)) w1) :
    if Region.wanted o (yielded ops a.tmps) = true then Oper.wp Try.prog o a W K Q else E := by
  have hw : Region.wanted o (yielded ops a.tmps) = true := by simp [Region.wanted, hgd]
  rw [if_pos hw]
  obtain ⟨i1, hi1, hy0, hy1, hy2⟩ := info_parts Try.info5
  have hown5 : W.ownsRow g0 5 1 (.slice (some ⟨g0, 0, none⟩) 0 0) 0 [] := ⟨rfl, .inr ⟨g0, 0, #[], rfl, Nat.le_refl _, hg, Nat.le_refl _, by unfold maxLen; omega, rfl, rfl⟩⟩
  cases a' with
  | none =>
    obtain rfl : l = [] := by
      cases l with
      | nil => rfl
      | cons y r => obtain ⟨b, off, h, _⟩ := hrd (by simp); cases h
    have hr : (Builtin.append_ #[41, 41] o.type #[.slice (some ⟨g0, 0, none⟩) 0 0, .slice none 0 cap']).run Try.prog W = .ok (.slice (some ⟨g0, 0, none⟩) 0 0) W := by
      simp [Builtin.append_, run_underlying Try.underlying41, sizeOf, typeInfo, hi1, Builtin.lenOf, Builtin.firstCells, loadCells, loadCellsFrom, storeCells]
    have hx' : a.eval x = .slice none 0 cap' := hx
    unfold Oper.wp execOp
    simp only [ho, resolve, invoke, builtin, Sem.run_bind, Sem.run_pure, Result.andThen_ok, List.map_toArray, List.map_cons, List.map_nil, hs, hx', hr]
    exact h g0 0 W ⟨_, 0, rfl, fun h => (by cases h), fun h => absurd h (by simp)⟩ ⟨rfl, rfl, rfl, Nat.le_refl _, fun _ _ _ => rfl⟩ hg.lt (Nat.le_refl _)
  | some x' =>
    have hsrc : ∀ j u, (u8s l)[j]? = some u → W.cell? (x'.add j) = some u := by
      by_cases hp : 0 < l.length
      · obtain ⟨b, off, hx, _, hc⟩ := hrd hp
        cases hx
        exact u8s_src hc
      · intro j u hu
        rw [List.getElem?_eq_none (by rw [u8s_length]; omega)] at hu; cases hu
    refine wp_append_own W s x 41 ho g0 5 i1 (.int .u8 0) 1 1 Try.underlying41 hi1 hy0 hy1 hy2 rfl (by decide) _ 0 [] hs hown5 x' l.length cap' (u8s l) hx (by rw [u8s_length]; omega) hsrc (u8s_one l) (by unfold maxLen; omega) (by omega) (Nat.le_of_lt hg.lt) ?_
    intro v1 w1 h1 h2 h3
    obtain ⟨g, cap1, rfl⟩ := owns_some h1 (fun e => by cases (h3.1 e).1)
    simp only [Nat.zero_add, List.nil_append] at h1
    have hb := owns_block h1 rfl
    have := h g cap1 w1 (ob_of_owns rfl h1) h2 hb.2.choose_spec.lt hb.1
    simpa using this

/-- What the list gets. -/
def FactP.sent (f : FactP) : FactP := ⟨0, f.conn, f.side, f.session, f.number, false, 0, f.data⟩

set_option maxRecDepth 1000000 in
set_option maxHeartbeats 8000000 in
theorem rr_k1_s1 (O' : Nat → Prop) (j q qs b n i cap sc cc : Nat) (vst : Value) (st : JP) (f : FactP) (l : LineP) (h : Bool) (vf : Value) (cs : Array Value) (w : World) (hj : Blk w j (rCells (.slice (some ⟨q, 0, none⟩) n cap) (.slice (some ⟨qs, 0, none⟩) n sc) vst st) 48) (hqi : w.cell? ⟨q, i, none⟩ = some (.slice (some ⟨b, 0, none⟩) 2 cc)) (css : Array Value) (hsb : Blk w qs css 23) (hsc : css[i]? = some (.int .u32 l.session)) (hb : Blk w b cs 68) (hE : REndCs cs 0 l.e0 h) (hh : h = false → l.e0.value = []) (hf : Bs w O' vf f.data) (hi : i < n) (hc : f.conn = i) (hk : f.kind = 1) (hs : f.side = 1) (O : Nat → Prop) (S : List FactP) (hS : Srow w 0 O vst S) (hO : ∀ b, O b → b < w.heap.size) (hn : S.length ≤ 4000) (hlen : f.data.length ≤ 140737488351232) :
    Calls Try.prog 19 #[.pointer (some ⟨j, 0, none⟩), factV f vf] w fun e w' => e = .returned (.int .i64 0) ∧ ∃ vst', Blk w' j (rCells (.slice (some ⟨q, 0, none⟩) n cap) (.slice (some ⟨qs, 0, none⟩) n sc) vst' st) 48 ∧ Srow w' 0 (Grow O w w') vst' (S ++ [f.sent]) ∧ Fr (fun x => x = j ∨ some x = vst.ownBlock) w w' := by
  have hfs : f.sent = ⟨0, (i : Int), 1, f.session, f.number, false, 0, f.data⟩ := by unfold FactP.sent; rw [hc, hs]
  rw [hfs]
  clear hfs
  obtain ⟨kind, conn, side, sess, number, on, code, data⟩ := f
  obtain ⟨a', cap', rfl, hnil, hrd'⟩ := hf
  dsimp only at hk hs hc hrd' hlen ⊢
  subst hk hs hc
  obtain ⟨sa, scap, rfl⟩ := hS.crow.shape
  show Calls Try.prog 19 #[.pointer (some ⟨j, 0, none⟩), .agg #[.int .i64 1, .int .i64 i, .int .i64 1, .int .u32 sess, .int .u32 number, .bool on, .int .i64 code, .slice a' data.length cap']] w _
  have h3 : decide ((i : Int) < 0) = false := by simp
  have h5 : decide (n ≤ i) = false := by simp; omega
  have h1 : (0 : Int) ≤ i := by omega
  have h2 : (i : Int) < n := by omega
  have j0 : w.cell? ⟨j, 0, none⟩ = some (.slice (some ⟨q, 0, none⟩) n cap) := hj.cell 0
  have j2 : w.cell? ⟨j, 2, none⟩ = some (.slice sa S.length scap) := hj.cell 2
  have hltj := hj.lt
  have hltb := hb.lt
  have hltq := lt_of_cell? hqi
  dsimp only at hltq
  have HBJ := Lib.hid hj
  have HRD := Lib.hid hrd'
  have HNIL := Lib.hid hnil
  have HSR := Lib.hid hS
  have HOO := Lib.hid hO
  have HN := Lib.hid hn
  have HLEN := Lib.hid hlen
  have nown : ∀ x, some x = (Value.slice sa S.length scap).ownBlock → x < w.heap.size ∧ x ≠ j := by
    intro x hx
    obtain ⟨vs, a, b, _⟩ := hS
    obtain ⟨_, cur, hc⟩ := owns_block a hx.symm
    exact ⟨hc.lt, hc.unlike hj (by decide)⟩
  have HNO := Lib.hid nown
  clear hj hb hE hrd' hh hsb hsc hS hO hn hlen hnil nown
  go_enter Try.func19, Try.ntmps19
  go_wp2
  go_quiet (fail)
  generalize nq = n0
  go_wp2
  go_quiet (fail)
  generalize nq = n1
  go_wp2
  obtain ⟨W1, hW1⟩ : ∃ W1, W1 = ((w.alloc (.cells #[.int .i64 1, .int .i64 i, .int .i64 1, .int .u32 sess, .int .u32 number, .bool on, .int .i64 code, .slice a' data.length cap'] 43)).drewN (n0 + n1)) := ⟨_, rfl⟩
  try simp only [World.drewN_drewN]
  rw [← hW1]
  have HF1 : Hid (Fr No w W1) := by show Fr _ _ _; rw [hW1]; exact ((Fr.refl No w).alloc _).drewN _
  have fB : Blk W1 w.heap.size #[.int .i64 1, .int .i64 i, .int .i64 1, .int .u32 sess, .int .u32 number, .bool on, .int .i64 code, .slice a' data.length cap'] 43 := by rw [hW1]; exact ((Fr.refl No _).drewN _).blk (Blk.new _ _ _) id
  have b1 : W1.cell? ⟨w.heap.size, 1, none⟩ = some (.int .i64 i) := fB.cell 1
  have b2 : W1.cell? ⟨w.heap.size, 2, none⟩ = some (.int .i64 1) := fB.cell 2
  have b3 : W1.cell? ⟨w.heap.size, 3, none⟩ = some (.int .u32 sess) := fB.cell 3
  have b4 : W1.cell? ⟨w.heap.size, 4, none⟩ = some (.int .u32 number) := fB.cell 4
  have b7 : W1.cell? ⟨w.heap.size, 7, none⟩ = some (.slice a' data.length cap') := fB.cell 7
  have jW : W1.cell? ⟨j, 2, none⟩ = some (.slice sa S.length scap) := HF1.out.old j2 id
  have hB0 : w.heap.size < W1.heap.size := fB.lt
  have nb : ¬ (w.heap.size = j ∨ some w.heap.size = (Value.slice sa S.length scap).ownBlock) := by rintro (h | h); omega; have := (HNO.out _ h).1; omega
  have hjW : j < W1.heap.size := by omega
  clear fB hW1 j2 j0 hqi
  refine wp_region_held_drew (S := fun W => Fr (fun x => x = j ∨ some x = (Value.slice sa S.length scap).ownBlock) W1 W) (by kernel_rfl) ((Fr.refl _ W1).drew) (fun hHeld => ?_)
  refine wpAnyH_take (i := 0) (v := ?v1) rfl (by kernel_rfl) (by kernel_rfl) (by kernel_rfl) (fun _ _ _ h => h) (Or.inl ⟨by rfl, ?h1⟩) (by assumption) ?r1
  case h1 => (intro W hSw; go_simp; try with_reducible rfl)
  try simp only [Act.put, List.setIfInBounds_toArray, List.set_cons_zero, List.set_cons_succ]
  refine wpAnyH_take (i := 1) (v := ?v2) rfl (by kernel_rfl) (by kernel_rfl) (by kernel_rfl) (fun _ _ _ h => h) (Or.inl ⟨by rfl, ?h2⟩) (by assumption) ?r2
  case h2 => (intro W hSw; go_simp; try with_reducible rfl)
  try simp only [Act.put, List.setIfInBounds_toArray, List.set_cons_zero, List.set_cons_succ]
  refine wpAnyH_take (i := 2) (v := ?v3) rfl (by kernel_rfl) (by kernel_rfl) (by kernel_rfl) (fun _ _ _ h => h) (Or.inl ⟨by rfl, ?h3⟩) (by assumption) ?r3
  case h3 => (intro W hSw; go_simp; try with_reducible rfl)
  try simp only [Act.put, List.setIfInBounds_toArray, List.set_cons_zero, List.set_cons_succ]
  refine wpAnyH_take (i := 3) (v := ?v4) rfl (by kernel_rfl) (by kernel_rfl) (by kernel_rfl) (fun _ _ _ h => h) (Or.inl ⟨by rfl, ?h4⟩) (by assumption) ?r4
  case h4 => (intro W hSw; go_simp; try with_reducible rfl)
  try simp only [Act.put, List.setIfInBounds_toArray, List.set_cons_zero, List.set_cons_succ]
  refine wpAnyH_take (i := 5) (v := ?v5) rfl (by kernel_rfl) (by kernel_rfl) (by kernel_rfl) (fun _ _ _ h => h) (Or.inl ⟨by rfl, ?h5⟩) (by assumption) ?r5
  case h5 => (intro W hSw; go_simp; try with_reducible rfl)
  try simp only [Act.put, List.setIfInBounds_toArray, List.set_cons_zero, List.set_cons_succ]
  refine wpAnyH_take (i := 6) (v := ?v6) rfl (by kernel_rfl) (by kernel_rfl) (by kernel_rfl) (fun _ _ _ h => h) (Or.inl ⟨by rfl, ?h6⟩) (by assumption) ?r6
  case h6 => (intro W hSw; have e1 := hSw.old b1 nb; have e2 := hSw.old b2 nb; have e3 := hSw.old b3 nb; have e4 := hSw.old b4 nb; have e7 := hSw.old b7 nb; go_simp; try with_reducible rfl)
  try simp only [Act.put, List.setIfInBounds_toArray, List.set_cons_zero, List.set_cons_succ]
  refine wpAnyH_take (i := 7) (v := ?v7) rfl (by kernel_rfl) (by kernel_rfl) (by kernel_rfl) (fun _ _ _ h => h) (Or.inl ⟨by rfl, ?h7⟩) (by assumption) ?r7
  case h7 => (intro W hSw; go_simp; try with_reducible rfl)
  try simp only [Act.put, List.setIfInBounds_toArray, List.set_cons_zero, List.set_cons_succ]
  refine wpAnyH_take (i := 8) (v := ?v8) rfl (by kernel_rfl) (by kernel_rfl) (by kernel_rfl) (fun _ _ _ h => h) (Or.inl ⟨by rfl, ?h8⟩) (by assumption) ?r8
  case h8 => (intro W hSw; have e1 := hSw.old b1 nb; have e2 := hSw.old b2 nb; have e3 := hSw.old b3 nb; have e4 := hSw.old b4 nb; have e7 := hSw.old b7 nb; go_simp; try with_reducible rfl)
  try simp only [Act.put, List.setIfInBounds_toArray, List.set_cons_zero, List.set_cons_succ]
  refine wpAnyH_take (i := 9) (v := ?v9) rfl (by kernel_rfl) (by kernel_rfl) (by kernel_rfl) (fun _ _ _ h => h) (Or.inl ⟨by rfl, ?h9⟩) (by assumption) ?r9
  case h9 => (intro W hSw; go_simp; try with_reducible rfl)
  try simp only [Act.put, List.setIfInBounds_toArray, List.set_cons_zero, List.set_cons_succ]
  refine wpAnyH_take (i := 10) (v := ?v10) rfl (by kernel_rfl) (by kernel_rfl) (by kernel_rfl) (fun _ _ _ h => h) (Or.inl ⟨by rfl, ?h10⟩) (by assumption) ?r10
  case h10 => (intro W hSw; have e1 := hSw.old b1 nb; have e2 := hSw.old b2 nb; have e3 := hSw.old b3 nb; have e4 := hSw.old b4 nb; have e7 := hSw.old b7 nb; go_simp; try with_reducible rfl)
  try simp only [Act.put, List.setIfInBounds_toArray, List.set_cons_zero, List.set_cons_succ]
  refine wpAnyH_take (i := 11) (v := ?v11) rfl (by kernel_rfl) (by kernel_rfl) (by kernel_rfl) (fun _ _ _ h => h) (Or.inl ⟨by rfl, ?h11⟩) (by assumption) ?r11
  case h11 => (intro W hSw; go_simp; try with_reducible rfl)
  try simp only [Act.put, List.setIfInBounds_toArray, List.set_cons_zero, List.set_cons_succ]
  refine wpAnyH_take (i := 12) (v := ?v12) rfl (by kernel_rfl) (by kernel_rfl) (by kernel_rfl) (fun _ _ _ h => h) (Or.inl ⟨by rfl, ?h12⟩) (by assumption) ?r12
  case h12 => (intro W hSw; have e1 := hSw.old b1 nb; have e2 := hSw.old b2 nb; have e3 := hSw.old b3 nb; have e4 := hSw.old b4 nb; have e7 := hSw.old b7 nb; go_simp; try with_reducible rfl)
  try simp only [Act.put, List.setIfInBounds_toArray, List.set_cons_zero, List.set_cons_succ]
  refine wpAnyH_take (i := 14) (v := ?v13) rfl (by kernel_rfl) (by kernel_rfl) (by kernel_rfl) (fun _ _ _ h => h) (Or.inl ⟨by rfl, ?h13⟩) (by assumption) ?r13
  case h13 => (intro W hSw; go_simp; try with_reducible rfl)
  try simp only [Act.put, List.setIfInBounds_toArray, List.set_cons_zero, List.set_cons_succ]
  refine wpAnyH_take (i := 15) (v := ?v14) rfl (by kernel_rfl) (by kernel_rfl) (by kernel_rfl) (fun _ _ _ h => h) (Or.inl ⟨by rfl, ?h14⟩) (by assumption) ?r14
  case h14 => (intro W hSw; have e1 := hSw.old b1 nb; have e2 := hSw.old b2 nb; have e3 := hSw.old b3 nb; have e4 := hSw.old b4 nb; have e7 := hSw.old b7 nb; go_simp; try with_reducible rfl)
  try simp only [Act.put, List.setIfInBounds_toArray, List.set_cons_zero, List.set_cons_succ]
  refine wpAnyH_ready (rs := [4, 13]) (by kernel_rfl) (by simp) ?_
  refine AllReadyH.cons rfl (fun K hK => ?_) (AllReadyH.cons rfl (fun K hK => ?_) AllReadyH.nil)
  · skip
    go_simp
    refine hK.out _ _ ((Fr.refl (fun x => x = j ∨ some x = (Value.slice sa S.length scap).ownBlock) W1).drew) (fun hHeld => ?_)
    clear hK K
    refine wpAnyH_ready (rs := [13]) (by kernel_rfl) (by simp) ?_
    refine AllReadyH.cons rfl (fun K hK => ?_) AllReadyH.nil
    go_simp
    refine hK.out _ _ ((((Fr.refl (fun x => x = j ∨ some x = (Value.slice sa S.length scap).ownBlock) W1).alloc _).drew)) (fun hHeld => ?_)
    clear hK K
    refine wpAnyH_ready (rs := [16]) (by kernel_rfl) (by simp) ?_
    refine AllReadyH.cons rfl (fun K hK => ?_) AllReadyH.nil
    refine step_append_b (by rfl) _ _ (by rfl) W1.heap.size (by rfl) (by exact alloc_at W1 _ rfl) a' cap' data O' (by rfl) HNIL.out (HRD.out.keep (HF1.out.trans (((Fr.refl No W1).alloc _).drew)) fun _ _ => id) HLEN.out ?_
    intro g5 cap5 w4 hob4 hgr4 hg5 hg5'
    have f4 : Fr No W1 w4 := (((Fr.refl No W1).alloc _).drew).more (grown_fr hgr4) (fun x hx hlt => by cases hx; exact absurd hlt (Nat.lt_irrefl _))
    have j4 : w4.cell? ⟨j, 2, none⟩ = some (.slice sa S.length scap) := f4.old jW id
    have jl4 := lt_of_cell? j4
    dsimp only at jl4
    have F4 := Lib.hid f4
    have OB4 := Lib.hid hob4
    have hs4 := f4.size
    clear f4 hob4 hgr4
    refine hK.out _ _ (F4.out.no _) (fun hHeld => ?_)
    clear hK K
    refine wpAnyH_take (i := 17) (v := ?v15) rfl (by kernel_rfl) (by kernel_rfl) (by kernel_rfl) (fun _ _ _ h => h) (Or.inl ⟨by rfl, ?h15⟩) (by assumption) ?r15
    case h15 => (intro W hSw; go_simp; try with_reducible rfl)
    try simp only [Act.put, List.setIfInBounds_toArray, List.set_cons_zero, List.set_cons_succ]
    refine wpAnyH_ready (rs := [18]) (by kernel_rfl) (by simp) ?_
    refine AllReadyH.cons rfl (fun K hK => ?_) AllReadyH.nil
    go_simp
    refine hK.out _ _ ((F4.out.alloc _).no _) (fun hHeld => ?_)
    clear hK K
    refine wpAnyH_ready (rs := [19]) (by kernel_rfl) (by simp) ?_
    refine AllReadyH.cons rfl (fun K hK => ?_) AllReadyH.nil
    have X : Fr No w (w4.alloc _) := (HF1.out.trans F4.out).alloc (.cells (factCells ⟨0, (i : Int), 1, sess, number, false, 0, data⟩ (.slice (some ⟨g5, 0, none⟩) data.length cap5)) 43)
    refine step_append_s (by rfl) _ _ (by rfl) 0 (Grow O w (w4.alloc (.cells (factCells ⟨0, (i : Int), 1, sess, number, false, 0, data⟩ (.slice (some ⟨g5, 0, none⟩) data.length cap5)) 43))) (.slice sa S.length scap) S ⟨0, (i : Int), 1, sess, number, false, 0, data⟩ (.slice (some ⟨g5, 0, none⟩) data.length cap5) (by rfl) (HSR.out.keep X (fun _ _ _ _ => id) (fun _ _ _ _ => id) fun b hb _ => .inl hb) w4.heap.size (by rfl) (by exact alloc_at w4 _ rfl) ((OB4.out.keep ((Fr.refl No w4).alloc _) (fun _ _ => id)).wide fun b hb hlt => .inr ⟨Nat.le_trans HF1.out.size hb, hlt⟩) HN.out (Nat.zero_le _) ?_
    intro g6 cap6 w5 hs5 hg6 _
    have f5 : Fr (fun x => x = j ∨ some x = (Value.slice sa S.length scap).ownBlock) W1 w5 := ((F4.out.alloc _).no _).trans ((grown_fr hg6).wide fun x hx _ => .inr hx)
    have bj5 : Blk w5 j (rCells (.slice (some ⟨q, 0, none⟩) n cap) (.slice (some ⟨qs, 0, none⟩) n sc) (.slice sa S.length scap) st) 48 := (grown_fr hg6).blk (X.blk HBJ.out id) (fun h => (HNO.out _ h).2 rfl)
    have j5 : w5.cell? ⟨j, 2, none⟩ = some (.slice sa S.length scap) := bj5.cell 2
    have jf5 := bj5.free 2
    have jl5 := bj5.lt
    have F5 := Lib.hid f5
    have BJ5 := Lib.hid bj5
    have HS5 := Lib.hid hs5
    have hX := Lib.hid X
    have hsz5 := (grown_fr hg6).size
    clear X f5 bj5 hs5 hg6
    refine hK.out _ _ (F5.out) (fun hHeld => ?_)
    clear hK K
    refine wpAnyH_take (i := 20) (v := ?v16) rfl (by kernel_rfl) (by kernel_rfl) (by kernel_rfl) (fun _ _ _ h => h) (Or.inl ⟨by rfl, ?h16⟩) (by assumption) ?r16
    case h16 => (intro W hSw; go_simp; try with_reducible rfl)
    try simp only [Act.put, List.setIfInBounds_toArray, List.set_cons_zero, List.set_cons_succ]
    refine wpAnyH_take (i := 21) (v := ?v17) rfl (by kernel_rfl) (by kernel_rfl) (by kernel_rfl) (fun _ _ _ h => h) (Or.inl ⟨by rfl, ?h17⟩) (by assumption) ?r17
    case h17 => (intro W hSw; go_simp; try with_reducible rfl)
    try simp only [Act.put, List.setIfInBounds_toArray, List.set_cons_zero, List.set_cons_succ]
    refine wpAnyH_ready (rs := [22]) (by kernel_rfl) (by simp) ?_
    refine AllReadyH.cons rfl (fun K hK => ?_) AllReadyH.nil
    go_simp
    refine hK.out _ _ (F5.out.setCell (p := ⟨j, 2, none⟩) (fun _ => .inl rfl) _) (fun hHeld => ?_)
    clear hK K
    refine wpAnyH_done (by kernel_rfl) ?_ _
    go_wp2
    go_ret
    have sj : Fr (fun x => x = j) w5 (w5.setCell ⟨j, 2, none⟩ (.slice (some ⟨g6, 0, none⟩) (S.length + 1) cap6)) := (Fr.refl (fun x => x = j) w5).setCell (p := ⟨j, 2, none⟩) (fun _ => rfl) _
    refine ⟨rfl, _, BJ5.out.set' 2 _ rfl, ?_, ?_⟩
    · refine HS5.out.keep sj (fun g cur _ hb e => hb.unlike BJ5.out (by decide) e) (fun g cur _ hb e => hb.unlike BJ5.out (by decide) e) ?_
      rintro x hx hlt
      rcases hx with (hx | hx) | hx
      · exact .inl hx
      · exact .inr ⟨hx.1, Nat.lt_of_lt_of_le hx.2 (Nat.le_trans hsz5 sj.size)⟩
      · exact .inr ⟨Nat.le_trans hX.out.size hx.1, Nat.lt_of_lt_of_le hx.2 sj.size⟩
    · exact ((HF1.out.no _).trans F5.out).trans (sj.wide fun _ h _ => .inl h)
  · skip
    go_simp
    refine hK.out _ _ ((((Fr.refl (fun x => x = j ∨ some x = (Value.slice sa S.length scap).ownBlock) W1).alloc _).drew)) (fun hHeld => ?_)
    clear hK K
    refine wpAnyH_ready (rs := [4, 16]) (by kernel_rfl) (by simp) ?_
    refine AllReadyH.cons rfl (fun K hK => ?_) (AllReadyH.cons rfl (fun K hK => ?_) AllReadyH.nil)
    · skip
      go_simp
      refine hK.out _ _ ((((Fr.refl (fun x => x = j ∨ some x = (Value.slice sa S.length scap).ownBlock) W1).alloc _).drew)) (fun hHeld => ?_)
      clear hK K
      refine wpAnyH_ready (rs := [16]) (by kernel_rfl) (by simp) ?_
      refine AllReadyH.cons rfl (fun K hK => ?_) AllReadyH.nil
      refine step_append_b (by rfl) _ _ (by rfl) W1.heap.size (by rfl) (by exact alloc_at W1 _ rfl) a' cap' data O' (by rfl) HNIL.out (HRD.out.keep (HF1.out.trans (((Fr.refl No W1).alloc _).drew)) fun _ _ => id) HLEN.out ?_
      intro g5 cap5 w4 hob4 hgr4 hg5 hg5'
      have f4 : Fr No W1 w4 := (((Fr.refl No W1).alloc _).drew).more (grown_fr hgr4) (fun x hx hlt => by cases hx; exact absurd hlt (Nat.lt_irrefl _))
      have j4 : w4.cell? ⟨j, 2, none⟩ = some (.slice sa S.length scap) := f4.old jW id
      have jl4 := lt_of_cell? j4
      dsimp only at jl4
      have F4 := Lib.hid f4
      have OB4 := Lib.hid hob4
      have hs4 := f4.size
      clear f4 hob4 hgr4
      refine hK.out _ _ (F4.out.no _) (fun hHeld => ?_)
      clear hK K
      refine wpAnyH_take (i := 17) (v := ?v18) rfl (by kernel_rfl) (by kernel_rfl) (by kernel_rfl) (fun _ _ _ h => h) (Or.inl ⟨by rfl, ?h18⟩) (by assumption) ?r18
      case h18 => (intro W hSw; go_simp; try with_reducible rfl)
      try simp only [Act.put, List.setIfInBounds_toArray, List.set_cons_zero, List.set_cons_succ]
      refine wpAnyH_ready (rs := [18]) (by kernel_rfl) (by simp) ?_
      refine AllReadyH.cons rfl (fun K hK => ?_) AllReadyH.nil
      go_simp
      refine hK.out _ _ ((F4.out.alloc _).no _) (fun hHeld => ?_)
      clear hK K
      refine wpAnyH_ready (rs := [19]) (by kernel_rfl) (by simp) ?_
      refine AllReadyH.cons rfl (fun K hK => ?_) AllReadyH.nil
      have X : Fr No w (w4.alloc _) := (HF1.out.trans F4.out).alloc (.cells (factCells ⟨0, (i : Int), 1, sess, number, false, 0, data⟩ (.slice (some ⟨g5, 0, none⟩) data.length cap5)) 43)
      refine step_append_s (by rfl) _ _ (by rfl) 0 (Grow O w (w4.alloc (.cells (factCells ⟨0, (i : Int), 1, sess, number, false, 0, data⟩ (.slice (some ⟨g5, 0, none⟩) data.length cap5)) 43))) (.slice sa S.length scap) S ⟨0, (i : Int), 1, sess, number, false, 0, data⟩ (.slice (some ⟨g5, 0, none⟩) data.length cap5) (by rfl) (HSR.out.keep X (fun _ _ _ _ => id) (fun _ _ _ _ => id) fun b hb _ => .inl hb) w4.heap.size (by rfl) (by exact alloc_at w4 _ rfl) ((OB4.out.keep ((Fr.refl No w4).alloc _) (fun _ _ => id)).wide fun b hb hlt => .inr ⟨Nat.le_trans HF1.out.size hb, hlt⟩) HN.out (Nat.zero_le _) ?_
      intro g6 cap6 w5 hs5 hg6 _
      have f5 : Fr (fun x => x = j ∨ some x = (Value.slice sa S.length scap).ownBlock) W1 w5 := ((F4.out.alloc _).no _).trans ((grown_fr hg6).wide fun x hx _ => .inr hx)
      have bj5 : Blk w5 j (rCells (.slice (some ⟨q, 0, none⟩) n cap) (.slice (some ⟨qs, 0, none⟩) n sc) (.slice sa S.length scap) st) 48 := (grown_fr hg6).blk (X.blk HBJ.out id) (fun h => (HNO.out _ h).2 rfl)
      have j5 : w5.cell? ⟨j, 2, none⟩ = some (.slice sa S.length scap) := bj5.cell 2
      have jf5 := bj5.free 2
      have jl5 := bj5.lt
      have F5 := Lib.hid f5
      have BJ5 := Lib.hid bj5
      have HS5 := Lib.hid hs5
      have hX := Lib.hid X
      have hsz5 := (grown_fr hg6).size
      clear X f5 bj5 hs5 hg6
      refine hK.out _ _ (F5.out) (fun hHeld => ?_)
      clear hK K
      refine wpAnyH_take (i := 20) (v := ?v19) rfl (by kernel_rfl) (by kernel_rfl) (by kernel_rfl) (fun _ _ _ h => h) (Or.inl ⟨by rfl, ?h19⟩) (by assumption) ?r19
      case h19 => (intro W hSw; go_simp; try with_reducible rfl)
      try simp only [Act.put, List.setIfInBounds_toArray, List.set_cons_zero, List.set_cons_succ]
      refine wpAnyH_take (i := 21) (v := ?v20) rfl (by kernel_rfl) (by kernel_rfl) (by kernel_rfl) (fun _ _ _ h => h) (Or.inl ⟨by rfl, ?h20⟩) (by assumption) ?r20
      case h20 => (intro W hSw; go_simp; try with_reducible rfl)
      try simp only [Act.put, List.setIfInBounds_toArray, List.set_cons_zero, List.set_cons_succ]
      refine wpAnyH_ready (rs := [22]) (by kernel_rfl) (by simp) ?_
      refine AllReadyH.cons rfl (fun K hK => ?_) AllReadyH.nil
      go_simp
      refine hK.out _ _ (F5.out.setCell (p := ⟨j, 2, none⟩) (fun _ => .inl rfl) _) (fun hHeld => ?_)
      clear hK K
      refine wpAnyH_done (by kernel_rfl) ?_ _
      go_wp2
      go_ret
      have sj : Fr (fun x => x = j) w5 (w5.setCell ⟨j, 2, none⟩ (.slice (some ⟨g6, 0, none⟩) (S.length + 1) cap6)) := (Fr.refl (fun x => x = j) w5).setCell (p := ⟨j, 2, none⟩) (fun _ => rfl) _
      refine ⟨rfl, _, BJ5.out.set' 2 _ rfl, ?_, ?_⟩
      · refine HS5.out.keep sj (fun g cur _ hb e => hb.unlike BJ5.out (by decide) e) (fun g cur _ hb e => hb.unlike BJ5.out (by decide) e) ?_
        rintro x hx hlt
        rcases hx with (hx | hx) | hx
        · exact .inl hx
        · exact .inr ⟨hx.1, Nat.lt_of_lt_of_le hx.2 (Nat.le_trans hsz5 sj.size)⟩
        · exact .inr ⟨Nat.le_trans hX.out.size hx.1, Nat.lt_of_lt_of_le hx.2 sj.size⟩
      · exact ((HF1.out.no _).trans F5.out).trans (sj.wide fun _ h _ => .inl h)
    · skip
      refine step_append_b (by rfl) _ _ (by rfl) W1.heap.size (by rfl) (by exact alloc_at W1 _ rfl) a' cap' data O' (by rfl) HNIL.out (HRD.out.keep (HF1.out.trans (((Fr.refl No W1).alloc _).drew)) fun _ _ => id) HLEN.out ?_
      intro g5 cap5 w4 hob4 hgr4 hg5 hg5'
      have f4 : Fr No W1 w4 := (((Fr.refl No W1).alloc _).drew).more (grown_fr hgr4) (fun x hx hlt => by cases hx; exact absurd hlt (Nat.lt_irrefl _))
      have j4 : w4.cell? ⟨j, 2, none⟩ = some (.slice sa S.length scap) := f4.old jW id
      have jl4 := lt_of_cell? j4
      dsimp only at jl4
      have F4 := Lib.hid f4
      have OB4 := Lib.hid hob4
      have hs4 := f4.size
      clear f4 hob4 hgr4
      refine hK.out _ _ (F4.out.no _) (fun hHeld => ?_)
      clear hK K
      refine wpAnyH_take (i := 17) (v := ?v21) rfl (by kernel_rfl) (by kernel_rfl) (by kernel_rfl) (fun _ _ _ h => h) (Or.inl ⟨by rfl, ?h21⟩) (by assumption) ?r21
      case h21 => (intro W hSw; go_simp; try with_reducible rfl)
      try simp only [Act.put, List.setIfInBounds_toArray, List.set_cons_zero, List.set_cons_succ]
      refine wpAnyH_ready (rs := [4, 18]) (by kernel_rfl) (by simp) ?_
      refine AllReadyH.cons rfl (fun K hK => ?_) (AllReadyH.cons rfl (fun K hK => ?_) AllReadyH.nil)
      · skip
        go_simp
        refine hK.out _ _ (F4.out.no _) (fun hHeld => ?_)
        clear hK K
        refine wpAnyH_ready (rs := [18]) (by kernel_rfl) (by simp) ?_
        refine AllReadyH.cons rfl (fun K hK => ?_) AllReadyH.nil
        go_simp
        refine hK.out _ _ ((F4.out.alloc _).no _) (fun hHeld => ?_)
        clear hK K
        refine wpAnyH_ready (rs := [19]) (by kernel_rfl) (by simp) ?_
        refine AllReadyH.cons rfl (fun K hK => ?_) AllReadyH.nil
        have X : Fr No w (w4.alloc _) := (HF1.out.trans F4.out).alloc (.cells (factCells ⟨0, (i : Int), 1, sess, number, false, 0, data⟩ (.slice (some ⟨g5, 0, none⟩) data.length cap5)) 43)
        refine step_append_s (by rfl) _ _ (by rfl) 0 (Grow O w (w4.alloc (.cells (factCells ⟨0, (i : Int), 1, sess, number, false, 0, data⟩ (.slice (some ⟨g5, 0, none⟩) data.length cap5)) 43))) (.slice sa S.length scap) S ⟨0, (i : Int), 1, sess, number, false, 0, data⟩ (.slice (some ⟨g5, 0, none⟩) data.length cap5) (by rfl) (HSR.out.keep X (fun _ _ _ _ => id) (fun _ _ _ _ => id) fun b hb _ => .inl hb) w4.heap.size (by rfl) (by exact alloc_at w4 _ rfl) ((OB4.out.keep ((Fr.refl No w4).alloc _) (fun _ _ => id)).wide fun b hb hlt => .inr ⟨Nat.le_trans HF1.out.size hb, hlt⟩) HN.out (Nat.zero_le _) ?_
        intro g6 cap6 w5 hs5 hg6 _
        have f5 : Fr (fun x => x = j ∨ some x = (Value.slice sa S.length scap).ownBlock) W1 w5 := ((F4.out.alloc _).no _).trans ((grown_fr hg6).wide fun x hx _ => .inr hx)
        have bj5 : Blk w5 j (rCells (.slice (some ⟨q, 0, none⟩) n cap) (.slice (some ⟨qs, 0, none⟩) n sc) (.slice sa S.length scap) st) 48 := (grown_fr hg6).blk (X.blk HBJ.out id) (fun h => (HNO.out _ h).2 rfl)
        have j5 : w5.cell? ⟨j, 2, none⟩ = some (.slice sa S.length scap) := bj5.cell 2
        have jf5 := bj5.free 2
        have jl5 := bj5.lt
        have F5 := Lib.hid f5
        have BJ5 := Lib.hid bj5
        have HS5 := Lib.hid hs5
        have hX := Lib.hid X
        have hsz5 := (grown_fr hg6).size
        clear X f5 bj5 hs5 hg6
        refine hK.out _ _ (F5.out) (fun hHeld => ?_)
        clear hK K
        refine wpAnyH_take (i := 20) (v := ?v22) rfl (by kernel_rfl) (by kernel_rfl) (by kernel_rfl) (fun _ _ _ h => h) (Or.inl ⟨by rfl, ?h22⟩) (by assumption) ?r22
        case h22 => (intro W hSw; go_simp; try with_reducible rfl)
        try simp only [Act.put, List.setIfInBounds_toArray, List.set_cons_zero, List.set_cons_succ]
        refine wpAnyH_take (i := 21) (v := ?v23) rfl (by kernel_rfl) (by kernel_rfl) (by kernel_rfl) (fun _ _ _ h => h) (Or.inl ⟨by rfl, ?h23⟩) (by assumption) ?r23
        case h23 => (intro W hSw; go_simp; try with_reducible rfl)
        try simp only [Act.put, List.setIfInBounds_toArray, List.set_cons_zero, List.set_cons_succ]
        refine wpAnyH_ready (rs := [22]) (by kernel_rfl) (by simp) ?_
        refine AllReadyH.cons rfl (fun K hK => ?_) AllReadyH.nil
        go_simp
        refine hK.out _ _ (F5.out.setCell (p := ⟨j, 2, none⟩) (fun _ => .inl rfl) _) (fun hHeld => ?_)
        clear hK K
        refine wpAnyH_done (by kernel_rfl) ?_ _
        go_wp2
        go_ret
        have sj : Fr (fun x => x = j) w5 (w5.setCell ⟨j, 2, none⟩ (.slice (some ⟨g6, 0, none⟩) (S.length + 1) cap6)) := (Fr.refl (fun x => x = j) w5).setCell (p := ⟨j, 2, none⟩) (fun _ => rfl) _
        refine ⟨rfl, _, BJ5.out.set' 2 _ rfl, ?_, ?_⟩
        · refine HS5.out.keep sj (fun g cur _ hb e => hb.unlike BJ5.out (by decide) e) (fun g cur _ hb e => hb.unlike BJ5.out (by decide) e) ?_
          rintro x hx hlt
          rcases hx with (hx | hx) | hx
          · exact .inl hx
          · exact .inr ⟨hx.1, Nat.lt_of_lt_of_le hx.2 (Nat.le_trans hsz5 sj.size)⟩
          · exact .inr ⟨Nat.le_trans hX.out.size hx.1, Nat.lt_of_lt_of_le hx.2 sj.size⟩
        · exact ((HF1.out.no _).trans F5.out).trans (sj.wide fun _ h _ => .inl h)
      · skip
        go_simp
        refine hK.out _ _ ((F4.out.alloc _).no _) (fun hHeld => ?_)
        clear hK K
        refine wpAnyH_ready (rs := [4]) (by kernel_rfl) (by simp) ?_
        refine AllReadyH.cons rfl (fun K hK => ?_) AllReadyH.nil
        go_simp
        refine hK.out _ _ ((F4.out.alloc _).no _) (fun hHeld => ?_)
        clear hK K
        refine wpAnyH_ready (rs := [19]) (by kernel_rfl) (by simp) ?_
        refine AllReadyH.cons rfl (fun K hK => ?_) AllReadyH.nil
        have X : Fr No w (w4.alloc _) := (HF1.out.trans F4.out).alloc (.cells (factCells ⟨0, (i : Int), 1, sess, number, false, 0, data⟩ (.slice (some ⟨g5, 0, none⟩) data.length cap5)) 43)
        refine step_append_s (by rfl) _ _ (by rfl) 0 (Grow O w (w4.alloc (.cells (factCells ⟨0, (i : Int), 1, sess, number, false, 0, data⟩ (.slice (some ⟨g5, 0, none⟩) data.length cap5)) 43))) (.slice sa S.length scap) S ⟨0, (i : Int), 1, sess, number, false, 0, data⟩ (.slice (some ⟨g5, 0, none⟩) data.length cap5) (by rfl) (HSR.out.keep X (fun _ _ _ _ => id) (fun _ _ _ _ => id) fun b hb _ => .inl hb) w4.heap.size (by rfl) (by exact alloc_at w4 _ rfl) ((OB4.out.keep ((Fr.refl No w4).alloc _) (fun _ _ => id)).wide fun b hb hlt => .inr ⟨Nat.le_trans HF1.out.size hb, hlt⟩) HN.out (Nat.zero_le _) ?_
        intro g6 cap6 w5 hs5 hg6 _
        have f5 : Fr (fun x => x = j ∨ some x = (Value.slice sa S.length scap).ownBlock) W1 w5 := ((F4.out.alloc _).no _).trans ((grown_fr hg6).wide fun x hx _ => .inr hx)
        have bj5 : Blk w5 j (rCells (.slice (some ⟨q, 0, none⟩) n cap) (.slice (some ⟨qs, 0, none⟩) n sc) (.slice sa S.length scap) st) 48 := (grown_fr hg6).blk (X.blk HBJ.out id) (fun h => (HNO.out _ h).2 rfl)
        have j5 : w5.cell? ⟨j, 2, none⟩ = some (.slice sa S.length scap) := bj5.cell 2
        have jf5 := bj5.free 2
        have jl5 := bj5.lt
        have F5 := Lib.hid f5
        have BJ5 := Lib.hid bj5
        have HS5 := Lib.hid hs5
        have hX := Lib.hid X
        have hsz5 := (grown_fr hg6).size
        clear X f5 bj5 hs5 hg6
        refine hK.out _ _ (F5.out) (fun hHeld => ?_)
        clear hK K
        refine wpAnyH_take (i := 20) (v := ?v24) rfl (by kernel_rfl) (by kernel_rfl) (by kernel_rfl) (fun _ _ _ h => h) (Or.inl ⟨by rfl, ?h24⟩) (by assumption) ?r24
        case h24 => (intro W hSw; go_simp; try with_reducible rfl)
        try simp only [Act.put, List.setIfInBounds_toArray, List.set_cons_zero, List.set_cons_succ]
        refine wpAnyH_take (i := 21) (v := ?v25) rfl (by kernel_rfl) (by kernel_rfl) (by kernel_rfl) (fun _ _ _ h => h) (Or.inl ⟨by rfl, ?h25⟩) (by assumption) ?r25
        case h25 => (intro W hSw; go_simp; try with_reducible rfl)
        try simp only [Act.put, List.setIfInBounds_toArray, List.set_cons_zero, List.set_cons_succ]
        refine wpAnyH_ready (rs := [22]) (by kernel_rfl) (by simp) ?_
        refine AllReadyH.cons rfl (fun K hK => ?_) AllReadyH.nil
        go_simp
        refine hK.out _ _ (F5.out.setCell (p := ⟨j, 2, none⟩) (fun _ => .inl rfl) _) (fun hHeld => ?_)
        clear hK K
        refine wpAnyH_done (by kernel_rfl) ?_ _
        go_wp2
        go_ret
        have sj : Fr (fun x => x = j) w5 (w5.setCell ⟨j, 2, none⟩ (.slice (some ⟨g6, 0, none⟩) (S.length + 1) cap6)) := (Fr.refl (fun x => x = j) w5).setCell (p := ⟨j, 2, none⟩) (fun _ => rfl) _
        refine ⟨rfl, _, BJ5.out.set' 2 _ rfl, ?_, ?_⟩
        · refine HS5.out.keep sj (fun g cur _ hb e => hb.unlike BJ5.out (by decide) e) (fun g cur _ hb e => hb.unlike BJ5.out (by decide) e) ?_
          rintro x hx hlt
          rcases hx with (hx | hx) | hx
          · exact .inl hx
          · exact .inr ⟨hx.1, Nat.lt_of_lt_of_le hx.2 (Nat.le_trans hsz5 sj.size)⟩
          · exact .inr ⟨Nat.le_trans hX.out.size hx.1, Nat.lt_of_lt_of_le hx.2 sj.size⟩
        · exact ((HF1.out.no _).trans F5.out).trans (sj.wide fun _ h _ => .inl h)
set_option maxRecDepth 1000000 in
set_option maxHeartbeats 8000000 in
theorem rr_k1_s2 (O' : Nat → Prop) (j q qs b n i cap sc cc : Nat) (vst : Value) (st : JP) (f : FactP) (l : LineP) (h : Bool) (vf : Value) (cs : Array Value) (w : World) (hj : Blk w j (rCells (.slice (some ⟨q, 0, none⟩) n cap) (.slice (some ⟨qs, 0, none⟩) n sc) vst st) 48) (hqi : w.cell? ⟨q, i, none⟩ = some (.slice (some ⟨b, 0, none⟩) 2 cc)) (css : Array Value) (hsb : Blk w qs css 23) (hsc : css[i]? = some (.int .u32 l.session)) (hb : Blk w b cs 68) (hE : REndCs cs 11 l.e1 h) (hh : h = false → l.e1.value = []) (hf : Bs w O' vf f.data) (hi : i < n) (hc : f.conn = i) (hk : f.kind = 1) (hs : f.side = 2) (O : Nat → Prop) (S : List FactP) (hS : Srow w 0 O vst S) (hO : ∀ b, O b → b < w.heap.size) (hn : S.length ≤ 4000) (hlen : f.data.length ≤ 140737488351232) :
    Calls Try.prog 19 #[.pointer (some ⟨j, 0, none⟩), factV f vf] w fun e w' => e = .returned (.int .i64 0) ∧ ∃ vst', Blk w' j (rCells (.slice (some ⟨q, 0, none⟩) n cap) (.slice (some ⟨qs, 0, none⟩) n sc) vst' st) 48 ∧ Srow w' 0 (Grow O w w') vst' (S ++ [f.sent]) ∧ Fr (fun x => x = j ∨ some x = vst.ownBlock) w w' := by
  have hfs : f.sent = ⟨0, (i : Int), 2, f.session, f.number, false, 0, f.data⟩ := by unfold FactP.sent; rw [hc, hs]
  rw [hfs]
  clear hfs
  obtain ⟨kind, conn, side, sess, number, on, code, data⟩ := f
  obtain ⟨a', cap', rfl, hnil, hrd'⟩ := hf
  dsimp only at hk hs hc hrd' hlen ⊢
  subst hk hs hc
  obtain ⟨sa, scap, rfl⟩ := hS.crow.shape
  show Calls Try.prog 19 #[.pointer (some ⟨j, 0, none⟩), .agg #[.int .i64 1, .int .i64 i, .int .i64 2, .int .u32 sess, .int .u32 number, .bool on, .int .i64 code, .slice a' data.length cap']] w _
  have h3 : decide ((i : Int) < 0) = false := by simp
  have h5 : decide (n ≤ i) = false := by simp; omega
  have h1 : (0 : Int) ≤ i := by omega
  have h2 : (i : Int) < n := by omega
  have j0 : w.cell? ⟨j, 0, none⟩ = some (.slice (some ⟨q, 0, none⟩) n cap) := hj.cell 0
  have j2 : w.cell? ⟨j, 2, none⟩ = some (.slice sa S.length scap) := hj.cell 2
  have hltj := hj.lt
  have hltb := hb.lt
  have hltq := lt_of_cell? hqi
  dsimp only at hltq
  have HBJ := Lib.hid hj
  have HRD := Lib.hid hrd'
  have HNIL := Lib.hid hnil
  have HSR := Lib.hid hS
  have HOO := Lib.hid hO
  have HN := Lib.hid hn
  have HLEN := Lib.hid hlen
  have nown : ∀ x, some x = (Value.slice sa S.length scap).ownBlock → x < w.heap.size ∧ x ≠ j := by
    intro x hx
    obtain ⟨vs, a, b, _⟩ := hS
    obtain ⟨_, cur, hc⟩ := owns_block a hx.symm
    exact ⟨hc.lt, hc.unlike hj (by decide)⟩
  have HNO := Lib.hid nown
  clear hj hb hE hrd' hh hsb hsc hS hO hn hlen hnil nown
  go_enter Try.func19, Try.ntmps19
  go_wp2
  go_quiet (fail)
  generalize nq = n0
  go_wp2
  go_quiet (fail)
  generalize nq = n1
  go_wp2
  obtain ⟨W1, hW1⟩ : ∃ W1, W1 = ((w.alloc (.cells #[.int .i64 1, .int .i64 i, .int .i64 2, .int .u32 sess, .int .u32 number, .bool on, .int .i64 code, .slice a' data.length cap'] 43)).drewN (n0 + n1)) := ⟨_, rfl⟩
  try simp only [World.drewN_drewN]
  rw [← hW1]
  have HF1 : Hid (Fr No w W1) := by show Fr _ _ _; rw [hW1]; exact ((Fr.refl No w).alloc _).drewN _
  have fB : Blk W1 w.heap.size #[.int .i64 1, .int .i64 i, .int .i64 2, .int .u32 sess, .int .u32 number, .bool on, .int .i64 code, .slice a' data.length cap'] 43 := by rw [hW1]; exact ((Fr.refl No _).drewN _).blk (Blk.new _ _ _) id
  have b1 : W1.cell? ⟨w.heap.size, 1, none⟩ = some (.int .i64 i) := fB.cell 1
  have b2 : W1.cell? ⟨w.heap.size, 2, none⟩ = some (.int .i64 2) := fB.cell 2
  have b3 : W1.cell? ⟨w.heap.size, 3, none⟩ = some (.int .u32 sess) := fB.cell 3
  have b4 : W1.cell? ⟨w.heap.size, 4, none⟩ = some (.int .u32 number) := fB.cell 4
  have b7 : W1.cell? ⟨w.heap.size, 7, none⟩ = some (.slice a' data.length cap') := fB.cell 7
  have jW : W1.cell? ⟨j, 2, none⟩ = some (.slice sa S.length scap) := HF1.out.old j2 id
  have hB0 : w.heap.size < W1.heap.size := fB.lt
  have nb : ¬ (w.heap.size = j ∨ some w.heap.size = (Value.slice sa S.length scap).ownBlock) := by rintro (h | h); omega; have := (HNO.out _ h).1; omega
  have hjW : j < W1.heap.size := by omega
  clear fB hW1 j2 j0 hqi
  refine wp_region_held_drew (S := fun W => Fr (fun x => x = j ∨ some x = (Value.slice sa S.length scap).ownBlock) W1 W) (by kernel_rfl) ((Fr.refl _ W1).drew) (fun hHeld => ?_)
  refine wpAnyH_take (i := 0) (v := ?v26) rfl (by kernel_rfl) (by kernel_rfl) (by kernel_rfl) (fun _ _ _ h => h) (Or.inl ⟨by rfl, ?h26⟩) (by assumption) ?r26
  case h26 => (intro W hSw; go_simp; try with_reducible rfl)
  try simp only [Act.put, List.setIfInBounds_toArray, List.set_cons_zero, List.set_cons_succ]
  refine wpAnyH_take (i := 1) (v := ?v27) rfl (by kernel_rfl) (by kernel_rfl) (by kernel_rfl) (fun _ _ _ h => h) (Or.inl ⟨by rfl, ?h27⟩) (by assumption) ?r27
  case h27 => (intro W hSw; go_simp; try with_reducible rfl)
  try simp only [Act.put, List.setIfInBounds_toArray, List.set_cons_zero, List.set_cons_succ]
  refine wpAnyH_take (i := 2) (v := ?v28) rfl (by kernel_rfl) (by kernel_rfl) (by kernel_rfl) (fun _ _ _ h => h) (Or.inl ⟨by rfl, ?h28⟩) (by assumption) ?r28
  case h28 => (intro W hSw; go_simp; try with_reducible rfl)
  try simp only [Act.put, List.setIfInBounds_toArray, List.set_cons_zero, List.set_cons_succ]
  refine wpAnyH_take (i := 3) (v := ?v29) rfl (by kernel_rfl) (by kernel_rfl) (by kernel_rfl) (fun _ _ _ h => h) (Or.inl ⟨by rfl, ?h29⟩) (by assumption) ?r29
  case h29 => (intro W hSw; go_simp; try with_reducible rfl)
  try simp only [Act.put, List.setIfInBounds_toArray, List.set_cons_zero, List.set_cons_succ]
  refine wpAnyH_take (i := 5) (v := ?v30) rfl (by kernel_rfl) (by kernel_rfl) (by kernel_rfl) (fun _ _ _ h => h) (Or.inl ⟨by rfl, ?h30⟩) (by assumption) ?r30
  case h30 => (intro W hSw; go_simp; try with_reducible rfl)
  try simp only [Act.put, List.setIfInBounds_toArray, List.set_cons_zero, List.set_cons_succ]
  refine wpAnyH_take (i := 6) (v := ?v31) rfl (by kernel_rfl) (by kernel_rfl) (by kernel_rfl) (fun _ _ _ h => h) (Or.inl ⟨by rfl, ?h31⟩) (by assumption) ?r31
  case h31 => (intro W hSw; have e1 := hSw.old b1 nb; have e2 := hSw.old b2 nb; have e3 := hSw.old b3 nb; have e4 := hSw.old b4 nb; have e7 := hSw.old b7 nb; go_simp; try with_reducible rfl)
  try simp only [Act.put, List.setIfInBounds_toArray, List.set_cons_zero, List.set_cons_succ]
  refine wpAnyH_take (i := 7) (v := ?v32) rfl (by kernel_rfl) (by kernel_rfl) (by kernel_rfl) (fun _ _ _ h => h) (Or.inl ⟨by rfl, ?h32⟩) (by assumption) ?r32
  case h32 => (intro W hSw; go_simp; try with_reducible rfl)
  try simp only [Act.put, List.setIfInBounds_toArray, List.set_cons_zero, List.set_cons_succ]
  refine wpAnyH_take (i := 8) (v := ?v33) rfl (by kernel_rfl) (by kernel_rfl) (by kernel_rfl) (fun _ _ _ h => h) (Or.inl ⟨by rfl, ?h33⟩) (by assumption) ?r33
  case h33 => (intro W hSw; have e1 := hSw.old b1 nb; have e2 := hSw.old b2 nb; have e3 := hSw.old b3 nb; have e4 := hSw.old b4 nb; have e7 := hSw.old b7 nb; go_simp; try with_reducible rfl)
  try simp only [Act.put, List.setIfInBounds_toArray, List.set_cons_zero, List.set_cons_succ]
  refine wpAnyH_take (i := 9) (v := ?v34) rfl (by kernel_rfl) (by kernel_rfl) (by kernel_rfl) (fun _ _ _ h => h) (Or.inl ⟨by rfl, ?h34⟩) (by assumption) ?r34
  case h34 => (intro W hSw; go_simp; try with_reducible rfl)
  try simp only [Act.put, List.setIfInBounds_toArray, List.set_cons_zero, List.set_cons_succ]
  refine wpAnyH_take (i := 10) (v := ?v35) rfl (by kernel_rfl) (by kernel_rfl) (by kernel_rfl) (fun _ _ _ h => h) (Or.inl ⟨by rfl, ?h35⟩) (by assumption) ?r35
  case h35 => (intro W hSw; have e1 := hSw.old b1 nb; have e2 := hSw.old b2 nb; have e3 := hSw.old b3 nb; have e4 := hSw.old b4 nb; have e7 := hSw.old b7 nb; go_simp; try with_reducible rfl)
  try simp only [Act.put, List.setIfInBounds_toArray, List.set_cons_zero, List.set_cons_succ]
  refine wpAnyH_take (i := 11) (v := ?v36) rfl (by kernel_rfl) (by kernel_rfl) (by kernel_rfl) (fun _ _ _ h => h) (Or.inl ⟨by rfl, ?h36⟩) (by assumption) ?r36
  case h36 => (intro W hSw; go_simp; try with_reducible rfl)
  try simp only [Act.put, List.setIfInBounds_toArray, List.set_cons_zero, List.set_cons_succ]
  refine wpAnyH_take (i := 12) (v := ?v37) rfl (by kernel_rfl) (by kernel_rfl) (by kernel_rfl) (fun _ _ _ h => h) (Or.inl ⟨by rfl, ?h37⟩) (by assumption) ?r37
  case h37 => (intro W hSw; have e1 := hSw.old b1 nb; have e2 := hSw.old b2 nb; have e3 := hSw.old b3 nb; have e4 := hSw.old b4 nb; have e7 := hSw.old b7 nb; go_simp; try with_reducible rfl)
  try simp only [Act.put, List.setIfInBounds_toArray, List.set_cons_zero, List.set_cons_succ]
  refine wpAnyH_take (i := 14) (v := ?v38) rfl (by kernel_rfl) (by kernel_rfl) (by kernel_rfl) (fun _ _ _ h => h) (Or.inl ⟨by rfl, ?h38⟩) (by assumption) ?r38
  case h38 => (intro W hSw; go_simp; try with_reducible rfl)
  try simp only [Act.put, List.setIfInBounds_toArray, List.set_cons_zero, List.set_cons_succ]
  refine wpAnyH_take (i := 15) (v := ?v39) rfl (by kernel_rfl) (by kernel_rfl) (by kernel_rfl) (fun _ _ _ h => h) (Or.inl ⟨by rfl, ?h39⟩) (by assumption) ?r39
  case h39 => (intro W hSw; have e1 := hSw.old b1 nb; have e2 := hSw.old b2 nb; have e3 := hSw.old b3 nb; have e4 := hSw.old b4 nb; have e7 := hSw.old b7 nb; go_simp; try with_reducible rfl)
  try simp only [Act.put, List.setIfInBounds_toArray, List.set_cons_zero, List.set_cons_succ]
  refine wpAnyH_ready (rs := [4, 13]) (by kernel_rfl) (by simp) ?_
  refine AllReadyH.cons rfl (fun K hK => ?_) (AllReadyH.cons rfl (fun K hK => ?_) AllReadyH.nil)
  · skip
    go_simp
    refine hK.out _ _ ((Fr.refl (fun x => x = j ∨ some x = (Value.slice sa S.length scap).ownBlock) W1).drew) (fun hHeld => ?_)
    clear hK K
    refine wpAnyH_ready (rs := [13]) (by kernel_rfl) (by simp) ?_
    refine AllReadyH.cons rfl (fun K hK => ?_) AllReadyH.nil
    go_simp
    refine hK.out _ _ ((((Fr.refl (fun x => x = j ∨ some x = (Value.slice sa S.length scap).ownBlock) W1).alloc _).drew)) (fun hHeld => ?_)
    clear hK K
    refine wpAnyH_ready (rs := [16]) (by kernel_rfl) (by simp) ?_
    refine AllReadyH.cons rfl (fun K hK => ?_) AllReadyH.nil
    refine step_append_b (by rfl) _ _ (by rfl) W1.heap.size (by rfl) (by exact alloc_at W1 _ rfl) a' cap' data O' (by rfl) HNIL.out (HRD.out.keep (HF1.out.trans (((Fr.refl No W1).alloc _).drew)) fun _ _ => id) HLEN.out ?_
    intro g5 cap5 w4 hob4 hgr4 hg5 hg5'
    have f4 : Fr No W1 w4 := (((Fr.refl No W1).alloc _).drew).more (grown_fr hgr4) (fun x hx hlt => by cases hx; exact absurd hlt (Nat.lt_irrefl _))
    have j4 : w4.cell? ⟨j, 2, none⟩ = some (.slice sa S.length scap) := f4.old jW id
    have jl4 := lt_of_cell? j4
    dsimp only at jl4
    have F4 := Lib.hid f4
    have OB4 := Lib.hid hob4
    have hs4 := f4.size
    clear f4 hob4 hgr4
    refine hK.out _ _ (F4.out.no _) (fun hHeld => ?_)
    clear hK K
    refine wpAnyH_take (i := 17) (v := ?v40) rfl (by kernel_rfl) (by kernel_rfl) (by kernel_rfl) (fun _ _ _ h => h) (Or.inl ⟨by rfl, ?h40⟩) (by assumption) ?r40
    case h40 => (intro W hSw; go_simp; try with_reducible rfl)
    try simp only [Act.put, List.setIfInBounds_toArray, List.set_cons_zero, List.set_cons_succ]
    refine wpAnyH_ready (rs := [18]) (by kernel_rfl) (by simp) ?_
    refine AllReadyH.cons rfl (fun K hK => ?_) AllReadyH.nil
    go_simp
    refine hK.out _ _ ((F4.out.alloc _).no _) (fun hHeld => ?_)
    clear hK K
    refine wpAnyH_ready (rs := [19]) (by kernel_rfl) (by simp) ?_
    refine AllReadyH.cons rfl (fun K hK => ?_) AllReadyH.nil
    have X : Fr No w (w4.alloc _) := (HF1.out.trans F4.out).alloc (.cells (factCells ⟨0, (i : Int), 2, sess, number, false, 0, data⟩ (.slice (some ⟨g5, 0, none⟩) data.length cap5)) 43)
    refine step_append_s (by rfl) _ _ (by rfl) 0 (Grow O w (w4.alloc (.cells (factCells ⟨0, (i : Int), 2, sess, number, false, 0, data⟩ (.slice (some ⟨g5, 0, none⟩) data.length cap5)) 43))) (.slice sa S.length scap) S ⟨0, (i : Int), 2, sess, number, false, 0, data⟩ (.slice (some ⟨g5, 0, none⟩) data.length cap5) (by rfl) (HSR.out.keep X (fun _ _ _ _ => id) (fun _ _ _ _ => id) fun b hb _ => .inl hb) w4.heap.size (by rfl) (by exact alloc_at w4 _ rfl) ((OB4.out.keep ((Fr.refl No w4).alloc _) (fun _ _ => id)).wide fun b hb hlt => .inr ⟨Nat.le_trans HF1.out.size hb, hlt⟩) HN.out (Nat.zero_le _) ?_
    intro g6 cap6 w5 hs5 hg6 _
    have f5 : Fr (fun x => x = j ∨ some x = (Value.slice sa S.length scap).ownBlock) W1 w5 := ((F4.out.alloc _).no _).trans ((grown_fr hg6).wide fun x hx _ => .inr hx)
    have bj5 : Blk w5 j (rCells (.slice (some ⟨q, 0, none⟩) n cap) (.slice (some ⟨qs, 0, none⟩) n sc) (.slice sa S.length scap) st) 48 := (grown_fr hg6).blk (X.blk HBJ.out id) (fun h => (HNO.out _ h).2 rfl)
    have j5 : w5.cell? ⟨j, 2, none⟩ = some (.slice sa S.length scap) := bj5.cell 2
    have jf5 := bj5.free 2
    have jl5 := bj5.lt
    have F5 := Lib.hid f5
    have BJ5 := Lib.hid bj5
    have HS5 := Lib.hid hs5
    have hX := Lib.hid X
    have hsz5 := (grown_fr hg6).size
    clear X f5 bj5 hs5 hg6
    refine hK.out _ _ (F5.out) (fun hHeld => ?_)
    clear hK K
    refine wpAnyH_take (i := 20) (v := ?v41) rfl (by kernel_rfl) (by kernel_rfl) (by kernel_rfl) (fun _ _ _ h => h) (Or.inl ⟨by rfl, ?h41⟩) (by assumption) ?r41
    case h41 => (intro W hSw; go_simp; try with_reducible rfl)
    try simp only [Act.put, List.setIfInBounds_toArray, List.set_cons_zero, List.set_cons_succ]
    refine wpAnyH_take (i := 21) (v := ?v42) rfl (by kernel_rfl) (by kernel_rfl) (by kernel_rfl) (fun _ _ _ h => h) (Or.inl ⟨by rfl, ?h42⟩) (by assumption) ?r42
    case h42 => (intro W hSw; go_simp; try with_reducible rfl)
    try simp only [Act.put, List.setIfInBounds_toArray, List.set_cons_zero, List.set_cons_succ]
    refine wpAnyH_ready (rs := [22]) (by kernel_rfl) (by simp) ?_
    refine AllReadyH.cons rfl (fun K hK => ?_) AllReadyH.nil
    go_simp
    refine hK.out _ _ (F5.out.setCell (p := ⟨j, 2, none⟩) (fun _ => .inl rfl) _) (fun hHeld => ?_)
    clear hK K
    refine wpAnyH_done (by kernel_rfl) ?_ _
    go_wp2
    go_ret
    have sj : Fr (fun x => x = j) w5 (w5.setCell ⟨j, 2, none⟩ (.slice (some ⟨g6, 0, none⟩) (S.length + 1) cap6)) := (Fr.refl (fun x => x = j) w5).setCell (p := ⟨j, 2, none⟩) (fun _ => rfl) _
    refine ⟨rfl, _, BJ5.out.set' 2 _ rfl, ?_, ?_⟩
    · refine HS5.out.keep sj (fun g cur _ hb e => hb.unlike BJ5.out (by decide) e) (fun g cur _ hb e => hb.unlike BJ5.out (by decide) e) ?_
      rintro x hx hlt
      rcases hx with (hx | hx) | hx
      · exact .inl hx
      · exact .inr ⟨hx.1, Nat.lt_of_lt_of_le hx.2 (Nat.le_trans hsz5 sj.size)⟩
      · exact .inr ⟨Nat.le_trans hX.out.size hx.1, Nat.lt_of_lt_of_le hx.2 sj.size⟩
    · exact ((HF1.out.no _).trans F5.out).trans (sj.wide fun _ h _ => .inl h)
  · skip
    go_simp
    refine hK.out _ _ ((((Fr.refl (fun x => x = j ∨ some x = (Value.slice sa S.length scap).ownBlock) W1).alloc _).drew)) (fun hHeld => ?_)
    clear hK K
    refine wpAnyH_ready (rs := [4, 16]) (by kernel_rfl) (by simp) ?_
    refine AllReadyH.cons rfl (fun K hK => ?_) (AllReadyH.cons rfl (fun K hK => ?_) AllReadyH.nil)
    · skip
      go_simp
      refine hK.out _ _ ((((Fr.refl (fun x => x = j ∨ some x = (Value.slice sa S.length scap).ownBlock) W1).alloc _).drew)) (fun hHeld => ?_)
      clear hK K
      refine wpAnyH_ready (rs := [16]) (by kernel_rfl) (by simp) ?_
      refine AllReadyH.cons rfl (fun K hK => ?_) AllReadyH.nil
      refine step_append_b (by rfl) _ _ (by rfl) W1.heap.size (by rfl) (by exact alloc_at W1 _ rfl) a' cap' data O' (by rfl) HNIL.out (HRD.out.keep (HF1.out.trans (((Fr.refl No W1).alloc _).drew)) fun _ _ => id) HLEN.out ?_
      intro g5 cap5 w4 hob4 hgr4 hg5 hg5'
      have f4 : Fr No W1 w4 := (((Fr.refl No W1).alloc _).drew).more (grown_fr hgr4) (fun x hx hlt => by cases hx; exact absurd hlt (Nat.lt_irrefl _))
      have j4 : w4.cell? ⟨j, 2, none⟩ = some (.slice sa S.length scap) := f4.old jW id
      have jl4 := lt_of_cell? j4
      dsimp only at jl4
      have F4 := Lib.hid f4
      have OB4 := Lib.hid hob4
      have hs4 := f4.size
      clear f4 hob4 hgr4
      refine hK.out _ _ (F4.out.no _) (fun hHeld => ?_)
      clear hK K
      refine wpAnyH_take (i := 17) (v := ?v43) rfl (by kernel_rfl) (by kernel_rfl) (by kernel_rfl) (fun _ _ _ h => h) (Or.inl ⟨by rfl, ?h43⟩) (by assumption) ?r43
      case h43 => (intro W hSw; go_simp; try with_reducible rfl)
      try simp only [Act.put, List.setIfInBounds_toArray, List.set_cons_zero, List.set_cons_succ]
      refine wpAnyH_ready (rs := [18]) (by kernel_rfl) (by simp) ?_
      refine AllReadyH.cons rfl (fun K hK => ?_) AllReadyH.nil
      go_simp
      refine hK.out _ _ ((F4.out.alloc _).no _) (fun hHeld => ?_)
      clear hK K
      refine wpAnyH_ready (rs := [19]) (by kernel_rfl) (by simp) ?_
      refine AllReadyH.cons rfl (fun K hK => ?_) AllReadyH.nil
      have X : Fr No w (w4.alloc _) := (HF1.out.trans F4.out).alloc (.cells (factCells ⟨0, (i : Int), 2, sess, number, false, 0, data⟩ (.slice (some ⟨g5, 0, none⟩) data.length cap5)) 43)
      refine step_append_s (by rfl) _ _ (by rfl) 0 (Grow O w (w4.alloc (.cells (factCells ⟨0, (i : Int), 2, sess, number, false, 0, data⟩ (.slice (some ⟨g5, 0, none⟩) data.length cap5)) 43))) (.slice sa S.length scap) S ⟨0, (i : Int), 2, sess, number, false, 0, data⟩ (.slice (some ⟨g5, 0, none⟩) data.length cap5) (by rfl) (HSR.out.keep X (fun _ _ _ _ => id) (fun _ _ _ _ => id) fun b hb _ => .inl hb) w4.heap.size (by rfl) (by exact alloc_at w4 _ rfl) ((OB4.out.keep ((Fr.refl No w4).alloc _) (fun _ _ => id)).wide fun b hb hlt => .inr ⟨Nat.le_trans HF1.out.size hb, hlt⟩) HN.out (Nat.zero_le _) ?_
      intro g6 cap6 w5 hs5 hg6 _
      have f5 : Fr (fun x => x = j ∨ some x = (Value.slice sa S.length scap).ownBlock) W1 w5 := ((F4.out.alloc _).no _).trans ((grown_fr hg6).wide fun x hx _ => .inr hx)
      have bj5 : Blk w5 j (rCells (.slice (some ⟨q, 0, none⟩) n cap) (.slice (some ⟨qs, 0, none⟩) n sc) (.slice sa S.length scap) st) 48 := (grown_fr hg6).blk (X.blk HBJ.out id) (fun h => (HNO.out _ h).2 rfl)
      have j5 : w5.cell? ⟨j, 2, none⟩ = some (.slice sa S.length scap) := bj5.cell 2
      have jf5 := bj5.free 2
      have jl5 := bj5.lt
      have F5 := Lib.hid f5
      have BJ5 := Lib.hid bj5
      have HS5 := Lib.hid hs5
      have hX := Lib.hid X
      have hsz5 := (grown_fr hg6).size
      clear X f5 bj5 hs5 hg6
      refine hK.out _ _ (F5.out) (fun hHeld => ?_)
      clear hK K
      refine wpAnyH_take (i := 20) (v := ?v44) rfl (by kernel_rfl) (by kernel_rfl) (by kernel_rfl) (fun _ _ _ h => h) (Or.inl ⟨by rfl, ?h44⟩) (by assumption) ?r44
      case h44 => (intro W hSw; go_simp; try with_reducible rfl)
      try simp only [Act.put, List.setIfInBounds_toArray, List.set_cons_zero, List.set_cons_succ]
      refine wpAnyH_take (i := 21) (v := ?v45) rfl (by kernel_rfl) (by kernel_rfl) (by kernel_rfl) (fun _ _ _ h => h) (Or.inl ⟨by rfl, ?h45⟩) (by assumption) ?r45
      case h45 => (intro W hSw; go_simp; try with_reducible rfl)
      try simp only [Act.put, List.setIfInBounds_toArray, List.set_cons_zero, List.set_cons_succ]
      refine wpAnyH_ready (rs := [22]) (by kernel_rfl) (by simp) ?_
      refine AllReadyH.cons rfl (fun K hK => ?_) AllReadyH.nil
      go_simp
      refine hK.out _ _ (F5.out.setCell (p := ⟨j, 2, none⟩) (fun _ => .inl rfl) _) (fun hHeld => ?_)
      clear hK K
      refine wpAnyH_done (by kernel_rfl) ?_ _
      go_wp2
      go_ret
      have sj : Fr (fun x => x = j) w5 (w5.setCell ⟨j, 2, none⟩ (.slice (some ⟨g6, 0, none⟩) (S.length + 1) cap6)) := (Fr.refl (fun x => x = j) w5).setCell (p := ⟨j, 2, none⟩) (fun _ => rfl) _
      refine ⟨rfl, _, BJ5.out.set' 2 _ rfl, ?_, ?_⟩
      · refine HS5.out.keep sj (fun g cur _ hb e => hb.unlike BJ5.out (by decide) e) (fun g cur _ hb e => hb.unlike BJ5.out (by decide) e) ?_
        rintro x hx hlt
        rcases hx with (hx | hx) | hx
        · exact .inl hx
        · exact .inr ⟨hx.1, Nat.lt_of_lt_of_le hx.2 (Nat.le_trans hsz5 sj.size)⟩
        · exact .inr ⟨Nat.le_trans hX.out.size hx.1, Nat.lt_of_lt_of_le hx.2 sj.size⟩
      · exact ((HF1.out.no _).trans F5.out).trans (sj.wide fun _ h _ => .inl h)
    · skip
      refine step_append_b (by rfl) _ _ (by rfl) W1.heap.size (by rfl) (by exact alloc_at W1 _ rfl) a' cap' data O' (by rfl) HNIL.out (HRD.out.keep (HF1.out.trans (((Fr.refl No W1).alloc _).drew)) fun _ _ => id) HLEN.out ?_
      intro g5 cap5 w4 hob4 hgr4 hg5 hg5'
      have f4 : Fr No W1 w4 := (((Fr.refl No W1).alloc _).drew).more (grown_fr hgr4) (fun x hx hlt => by cases hx; exact absurd hlt (Nat.lt_irrefl _))
      have j4 : w4.cell? ⟨j, 2, none⟩ = some (.slice sa S.length scap) := f4.old jW id
      have jl4 := lt_of_cell? j4
      dsimp only at jl4
      have F4 := Lib.hid f4
      have OB4 := Lib.hid hob4
      have hs4 := f4.size
      clear f4 hob4 hgr4
      refine hK.out _ _ (F4.out.no _) (fun hHeld => ?_)
      clear hK K
      refine wpAnyH_take (i := 17) (v := ?v46) rfl (by kernel_rfl) (by kernel_rfl) (by kernel_rfl) (fun _ _ _ h => h) (Or.inl ⟨by rfl, ?h46⟩) (by assumption) ?r46
      case h46 => (intro W hSw; go_simp; try with_reducible rfl)
      try simp only [Act.put, List.setIfInBounds_toArray, List.set_cons_zero, List.set_cons_succ]
      refine wpAnyH_ready (rs := [4, 18]) (by kernel_rfl) (by simp) ?_
      refine AllReadyH.cons rfl (fun K hK => ?_) (AllReadyH.cons rfl (fun K hK => ?_) AllReadyH.nil)
      · skip
        go_simp
        refine hK.out _ _ (F4.out.no _) (fun hHeld => ?_)
        clear hK K
        refine wpAnyH_ready (rs := [18]) (by kernel_rfl) (by simp) ?_
        refine AllReadyH.cons rfl (fun K hK => ?_) AllReadyH.nil
        go_simp
        refine hK.out _ _ ((F4.out.alloc _).no _) (fun hHeld => ?_)
        clear hK K
        refine wpAnyH_ready (rs := [19]) (by kernel_rfl) (by simp) ?_
        refine AllReadyH.cons rfl (fun K hK => ?_) AllReadyH.nil
        have X : Fr No w (w4.alloc _) := (HF1.out.trans F4.out).alloc (.cells (factCells ⟨0, (i : Int), 2, sess, number, false, 0, data⟩ (.slice (some ⟨g5, 0, none⟩) data.length cap5)) 43)
        refine step_append_s (by rfl) _ _ (by rfl) 0 (Grow O w (w4.alloc (.cells (factCells ⟨0, (i : Int), 2, sess, number, false, 0, data⟩ (.slice (some ⟨g5, 0, none⟩) data.length cap5)) 43))) (.slice sa S.length scap) S ⟨0, (i : Int), 2, sess, number, false, 0, data⟩ (.slice (some ⟨g5, 0, none⟩) data.length cap5) (by rfl) (HSR.out.keep X (fun _ _ _ _ => id) (fun _ _ _ _ => id) fun b hb _ => .inl hb) w4.heap.size (by rfl) (by exact alloc_at w4 _ rfl) ((OB4.out.keep ((Fr.refl No w4).alloc _) (fun _ _ => id)).wide fun b hb hlt => .inr ⟨Nat.le_trans HF1.out.size hb, hlt⟩) HN.out (Nat.zero_le _) ?_
        intro g6 cap6 w5 hs5 hg6 _
        have f5 : Fr (fun x => x = j ∨ some x = (Value.slice sa S.length scap).ownBlock) W1 w5 := ((F4.out.alloc _).no _).trans ((grown_fr hg6).wide fun x hx _ => .inr hx)
        have bj5 : Blk w5 j (rCells (.slice (some ⟨q, 0, none⟩) n cap) (.slice (some ⟨qs, 0, none⟩) n sc) (.slice sa S.length scap) st) 48 := (grown_fr hg6).blk (X.blk HBJ.out id) (fun h => (HNO.out _ h).2 rfl)
        have j5 : w5.cell? ⟨j, 2, none⟩ = some (.slice sa S.length scap) := bj5.cell 2
        have jf5 := bj5.free 2
        have jl5 := bj5.lt
        have F5 := Lib.hid f5
        have BJ5 := Lib.hid bj5
        have HS5 := Lib.hid hs5
        have hX := Lib.hid X
        have hsz5 := (grown_fr hg6).size
        clear X f5 bj5 hs5 hg6
        refine hK.out _ _ (F5.out) (fun hHeld => ?_)
        clear hK K
        refine wpAnyH_take (i := 20) (v := ?v47) rfl (by kernel_rfl) (by kernel_rfl) (by kernel_rfl) (fun _ _ _ h => h) (Or.inl ⟨by rfl, ?h47⟩) (by assumption) ?r47
        case h47 => (intro W hSw; go_simp; try with_reducible rfl)
        try simp only [Act.put, List.setIfInBounds_toArray, List.set_cons_zero, List.set_cons_succ]
        refine wpAnyH_take (i := 21) (v := ?v48) rfl (by kernel_rfl) (by kernel_rfl) (by kernel_rfl) (fun _ _ _ h => h) (Or.inl ⟨by rfl, ?h48⟩) (by assumption) ?r48
        case h48 => (intro W hSw; go_simp; try with_reducible rfl)
        try simp only [Act.put, List.setIfInBounds_toArray, List.set_cons_zero, List.set_cons_succ]
        refine wpAnyH_ready (rs := [22]) (by kernel_rfl) (by simp) ?_
        refine AllReadyH.cons rfl (fun K hK => ?_) AllReadyH.nil
        go_simp
        refine hK.out _ _ (F5.out.setCell (p := ⟨j, 2, none⟩) (fun _ => .inl rfl) _) (fun hHeld => ?_)
        clear hK K
        refine wpAnyH_done (by kernel_rfl) ?_ _
        go_wp2
        go_ret
        have sj : Fr (fun x => x = j) w5 (w5.setCell ⟨j, 2, none⟩ (.slice (some ⟨g6, 0, none⟩) (S.length + 1) cap6)) := (Fr.refl (fun x => x = j) w5).setCell (p := ⟨j, 2, none⟩) (fun _ => rfl) _
        refine ⟨rfl, _, BJ5.out.set' 2 _ rfl, ?_, ?_⟩
        · refine HS5.out.keep sj (fun g cur _ hb e => hb.unlike BJ5.out (by decide) e) (fun g cur _ hb e => hb.unlike BJ5.out (by decide) e) ?_
          rintro x hx hlt
          rcases hx with (hx | hx) | hx
          · exact .inl hx
          · exact .inr ⟨hx.1, Nat.lt_of_lt_of_le hx.2 (Nat.le_trans hsz5 sj.size)⟩
          · exact .inr ⟨Nat.le_trans hX.out.size hx.1, Nat.lt_of_lt_of_le hx.2 sj.size⟩
        · exact ((HF1.out.no _).trans F5.out).trans (sj.wide fun _ h _ => .inl h)
      · skip
        go_simp
        refine hK.out _ _ ((F4.out.alloc _).no _) (fun hHeld => ?_)
        clear hK K
        refine wpAnyH_ready (rs := [4]) (by kernel_rfl) (by simp) ?_
        refine AllReadyH.cons rfl (fun K hK => ?_) AllReadyH.nil
        go_simp
        refine hK.out _ _ ((F4.out.alloc _).no _) (fun hHeld => ?_)
        clear hK K
        refine wpAnyH_ready (rs := [19]) (by kernel_rfl) (by simp) ?_
        refine AllReadyH.cons rfl (fun K hK => ?_) AllReadyH.nil
        have X : Fr No w (w4.alloc _) := (HF1.out.trans F4.out).alloc (.cells (factCells ⟨0, (i : Int), 2, sess, number, false, 0, data⟩ (.slice (some ⟨g5, 0, none⟩) data.length cap5)) 43)
        refine step_append_s (by rfl) _ _ (by rfl) 0 (Grow O w (w4.alloc (.cells (factCells ⟨0, (i : Int), 2, sess, number, false, 0, data⟩ (.slice (some ⟨g5, 0, none⟩) data.length cap5)) 43))) (.slice sa S.length scap) S ⟨0, (i : Int), 2, sess, number, false, 0, data⟩ (.slice (some ⟨g5, 0, none⟩) data.length cap5) (by rfl) (HSR.out.keep X (fun _ _ _ _ => id) (fun _ _ _ _ => id) fun b hb _ => .inl hb) w4.heap.size (by rfl) (by exact alloc_at w4 _ rfl) ((OB4.out.keep ((Fr.refl No w4).alloc _) (fun _ _ => id)).wide fun b hb hlt => .inr ⟨Nat.le_trans HF1.out.size hb, hlt⟩) HN.out (Nat.zero_le _) ?_
        intro g6 cap6 w5 hs5 hg6 _
        have f5 : Fr (fun x => x = j ∨ some x = (Value.slice sa S.length scap).ownBlock) W1 w5 := ((F4.out.alloc _).no _).trans ((grown_fr hg6).wide fun x hx _ => .inr hx)
        have bj5 : Blk w5 j (rCells (.slice (some ⟨q, 0, none⟩) n cap) (.slice (some ⟨qs, 0, none⟩) n sc) (.slice sa S.length scap) st) 48 := (grown_fr hg6).blk (X.blk HBJ.out id) (fun h => (HNO.out _ h).2 rfl)
        have j5 : w5.cell? ⟨j, 2, none⟩ = some (.slice sa S.length scap) := bj5.cell 2
        have jf5 := bj5.free 2
        have jl5 := bj5.lt
        have F5 := Lib.hid f5
        have BJ5 := Lib.hid bj5
        have HS5 := Lib.hid hs5
        have hX := Lib.hid X
        have hsz5 := (grown_fr hg6).size
        clear X f5 bj5 hs5 hg6
        refine hK.out _ _ (F5.out) (fun hHeld => ?_)
        clear hK K
        refine wpAnyH_take (i := 20) (v := ?v49) rfl (by kernel_rfl) (by kernel_rfl) (by kernel_rfl) (fun _ _ _ h => h) (Or.inl ⟨by rfl, ?h49⟩) (by assumption) ?r49
        case h49 => (intro W hSw; go_simp; try with_reducible rfl)
        try simp only [Act.put, List.setIfInBounds_toArray, List.set_cons_zero, List.set_cons_succ]
        refine wpAnyH_take (i := 21) (v := ?v50) rfl (by kernel_rfl) (by kernel_rfl) (by kernel_rfl) (fun _ _ _ h => h) (Or.inl ⟨by rfl, ?h50⟩) (by assumption) ?r50
        case h50 => (intro W hSw; go_simp; try with_reducible rfl)
        try simp only [Act.put, List.setIfInBounds_toArray, List.set_cons_zero, List.set_cons_succ]
        refine wpAnyH_ready (rs := [22]) (by kernel_rfl) (by simp) ?_
        refine AllReadyH.cons rfl (fun K hK => ?_) AllReadyH.nil
        go_simp
        refine hK.out _ _ (F5.out.setCell (p := ⟨j, 2, none⟩) (fun _ => .inl rfl) _) (fun hHeld => ?_)
        clear hK K
        refine wpAnyH_done (by kernel_rfl) ?_ _
        go_wp2
        go_ret
        have sj : Fr (fun x => x = j) w5 (w5.setCell ⟨j, 2, none⟩ (.slice (some ⟨g6, 0, none⟩) (S.length + 1) cap6)) := (Fr.refl (fun x => x = j) w5).setCell (p := ⟨j, 2, none⟩) (fun _ => rfl) _
        refine ⟨rfl, _, BJ5.out.set' 2 _ rfl, ?_, ?_⟩
        · refine HS5.out.keep sj (fun g cur _ hb e => hb.unlike BJ5.out (by decide) e) (fun g cur _ hb e => hb.unlike BJ5.out (by decide) e) ?_
          rintro x hx hlt
          rcases hx with (hx | hx) | hx
          · exact .inl hx
          · exact .inr ⟨hx.1, Nat.lt_of_lt_of_le hx.2 (Nat.le_trans hsz5 sj.size)⟩
          · exact .inr ⟨Nat.le_trans hX.out.size hx.1, Nat.lt_of_lt_of_le hx.2 sj.size⟩
        · exact ((HF1.out.no _).trans F5.out).trans (sj.wide fun _ h _ => .inl h)
set_option maxRecDepth 1000000 in
set_option maxHeartbeats 8000000 in
theorem rr_k3_s1 (O' : Nat → Prop) (j q qs b n i cap sc cc : Nat) (vst : Value) (st : JP) (f : FactP) (l : LineP) (h : Bool) (vf : Value) (cs : Array Value) (w : World) (hj : Blk w j (rCells (.slice (some ⟨q, 0, none⟩) n cap) (.slice (some ⟨qs, 0, none⟩) n sc) vst st) 48) (hqi : w.cell? ⟨q, i, none⟩ = some (.slice (some ⟨b, 0, none⟩) 2 cc)) (css : Array Value) (hsb : Blk w qs css 23) (hsc : css[i]? = some (.int .u32 l.session)) (hb : Blk w b cs 68) (hE : REndCs cs 0 l.e0 h) (hh : h = false → l.e0.value = []) (hf : Bs w O' vf f.data) (hi : i < n) (hc : f.conn = i) (hk : f.kind = 3) (hs : f.side = 1) (O : Nat → Prop) (S : List FactP) (hS : Srow w 0 O vst S) (hO : ∀ b, O b → b < w.heap.size) (hn : S.length ≤ 4000) :
    Calls Try.prog 19 #[.pointer (some ⟨j, 0, none⟩), factV f vf] w fun e w' => e = .returned (.int .i64 0) ∧ ∃ vst', Blk w' j (rCells (.slice (some ⟨q, 0, none⟩) n cap) (.slice (some ⟨qs, 0, none⟩) n sc) vst' st) 48 ∧ Blk w' qs (css.setIfInBounds i (.int .u32 f.session)) 23 ∧ Srow w' 0 (Grow O w w') vst' (S.filter f.stays) ∧ Fr (fun x => x = j ∨ x = qs) w w' := by
  have HCA := Lib.hid (fun W (kk : Fr No w W) => begin_any O O' j qs sc i (.slice (some ⟨q, 0, none⟩) n cap) vst css st S f vf n _ W (kk.blk hj id) (kk.blk hsb id) hc hi hsc (hS.keep kk (fun _ _ _ _ => id) (fun _ _ _ _ => id) fun _ h _ => h) (fun x hx => Nat.lt_of_lt_of_le (hO x hx) kk.size) hn (let ⟨a, c, h, _⟩ := hf; ⟨a, c, h⟩))
  obtain ⟨fs, hfs⟩ : ∃ fs, fs = f.stays := ⟨_, rfl⟩
  rw [← hfs] at HCA ⊢
  clear hfs
  obtain ⟨kind, conn, side, sess, number, on, code, data⟩ := f
  obtain ⟨a', cap', rfl, _, hrd'⟩ := hf
  dsimp only at hk hs hc hrd' HCA ⊢
  subst hk hs hc
  show Calls Try.prog 19 #[.pointer (some ⟨j, 0, none⟩), .agg #[.int .i64 3, .int .i64 i, .int .i64 1, .int .u32 sess, .int .u32 number, .bool on, .int .i64 code, .slice a' data.length cap']] w _
  have h3 : decide ((i : Int) < 0) = false := by simp
  have h5 : decide (n ≤ i) = false := by simp; omega
  have h1 : (0 : Int) ≤ i := by omega
  have h2 : (i : Int) < n := by omega
  have j0 : w.cell? ⟨j, 0, none⟩ = some (.slice (some ⟨q, 0, none⟩) n cap) := hj.cell 0
  have hltj := hj.lt
  have hltb := hb.lt
  have hltq := lt_of_cell? hqi
  dsimp only at hltq
  have K0 : Fr No w (w.alloc (.cells #[.int .i64 3, .int .i64 i, .int .i64 1, .int .u32 sess, .int .u32 number, .bool on, .int .i64 code, .slice a' data.length cap'] 43)) := (Fr.refl No w).alloc _
  have HK := Lib.hid K0
  clear hj hb hE hrd' hh hsb hsc hS hO hn K0
  go_enter Try.func19, Try.ntmps19
  go_wp2
  go_quiet (fail)
  generalize nq = n0
  go_wp2
  go_quiet (fail)
  generalize nq = n1
  go_wp2_with (go_at_call 26; refine (HCA.out _ (HK.out.drewN _)).mono ?_; rintro e w' ⟨rfl, vst', hy1, hy2, hy3, hy4⟩)
  go_ret
  have kk := HK.out.drewN (n0 + n1)
  refine ⟨rfl, vst', hy1, hy2, hy3.keep (Fr.refl No _) (fun _ _ _ _ => id) (fun _ _ _ _ => id) ?_, (kk.no _).trans hy4⟩
  rintro x (hx | hx) _
  · exact .inl hx
  · exact .inr ⟨Nat.le_trans kk.size hx.1, hx.2⟩
set_option maxRecDepth 1000000 in
set_option maxHeartbeats 8000000 in
theorem rr_k3_s2 (O' : Nat → Prop) (j q qs b n i cap sc cc : Nat) (vst : Value) (st : JP) (f : FactP) (l : LineP) (h : Bool) (vf : Value) (cs : Array Value) (w : World) (hj : Blk w j (rCells (.slice (some ⟨q, 0, none⟩) n cap) (.slice (some ⟨qs, 0, none⟩) n sc) vst st) 48) (hqi : w.cell? ⟨q, i, none⟩ = some (.slice (some ⟨b, 0, none⟩) 2 cc)) (css : Array Value) (hsb : Blk w qs css 23) (hsc : css[i]? = some (.int .u32 l.session)) (hb : Blk w b cs 68) (hE : REndCs cs 11 l.e1 h) (hh : h = false → l.e1.value = []) (hf : Bs w O' vf f.data) (hi : i < n) (hc : f.conn = i) (hk : f.kind = 3) (hs : f.side = 2) (O : Nat → Prop) (S : List FactP) (hS : Srow w 0 O vst S) (hO : ∀ b, O b → b < w.heap.size) (hn : S.length ≤ 4000) :
    Calls Try.prog 19 #[.pointer (some ⟨j, 0, none⟩), factV f vf] w fun e w' => e = .returned (.int .i64 0) ∧ ∃ vst', Blk w' j (rCells (.slice (some ⟨q, 0, none⟩) n cap) (.slice (some ⟨qs, 0, none⟩) n sc) vst' st) 48 ∧ Blk w' qs (css.setIfInBounds i (.int .u32 f.session)) 23 ∧ Srow w' 0 (Grow O w w') vst' (S.filter f.stays) ∧ Fr (fun x => x = j ∨ x = qs) w w' := by
  have HCA := Lib.hid (fun W (kk : Fr No w W) => begin_any O O' j qs sc i (.slice (some ⟨q, 0, none⟩) n cap) vst css st S f vf n _ W (kk.blk hj id) (kk.blk hsb id) hc hi hsc (hS.keep kk (fun _ _ _ _ => id) (fun _ _ _ _ => id) fun _ h _ => h) (fun x hx => Nat.lt_of_lt_of_le (hO x hx) kk.size) hn (let ⟨a, c, h, _⟩ := hf; ⟨a, c, h⟩))
  obtain ⟨fs, hfs⟩ : ∃ fs, fs = f.stays := ⟨_, rfl⟩
  rw [← hfs] at HCA ⊢
  clear hfs
  obtain ⟨kind, conn, side, sess, number, on, code, data⟩ := f
  obtain ⟨a', cap', rfl, _, hrd'⟩ := hf
  dsimp only at hk hs hc hrd' HCA ⊢
  subst hk hs hc
  show Calls Try.prog 19 #[.pointer (some ⟨j, 0, none⟩), .agg #[.int .i64 3, .int .i64 i, .int .i64 2, .int .u32 sess, .int .u32 number, .bool on, .int .i64 code, .slice a' data.length cap']] w _
  have h3 : decide ((i : Int) < 0) = false := by simp
  have h5 : decide (n ≤ i) = false := by simp; omega
  have h1 : (0 : Int) ≤ i := by omega
  have h2 : (i : Int) < n := by omega
  have j0 : w.cell? ⟨j, 0, none⟩ = some (.slice (some ⟨q, 0, none⟩) n cap) := hj.cell 0
  have hltj := hj.lt
  have hltb := hb.lt
  have hltq := lt_of_cell? hqi
  dsimp only at hltq
  have K0 : Fr No w (w.alloc (.cells #[.int .i64 3, .int .i64 i, .int .i64 2, .int .u32 sess, .int .u32 number, .bool on, .int .i64 code, .slice a' data.length cap'] 43)) := (Fr.refl No w).alloc _
  have HK := Lib.hid K0
  clear hj hb hE hrd' hh hsb hsc hS hO hn K0
  go_enter Try.func19, Try.ntmps19
  go_wp2
  go_quiet (fail)
  generalize nq = n0
  go_wp2
  go_quiet (fail)
  generalize nq = n1
  go_wp2_with (go_at_call 26; refine (HCA.out _ (HK.out.drewN _)).mono ?_; rintro e w' ⟨rfl, vst', hy1, hy2, hy3, hy4⟩)
  go_ret
  have kk := HK.out.drewN (n0 + n1)
  refine ⟨rfl, vst', hy1, hy2, hy3.keep (Fr.refl No _) (fun _ _ _ _ => id) (fun _ _ _ _ => id) ?_, (kk.no _).trans hy4⟩
  rintro x (hx | hx) _
  · exact .inl hx
  · exact .inr ⟨Nat.le_trans kk.size hx.1, hx.2⟩
end Go.Proofs.Ytmggfdhlbjlpjaa
