/-
  DERIVED. The walk of GhostConns.
-/
import Derived.Test.YtmggfdhlbjlpjaaConns
namespace Go.Proofs.Ytmggfdhlbjlpjaa
open Go.RowKit
set_option linter.unusedSimpArgs false
set_option linter.unusedVariables false

theorem conn_eta (f : FactP) (c : Int) (h : f.conn = c) : { f with conn := c } = f := by subst h; rfl
theorem ConnSt.mid0 {W2 wr W w1 : World} {O : Nat → Prop} {facts : List FactP} {k : Nat} {v0 v1 : Value} (h : ConnSt W2 wr O facts k v0 v1) (kW : Fr No wr W) (h2 : W.grownBy w1 v0.ownBlock) : Blk w1 W2.heap.size #[v0, v1] 55 :=
  ((kW.no _).trans (grown_fr h2)).blk h.e fun e => by
    obtain ⟨_, cur, hb⟩ := h.c0.block e.symm
    exact h.e.unlike hb (by decide) rfl
theorem ConnSt.mid1 {W2 wr W w1 : World} {O : Nat → Prop} {facts : List FactP} {k : Nat} {v0 v1 : Value} (h : ConnSt W2 wr O facts k v0 v1) (kW : Fr No wr W) (h2 : W.grownBy w1 v1.ownBlock) : Blk w1 W2.heap.size #[v0, v1] 55 :=
  ((kW.no _).trans (grown_fr h2)).blk h.e fun e => by
    obtain ⟨_, cur, hb⟩ := h.c1.block e.symm
    exact h.e.unlike hb (by decide) rfl

theorem run_field34 (W : World) (r p : Int) : (Instr.field 34 (.agg #[.int .i64 r, .int .i64 p]) 0).run Try.prog W = .ok (.int .i64 r) W := by
  have ho : Try.prog.underlying 34 = some (.struct (Try.prog.fieldsOf 34)) := by kernel_rfl
  simp [Instr.field, go_sem, asAgg]

theorem conn_end_t {r r0 r1 : Int} (h : r = 0 ↔ r0 = 0 ∧ r1 = 0) (h0 : (r0 == 0) = true) : ((r == 0) == (r1 == 0)) = true := by
  have h0' : r0 = 0 := by simpa using h0
  by_cases h1 : r1 = 0
  · have : r = 0 := h.2 ⟨h0', h1⟩
    simp [this, h1]
  · have : r ≠ 0 := fun e => h1 (h.1 e).2
    rw [beq_eq_false_iff_ne.2 this, beq_eq_false_iff_ne.2 h1]; rfl
theorem conn_end_f {r r0 r1 : Int} (h : r = 0 ↔ r0 = 0 ∧ r1 = 0) (h0 : (r0 == 0) = false) : (!(r == 0)) = true := by
  have h0' : r0 ≠ 0 := by simpa using h0
  have : r ≠ 0 := fun e => h0' (h.1 e).1
  simp [this]

set_option maxRecDepth 1000000 in
set_option maxHeartbeats 8000000 in
theorem conns_any (a : Option Addr) (ca : Nat) (facts : List FactP) (w : World) (hf : Fs w (fun b => b < w.heap.size) (fun b => b < w.heap.size) (.slice a facts.length ca) facts) (gf : ∀ f ∈ facts, f.Good) :
    Calls Try.prog 6 #[.slice a facts.length ca] w fun e w' => e = .returned (.bool true) ∧ Fr No w w' := by
  by_cases hl : facts.length ≤ 800
  · have l1 : decide ((800 : Int) < facts.length) = false := by simp; omega
    have HF := Lib.hid hf
    have HGF := Lib.hid gf
    have HL := Lib.hid hl
    clear hf gf hl
    go_enter Try.func6, Try.ntmps6
    go_wp2_with (first | (go_at_call 7; refine (awake_any _).mono ?_; rintro e w1 ⟨rfl, hk1⟩) | (go_at_call 16; refine (pair_any _).mono ?_; rintro e w2 ⟨vh, vd, rfl, ph, pd, hk2⟩; unfold netV; obtain ⟨ah, ch, _, rfl, _⟩ := id ph; obtain ⟨ad, cd, _, rfl, _⟩ := id pd))
    obtain ⟨OH, hPH, hPD⟩ : ∃ OH : Nat → Prop, Prs (w2.alloc (.cells #[.slice ah 2 ch, .slice ad 2 cd, .int .u32 50] 25)) OH (.slice ah 2 ch) [10, 11] ∧ Prs (w2.alloc (.cells #[.slice ah 2 ch, .slice ad 2 cd, .int .u32 50] 25)) OH (.slice ad 2 cd) [10, 11] :=
      ⟨_, ph.keep ((Fr.refl No w2).alloc _) (fun _ _ => id), pd.keep ((Fr.refl No w2).alloc _) (fun _ _ => id)⟩
    have nB := Blk.new w2 #[.slice ah 2 ch, .slice ad 2 cd, .int .u32 50] 25
    have kW : Fr No w (w2.alloc (.cells #[.slice ah 2 ch, .slice ad 2 cd, .int .u32 50] 25)) := (hk1.trans hk2).alloc _
    have st0 := ConnSt.start (w2.alloc (.cells #[.slice ah 2 ch, .slice ad 2 cd, .int .u32 50] 25)) (fun b => b < w.heap.size) facts
    clear ph pd hk1 hk2
    have hE : (w2.alloc (.cells #[.slice ah 2 ch, .slice ad 2 cd, .int .u32 50] 25)).heap.size = w2.heap.size + 1 := by simp
    generalize w2.alloc (.cells #[.slice ah 2 ch, .slice ad 2 cd, .int .u32 50] 25) = W2 at hPH hPD nB kW st0 hE ⊢
    generalize w2.heap.size = N at nB hE ⊢
    have HPH := Lib.hid hPH
    have HPD := Lib.hid hPD
    have HNB := Lib.hid nB
    have HKW := Lib.hid kW
    have HST0 := Lib.hid st0
    have HE := Lib.hid hE
    have hO : ∀ b, b < w.heap.size → b < W2.heap.size := fun b hb => Nat.lt_of_lt_of_le hb kW.size
    have HO := Lib.hid hO
    have CF : ∀ l : List FactP, l.length ≤ 800 → (∀ f ∈ l, f.Good) → ∀ (W : World) (v : Value) (R O : Nat → Prop), Fs W R O v l → Calls Try.prog 12 #[v] W fun e w' => ∃ v', e = .returned v' ∧ Fo w' W.heap.size v' l ∧ Fr No W w' := fun l hl hg W v R O h => copied_any R O _ l W h (by omega) fun f hf => (hg f hf).len
    have HCF := Lib.hid CF
    have CK := fun (l : List FactP) (hg : ∀ f ∈ l, f.Good) (hn : l.length ≤ 800) (W : World) (k : Fr No W2 W) (v : Value) (R' : Nat → Prop) (h : Fs W R' R' v l) (hR : ∀ b, R' b → b < W.heap.size) => check_pair HPH.out HPD.out (check pairNet l).1 (check pairNet l).2 hg (by omega) rfl W k v h hR hR
    have HCK := Lib.hid CK
    clear hPH hPD nB kW st0 CF CK hO hE
    go_loopw [5] (fun vk wr => ∃ (k : Nat) (v0 v1 : Value), k ≤ facts.length ∧ vk = .int .i64 k ∧ ConnSt W2 wr (fun b => b < w.heap.size) facts k v0 v1 ∧ (∀ f ∈ facts.take k, f.conn = 0 ∨ f.conn = 1)) (fun k _ => facts.length - (intOf k).toNat)
    case atStart => exact ⟨0, _, _, Nat.zero_le _, rfl, HST0.out, fun f hf => by simp at hf⟩
    case round =>
      obtain ⟨k, v0, v1, hk, rfl, hst, hcn⟩ := hrel
      have HST := Lib.hid hst
      have HCN := Lib.hid hcn
      have hfw := HKW.out.trans hst.f
      have HFW := Lib.hid hfw
      have nB := hst.f.blk HNB.out id
      have n0 : wr.cell? ⟨N, 0, none⟩ = some (.slice ah 2 ch) := nB.cell 0
      have n1 : wr.cell? ⟨N, 1, none⟩ = some (.slice ad 2 cd) := nB.cell 1
      have n2 : wr.cell? ⟨N, 2, none⟩ = some (.int .u32 50) := nB.cell 2
      have eB := hst.e
      rw [HE.out] at eB
      have x0 : wr.cell? ⟨N + 1, 0, none⟩ = some v0 := eB.cell 0
      have x1 : wr.cell? ⟨N + 1, 1, none⟩ = some v1 := eB.cell 1
      have y0 := eB.free 0
      have y1 := eB.free 1
      have el := eB.lt
      have hfl := run_field34
      by_cases hlt : k < facts.length
      · have g1 : (k : Int) < (facts.length : Int) := by omega
        have g0 : (0 : Int) ≤ (k : Int) := by omega
        obtain ⟨_, b, off, vf, rfl, hRb, hbs0, hc⟩ := HF.out.at_ hlt
        have hbs := hbs0.keep hfw fun _ _ => id
        obtain ⟨d0, d1, d2, d3, d4, d5, d6, d7⟩ := fact_cells hc
        have c0 := hfw.old d0 id
        have c1 := hfw.old d1 id
        have hbl := lt_of_cell? c0
        dsimp only at hbl
        have hvf : ∃ av cv, vf = .slice av facts[k].data.length cv := let ⟨av, cv, h, _⟩ := hbs; ⟨av, cv, h⟩
        obtain ⟨av, cv, rfl⟩ := hvf
        have HBS := Lib.hid hbs
        have hcs : (facts[k].conn < 0 ∨ 1 < facts[k].conn) ∨ facts[k].conn = 0 ∨ facts[k].conn = 1 := by omega
        have HLT := Lib.hid hlt
        have hk8 : k < 800 := by have := HL.out; omega
        have hkw : wrap64 ((k : Int) + 1) = (k : Int) + 1 := by unfold wrap64; omega
        have HRB : Hid (b < w.heap.size) := hRb
        have hstr : (facts[k].conn < 0 ∨ 1 < facts[k].conn) → (check pairNet facts).1 ≠ 0 := fun h => check_stranger (10, 10) (11, 11) facts (List.getElem_mem hlt) h
        obtain ⟨cn, hck⟩ : ∃ cn, facts[k].conn = cn := ⟨_, rfl⟩
        have c1' : wr.cell? ⟨b, off + k * 8 + 1, none⟩ = some (.int .i64 cn) := by rw [← hck]; exact c1
        have hcs' : (cn < 0 ∨ 1 < cn) ∨ cn = 0 ∨ cn = 1 := by rw [← hck]; exact hcs
        have hstr' : (cn < 0 ∨ 1 < cn) → (check pairNet facts).1 ≠ 0 := by rw [← hck]; exact hstr
        have d1' : w.cell? ⟨b, off + k * 8 + 1, none⟩ = some (.int .i64 cn) := by rw [← hck]; exact d1
        clear c1 d1 hcs hstr
        have c1 := c1'
        have d1 := d1'
        clear d1'
        have hcs := hcs'
        have hstr := hstr'
        clear c1' hcs' hstr'
        have HCNK := Lib.hid hck
        clear nB eB hck hst hcn hfw hbs hbs0 hc hRb
        rcases hcs with hcs | hcs | hcs
        · have hne := hstr hcs
          have hne' : ((check pairNet facts).1 != 0) = true := by simpa using hne
          clear hstr
          have HC := Lib.hid (HCK.out facts HGF.out HL.out)
          have HC2 := Lib.hid (HCF.out facts HL.out HGF.out)
          generalize (check pairNet facts).1 = r at hne' HC
          generalize (check pairNet facts).2 = p at HC
          have kk : Fr No wr wr.drew := (Fr.refl No wr).drew
          have hd : decide (cn < 0) = true ∨ (decide (cn < 0) = false ∧ decide (1 < cn) = true) := by
            rcases hcs with h | h
            · exact .inl (decide_eq_true h)
            · exact .inr ⟨decide_eq_false (by omega), decide_eq_true h⟩
          clear hne hcs
          rcases hd with hd | ⟨hd, hd2⟩
          · go_wp2
            go_region_held (fun W => W.cell? ⟨N, 0, none⟩ = some (.slice ah 2 ch) ∧ W.cell? ⟨N, 1, none⟩ = some (.slice ad 2 cd) ∧ W.cell? ⟨N, 2, none⟩ = some (.int .u32 50)) (first | (exact ⟨n0, n1, n2⟩) | (exact ⟨kk.old n0 id, kk.old n1 id, kk.old n2 id⟩)) ((first | (go_at_call 15; refine (HC.out _ (HST.out.f.trans kk) _ _ fs4 (fun b hb => hb.2)).mono ?_; rintro e w10 ⟨rfl, hk10⟩; have kk := kk.trans hk10) | (go_at_call 12; refine (HC2.out _ _ _ _ (HF.out.keep (HFW.out.trans kk) (fun _ _ => id) fun _ _ => id)).mono ?_; rintro e w9 ⟨u4, rfl, fo4, hk9⟩; have fs4 := fo4.fs; have kk := kk.trans hk9)))
            all_goals (go_wp2; go_ret; exact ⟨rfl, HFW.out.trans kk⟩)
          · go_wp2
            go_region_held (fun W => W.cell? ⟨N, 0, none⟩ = some (.slice ah 2 ch) ∧ W.cell? ⟨N, 1, none⟩ = some (.slice ad 2 cd) ∧ W.cell? ⟨N, 2, none⟩ = some (.int .u32 50)) (first | (exact ⟨n0, n1, n2⟩) | (exact ⟨kk.old n0 id, kk.old n1 id, kk.old n2 id⟩)) ((first | (go_at_call 15; refine (HC.out _ (HST.out.f.trans kk) _ _ fs4 (fun b hb => hb.2)).mono ?_; rintro e w10 ⟨rfl, hk10⟩; have kk := kk.trans hk10) | (go_at_call 12; refine (HC2.out _ _ _ _ (HF.out.keep (HFW.out.trans kk) (fun _ _ => id) fun _ _ => id)).mono ?_; rintro e w9 ⟨u4, rfl, fo4, hk9⟩; have fs4 := fo4.fs; have kk := kk.trans hk9)))
            all_goals (go_wp2; go_ret; exact ⟨rfl, HFW.out.trans kk⟩)
        · subst hcs
          obtain ⟨lc, hlc⟩ : ∃ lc, lc = ((facts.take k).filter fun f => f.conn == 0) := ⟨_, rfl⟩
          have hcr : Crow wr W2.heap.size (fun b => b < w.heap.size) v0 lc := hlc ▸ HST.out.c0
          obtain ⟨a0, cap0, rfl⟩ := hcr.shape
          have hlen : lc.length ≤ 800 := by rw [hlc]; exact Nat.le_trans (List.length_filter_le ..) (by rw [List.length_take]; have := HL.out; omega)
          have HCR := Lib.hid hcr
          have HLC := Lib.hid hlc
          have HLEN := Lib.hid hlen
          have HETA := Lib.hid (conn_eta facts[k] 0 HCNK.out)
          have hcn1 : ∀ f ∈ facts.take (k + 1), f.conn = 0 ∨ f.conn = 1 := by
            intro f hf
            rw [List.take_succ_eq_append_getElem HLT.out] at hf
            rcases List.mem_append.1 hf with hf | hf
            · exact HCN.out f hf
            · have : f = facts[k] := List.mem_singleton.1 hf
              rw [this]; exact .inl HCNK.out
          have HCN1 := Lib.hid hcn1
          clear hcr hlc hlen hcn1 hstr
          go_wp2
          refine wp_region_held_drew (S := fun W => Fr No w W) (by kernel_rfl) HFW.out.drew (fun hHeld => ?_)
          refine wpAnyH_take (i := 0) (v := ?v1) rfl (by kernel_rfl) (by kernel_rfl) (by kernel_rfl) (fun _ _ _ h => h) (Or.inl ⟨by rfl, ?h1⟩) (by assumption) ?r1
          case h1 => (intro W hSw; go_simp; try with_reducible rfl)
          try simp only [Act.put, List.setIfInBounds_toArray, List.set_cons_zero, List.set_cons_succ]
          refine wpAnyH_take (i := 1) (v := ?v2) rfl (by kernel_rfl) (by kernel_rfl) (by kernel_rfl) (fun _ _ _ h => h) (Or.inl ⟨by rfl, ?h2⟩) (by assumption) ?r2
          case h2 => (intro W hSw; go_simp; try with_reducible rfl)
          try simp only [Act.put, List.setIfInBounds_toArray, List.set_cons_zero, List.set_cons_succ]
          refine wpAnyH_take (i := 2) (v := ?v3) rfl (by kernel_rfl) (by kernel_rfl) (by kernel_rfl) (fun _ _ _ h => h) (Or.inl ⟨by rfl, ?h3⟩) (by assumption) ?r3
          case h3 => (intro W hSw; go_simp; try with_reducible rfl)
          try simp only [Act.put, List.setIfInBounds_toArray, List.set_cons_zero, List.set_cons_succ]
          refine wpAnyH_take (i := 3) (v := ?v4) rfl (by kernel_rfl) (by kernel_rfl) (by kernel_rfl) (fun _ _ _ h => h) (Or.inl ⟨by rfl, ?h4⟩) (by assumption) ?r4
          case h4 => (intro W hSw; go_simp; try with_reducible rfl)
          try simp only [Act.put, List.setIfInBounds_toArray, List.set_cons_zero, List.set_cons_succ]
          refine wpAnyH_take (i := 4) (v := ?v5) rfl (by kernel_rfl) (by kernel_rfl) (by kernel_rfl) (fun _ _ _ h => h) (Or.inl ⟨by rfl, ?h5⟩) (by assumption) ?r5
          case h5 => (intro W hSw; have e0 := hSw.old d0 id; have e1 := hSw.old d1 id; have e2 := hSw.old d2 id; have e3 := hSw.old d3 id; have e4 := hSw.old d4 id; have e5 := hSw.old d5 id; have e6 := hSw.old d6 id; have e7 := hSw.old d7 id; go_simp; try with_reducible rfl)
          try simp only [Act.put, List.setIfInBounds_toArray, List.set_cons_zero, List.set_cons_succ]
          refine wpAnyH_take (i := 5) (v := ?v6) rfl (by kernel_rfl) (by kernel_rfl) (by kernel_rfl) (fun _ _ _ h => h) (Or.inl ⟨by rfl, ?h6⟩) (by assumption) ?r6
          case h6 => (intro W hSw; go_simp; try with_reducible rfl)
          try simp only [Act.put, List.setIfInBounds_toArray, List.set_cons_zero, List.set_cons_succ]
          refine wpAnyH_take (i := 6) (v := ?v7) rfl (by kernel_rfl) (by kernel_rfl) (by kernel_rfl) (fun _ _ _ h => h) (Or.inl ⟨by rfl, ?h7⟩) (by assumption) ?r7
          case h7 => (intro W hSw; go_simp; try with_reducible rfl)
          try simp only [Act.put, List.setIfInBounds_toArray, List.set_cons_zero, List.set_cons_succ]
          refine wpAnyH_take (i := 7) (v := ?v8) rfl (by kernel_rfl) (by kernel_rfl) (by kernel_rfl) (fun _ _ _ h => h) (Or.inl ⟨by rfl, ?h8⟩) (by assumption) ?r8
          case h8 => (intro W hSw; go_simp; try with_reducible rfl)
          try simp only [Act.put, List.setIfInBounds_toArray, List.set_cons_zero, List.set_cons_succ]
          refine wpAnyH_take (i := 8) (v := ?v9) rfl (by kernel_rfl) (by kernel_rfl) (by kernel_rfl) (fun _ _ _ h => h) (Or.inl ⟨by rfl, ?h9⟩) (by assumption) ?r9
          case h9 => (intro W hSw; go_simp; try with_reducible rfl)
          try simp only [Act.put, List.setIfInBounds_toArray, List.set_cons_zero, List.set_cons_succ]
          refine wpAnyH_take (i := 9) (v := ?v10) rfl (by kernel_rfl) (by kernel_rfl) (by kernel_rfl) (fun _ _ _ h => h) (Or.inl ⟨by rfl, ?h10⟩) (by assumption) ?r10
          case h10 => (intro W hSw; have e0 := hSw.old d0 id; have e1 := hSw.old d1 id; have e2 := hSw.old d2 id; have e3 := hSw.old d3 id; have e4 := hSw.old d4 id; have e5 := hSw.old d5 id; have e6 := hSw.old d6 id; have e7 := hSw.old d7 id; go_simp; try with_reducible rfl)
          try simp only [Act.put, List.setIfInBounds_toArray, List.set_cons_zero, List.set_cons_succ]
          refine wpAnyH_take (i := 10) (v := ?v11) rfl (by kernel_rfl) (by kernel_rfl) (by kernel_rfl) (fun _ _ _ h => h) (Or.inl ⟨by rfl, ?h11⟩) (by assumption) ?r11
          case h11 => (intro W hSw; go_simp; try with_reducible rfl)
          try simp only [Act.put, List.setIfInBounds_toArray, List.set_cons_zero, List.set_cons_succ]
          refine wpAnyH_take (i := 12) (v := ?v12) rfl (by kernel_rfl) (by kernel_rfl) (by kernel_rfl) (fun _ _ _ h => h) (Or.inl ⟨by rfl, ?h12⟩) (by assumption) ?r12
          case h12 => (intro W hSw; go_simp; try with_reducible rfl)
          try simp only [Act.put, List.setIfInBounds_toArray, List.set_cons_zero, List.set_cons_succ]
          refine wpAnyH_take (i := 13) (v := ?v13) rfl (by kernel_rfl) (by kernel_rfl) (by kernel_rfl) (fun _ _ _ h => h) (Or.inl ⟨by rfl, ?h13⟩) (by assumption) ?r13
          case h13 => (intro W hSw; go_simp; try with_reducible rfl)
          try simp only [Act.put, List.setIfInBounds_toArray, List.set_cons_zero, List.set_cons_succ]
          refine wpAnyH_take (i := 14) (v := ?v14) rfl (by kernel_rfl) (by kernel_rfl) (by kernel_rfl) (fun _ _ _ h => h) (Or.inl ⟨by rfl, ?h14⟩) (by assumption) ?r14
          case h14 => (intro W hSw; go_simp; try with_reducible rfl)
          try simp only [Act.put, List.setIfInBounds_toArray, List.set_cons_zero, List.set_cons_succ]
          refine wpAnyH_take (i := 15) (v := ?v15) rfl (by kernel_rfl) (by kernel_rfl) (by kernel_rfl) (fun _ _ _ h => h) (Or.inl ⟨by rfl, ?h15⟩) (by assumption) ?r15
          case h15 => (intro W hSw; have e0 := hSw.old d0 id; have e1 := hSw.old d1 id; have e2 := hSw.old d2 id; have e3 := hSw.old d3 id; have e4 := hSw.old d4 id; have e5 := hSw.old d5 id; have e6 := hSw.old d6 id; have e7 := hSw.old d7 id; go_simp; try with_reducible rfl)
          try simp only [Act.put, List.setIfInBounds_toArray, List.set_cons_zero, List.set_cons_succ]
          refine wpAnyH_ready (rs := [11, 16]) (by kernel_rfl) (by simp) ?_
          refine AllReadyH.cons rfl (fun K hK => ?_) (AllReadyH.cons rfl (fun K hK => ?_) AllReadyH.nil)
          · skip
            go_simp
            refine hK.out _ _ (HFW.out.drew) (fun hHeld => ?_)
            clear hK K
            refine wpAnyH_ready (rs := [16]) (by kernel_rfl) (by simp) ?_
            refine AllReadyH.cons rfl (fun K hK => ?_) AllReadyH.nil
            go_simp
            refine hK.out _ _ ((HFW.out.drew).alloc _) (fun hHeld => ?_)
            clear hK K
            refine wpAnyH_ready (rs := [17]) (by kernel_rfl) (by simp) ?_
            refine AllReadyH.cons rfl (fun K hK => ?_) AllReadyH.nil
            refine step_append_fact (by rfl) _ _ (by rfl) W2.heap.size (fun b => b < w.heap.size) (.slice a0 lc.length cap0) lc { facts[k] with conn := 0 } (.slice av facts[k].data.length cv) (by rfl) (HCR.out.keep (((Fr.refl No wr).alloc _).drew) (fun _ _ => id) fun _ _ => id) wr.heap.size (by rfl) (by exact alloc_at wr _ rfl) (HBS.out.keep (((Fr.refl No wr).alloc _).drew) fun _ _ => id) (by have := HLEN.out; omega) (by have := HST.out.f.size; simp; omega) HO.out ?_
            intro g cap1 w4 h1 h2 h3
            rw [HETA.out] at h1
            rw [HLC.out] at h1
            have hw4 : Fr No w w4 := (HFW.out.trans (((Fr.refl No wr).alloc _).drew)).more (grown_fr h2) (fun b hb hlt => absurd (Nat.lt_of_lt_of_le (HO.out _ hlt) (HCR.out.block hb.symm).1) (Nat.lt_irrefl _))
            have e4 := HST.out.mid0 (((Fr.refl No wr).alloc _).drew) h2
            rw [HE.out] at e4
            have st4 := HST.out.step0 HLT.out HCNK.out (((Fr.refl No wr).alloc _).drew) h1 h2 h3 HO.out
            rw [HE.out] at st4
            rw [← HLC.out] at st4
            have ST4 := Lib.hid st4
            have q0 : w4.cell? ⟨N + 1, 0, none⟩ = some (.slice a0 lc.length cap0) := e4.cell 0
            have qf := e4.free 0
            have ql := e4.lt
            clear e4 st4 h1 h2 h3
            refine hK.out _ _ (hw4) (fun hHeld => ?_)
            clear hK K
            refine wpAnyH_take (i := 18) (v := ?v16) rfl (by kernel_rfl) (by kernel_rfl) (by kernel_rfl) (fun _ _ _ h => h) (Or.inl ⟨by rfl, ?h16⟩) (by assumption) ?r16
            case h16 => (intro W hSw; go_simp; try with_reducible rfl)
            try simp only [Act.put, List.setIfInBounds_toArray, List.set_cons_zero, List.set_cons_succ]
            refine wpAnyH_ready (rs := [19]) (by kernel_rfl) (by simp) ?_
            refine AllReadyH.cons rfl (fun K hK => ?_) AllReadyH.nil
            go_simp
            refine hK.out _ _ (HKW.out.trans ST4.out.f) (fun hHeld => ?_)
            clear hK K
            refine wpAnyH_done (by kernel_rfl) ?_ _
            go_wp2
            go_roundw
            case rel => exact ⟨k + 1, _, _, by omega, by go_num, ST4.out, HCN1.out⟩
            case measure => simp [intOf, hkw]; omega
          · skip
            go_simp
            refine hK.out _ _ ((HFW.out.alloc _).drew) (fun hHeld => ?_)
            clear hK K
            refine wpAnyH_ready (rs := [11]) (by kernel_rfl) (by simp) ?_
            refine AllReadyH.cons rfl (fun K hK => ?_) AllReadyH.nil
            go_simp
            refine hK.out _ _ ((HFW.out.alloc _).drew) (fun hHeld => ?_)
            clear hK K
            refine wpAnyH_ready (rs := [17]) (by kernel_rfl) (by simp) ?_
            refine AllReadyH.cons rfl (fun K hK => ?_) AllReadyH.nil
            refine step_append_fact (by rfl) _ _ (by rfl) W2.heap.size (fun b => b < w.heap.size) (.slice a0 lc.length cap0) lc { facts[k] with conn := 0 } (.slice av facts[k].data.length cv) (by rfl) (HCR.out.keep (((Fr.refl No wr).alloc _).drew) (fun _ _ => id) fun _ _ => id) wr.heap.size (by rfl) (by exact alloc_at wr _ rfl) (HBS.out.keep (((Fr.refl No wr).alloc _).drew) fun _ _ => id) (by have := HLEN.out; omega) (by have := HST.out.f.size; simp; omega) HO.out ?_
            intro g cap1 w4 h1 h2 h3
            rw [HETA.out] at h1
            rw [HLC.out] at h1
            have hw4 : Fr No w w4 := (HFW.out.trans (((Fr.refl No wr).alloc _).drew)).more (grown_fr h2) (fun b hb hlt => absurd (Nat.lt_of_lt_of_le (HO.out _ hlt) (HCR.out.block hb.symm).1) (Nat.lt_irrefl _))
            have e4 := HST.out.mid0 (((Fr.refl No wr).alloc _).drew) h2
            rw [HE.out] at e4
            have st4 := HST.out.step0 HLT.out HCNK.out (((Fr.refl No wr).alloc _).drew) h1 h2 h3 HO.out
            rw [HE.out] at st4
            rw [← HLC.out] at st4
            have ST4 := Lib.hid st4
            have q0 : w4.cell? ⟨N + 1, 0, none⟩ = some (.slice a0 lc.length cap0) := e4.cell 0
            have qf := e4.free 0
            have ql := e4.lt
            clear e4 st4 h1 h2 h3
            refine hK.out _ _ (hw4) (fun hHeld => ?_)
            clear hK K
            refine wpAnyH_take (i := 18) (v := ?v17) rfl (by kernel_rfl) (by kernel_rfl) (by kernel_rfl) (fun _ _ _ h => h) (Or.inl ⟨by rfl, ?h17⟩) (by assumption) ?r17
            case h17 => (intro W hSw; go_simp; try with_reducible rfl)
            try simp only [Act.put, List.setIfInBounds_toArray, List.set_cons_zero, List.set_cons_succ]
            refine wpAnyH_ready (rs := [19]) (by kernel_rfl) (by simp) ?_
            refine AllReadyH.cons rfl (fun K hK => ?_) AllReadyH.nil
            go_simp
            refine hK.out _ _ (HKW.out.trans ST4.out.f) (fun hHeld => ?_)
            clear hK K
            refine wpAnyH_done (by kernel_rfl) ?_ _
            go_wp2
            go_roundw
            case rel => exact ⟨k + 1, _, _, by omega, by go_num, ST4.out, HCN1.out⟩
            case measure => simp [intOf, hkw]; omega
        · subst hcs
          obtain ⟨lc, hlc⟩ : ∃ lc, lc = ((facts.take k).filter fun f => f.conn == 1) := ⟨_, rfl⟩
          have hcr : Crow wr W2.heap.size (fun b => b < w.heap.size) v1 lc := hlc ▸ HST.out.c1
          obtain ⟨a0, cap0, rfl⟩ := hcr.shape
          have hlen : lc.length ≤ 800 := by rw [hlc]; exact Nat.le_trans (List.length_filter_le ..) (by rw [List.length_take]; have := HL.out; omega)
          have HCR := Lib.hid hcr
          have HLC := Lib.hid hlc
          have HLEN := Lib.hid hlen
          have HETA := Lib.hid (conn_eta facts[k] 1 HCNK.out)
          have hcn1 : ∀ f ∈ facts.take (k + 1), f.conn = 0 ∨ f.conn = 1 := by
            intro f hf
            rw [List.take_succ_eq_append_getElem HLT.out] at hf
            rcases List.mem_append.1 hf with hf | hf
            · exact HCN.out f hf
            · have : f = facts[k] := List.mem_singleton.1 hf
              rw [this]; exact .inr HCNK.out
          have HCN1 := Lib.hid hcn1
          clear hcr hlc hlen hcn1 hstr
          go_wp2
          refine wp_region_held_drew (S := fun W => Fr No w W) (by kernel_rfl) HFW.out.drew (fun hHeld => ?_)
          refine wpAnyH_take (i := 0) (v := ?v18) rfl (by kernel_rfl) (by kernel_rfl) (by kernel_rfl) (fun _ _ _ h => h) (Or.inl ⟨by rfl, ?h18⟩) (by assumption) ?r18
          case h18 => (intro W hSw; go_simp; try with_reducible rfl)
          try simp only [Act.put, List.setIfInBounds_toArray, List.set_cons_zero, List.set_cons_succ]
          refine wpAnyH_take (i := 1) (v := ?v19) rfl (by kernel_rfl) (by kernel_rfl) (by kernel_rfl) (fun _ _ _ h => h) (Or.inl ⟨by rfl, ?h19⟩) (by assumption) ?r19
          case h19 => (intro W hSw; go_simp; try with_reducible rfl)
          try simp only [Act.put, List.setIfInBounds_toArray, List.set_cons_zero, List.set_cons_succ]
          refine wpAnyH_take (i := 2) (v := ?v20) rfl (by kernel_rfl) (by kernel_rfl) (by kernel_rfl) (fun _ _ _ h => h) (Or.inl ⟨by rfl, ?h20⟩) (by assumption) ?r20
          case h20 => (intro W hSw; go_simp; try with_reducible rfl)
          try simp only [Act.put, List.setIfInBounds_toArray, List.set_cons_zero, List.set_cons_succ]
          refine wpAnyH_take (i := 3) (v := ?v21) rfl (by kernel_rfl) (by kernel_rfl) (by kernel_rfl) (fun _ _ _ h => h) (Or.inl ⟨by rfl, ?h21⟩) (by assumption) ?r21
          case h21 => (intro W hSw; go_simp; try with_reducible rfl)
          try simp only [Act.put, List.setIfInBounds_toArray, List.set_cons_zero, List.set_cons_succ]
          refine wpAnyH_take (i := 4) (v := ?v22) rfl (by kernel_rfl) (by kernel_rfl) (by kernel_rfl) (fun _ _ _ h => h) (Or.inl ⟨by rfl, ?h22⟩) (by assumption) ?r22
          case h22 => (intro W hSw; have e0 := hSw.old d0 id; have e1 := hSw.old d1 id; have e2 := hSw.old d2 id; have e3 := hSw.old d3 id; have e4 := hSw.old d4 id; have e5 := hSw.old d5 id; have e6 := hSw.old d6 id; have e7 := hSw.old d7 id; go_simp; try with_reducible rfl)
          try simp only [Act.put, List.setIfInBounds_toArray, List.set_cons_zero, List.set_cons_succ]
          refine wpAnyH_take (i := 5) (v := ?v23) rfl (by kernel_rfl) (by kernel_rfl) (by kernel_rfl) (fun _ _ _ h => h) (Or.inl ⟨by rfl, ?h23⟩) (by assumption) ?r23
          case h23 => (intro W hSw; go_simp; try with_reducible rfl)
          try simp only [Act.put, List.setIfInBounds_toArray, List.set_cons_zero, List.set_cons_succ]
          refine wpAnyH_take (i := 6) (v := ?v24) rfl (by kernel_rfl) (by kernel_rfl) (by kernel_rfl) (fun _ _ _ h => h) (Or.inl ⟨by rfl, ?h24⟩) (by assumption) ?r24
          case h24 => (intro W hSw; go_simp; try with_reducible rfl)
          try simp only [Act.put, List.setIfInBounds_toArray, List.set_cons_zero, List.set_cons_succ]
          refine wpAnyH_take (i := 7) (v := ?v25) rfl (by kernel_rfl) (by kernel_rfl) (by kernel_rfl) (fun _ _ _ h => h) (Or.inl ⟨by rfl, ?h25⟩) (by assumption) ?r25
          case h25 => (intro W hSw; go_simp; try with_reducible rfl)
          try simp only [Act.put, List.setIfInBounds_toArray, List.set_cons_zero, List.set_cons_succ]
          refine wpAnyH_take (i := 8) (v := ?v26) rfl (by kernel_rfl) (by kernel_rfl) (by kernel_rfl) (fun _ _ _ h => h) (Or.inl ⟨by rfl, ?h26⟩) (by assumption) ?r26
          case h26 => (intro W hSw; go_simp; try with_reducible rfl)
          try simp only [Act.put, List.setIfInBounds_toArray, List.set_cons_zero, List.set_cons_succ]
          refine wpAnyH_take (i := 9) (v := ?v27) rfl (by kernel_rfl) (by kernel_rfl) (by kernel_rfl) (fun _ _ _ h => h) (Or.inl ⟨by rfl, ?h27⟩) (by assumption) ?r27
          case h27 => (intro W hSw; have e0 := hSw.old d0 id; have e1 := hSw.old d1 id; have e2 := hSw.old d2 id; have e3 := hSw.old d3 id; have e4 := hSw.old d4 id; have e5 := hSw.old d5 id; have e6 := hSw.old d6 id; have e7 := hSw.old d7 id; go_simp; try with_reducible rfl)
          try simp only [Act.put, List.setIfInBounds_toArray, List.set_cons_zero, List.set_cons_succ]
          refine wpAnyH_take (i := 10) (v := ?v28) rfl (by kernel_rfl) (by kernel_rfl) (by kernel_rfl) (fun _ _ _ h => h) (Or.inl ⟨by rfl, ?h28⟩) (by assumption) ?r28
          case h28 => (intro W hSw; go_simp; try with_reducible rfl)
          try simp only [Act.put, List.setIfInBounds_toArray, List.set_cons_zero, List.set_cons_succ]
          refine wpAnyH_take (i := 12) (v := ?v29) rfl (by kernel_rfl) (by kernel_rfl) (by kernel_rfl) (fun _ _ _ h => h) (Or.inl ⟨by rfl, ?h29⟩) (by assumption) ?r29
          case h29 => (intro W hSw; go_simp; try with_reducible rfl)
          try simp only [Act.put, List.setIfInBounds_toArray, List.set_cons_zero, List.set_cons_succ]
          refine wpAnyH_take (i := 13) (v := ?v30) rfl (by kernel_rfl) (by kernel_rfl) (by kernel_rfl) (fun _ _ _ h => h) (Or.inl ⟨by rfl, ?h30⟩) (by assumption) ?r30
          case h30 => (intro W hSw; go_simp; try with_reducible rfl)
          try simp only [Act.put, List.setIfInBounds_toArray, List.set_cons_zero, List.set_cons_succ]
          refine wpAnyH_take (i := 14) (v := ?v31) rfl (by kernel_rfl) (by kernel_rfl) (by kernel_rfl) (fun _ _ _ h => h) (Or.inl ⟨by rfl, ?h31⟩) (by assumption) ?r31
          case h31 => (intro W hSw; go_simp; try with_reducible rfl)
          try simp only [Act.put, List.setIfInBounds_toArray, List.set_cons_zero, List.set_cons_succ]
          refine wpAnyH_take (i := 15) (v := ?v32) rfl (by kernel_rfl) (by kernel_rfl) (by kernel_rfl) (fun _ _ _ h => h) (Or.inl ⟨by rfl, ?h32⟩) (by assumption) ?r32
          case h32 => (intro W hSw; have e0 := hSw.old d0 id; have e1 := hSw.old d1 id; have e2 := hSw.old d2 id; have e3 := hSw.old d3 id; have e4 := hSw.old d4 id; have e5 := hSw.old d5 id; have e6 := hSw.old d6 id; have e7 := hSw.old d7 id; go_simp; try with_reducible rfl)
          try simp only [Act.put, List.setIfInBounds_toArray, List.set_cons_zero, List.set_cons_succ]
          refine wpAnyH_ready (rs := [11, 16]) (by kernel_rfl) (by simp) ?_
          refine AllReadyH.cons rfl (fun K hK => ?_) (AllReadyH.cons rfl (fun K hK => ?_) AllReadyH.nil)
          · skip
            go_simp
            refine hK.out _ _ (HFW.out.drew) (fun hHeld => ?_)
            clear hK K
            refine wpAnyH_ready (rs := [16]) (by kernel_rfl) (by simp) ?_
            refine AllReadyH.cons rfl (fun K hK => ?_) AllReadyH.nil
            go_simp
            refine hK.out _ _ ((HFW.out.drew).alloc _) (fun hHeld => ?_)
            clear hK K
            refine wpAnyH_ready (rs := [17]) (by kernel_rfl) (by simp) ?_
            refine AllReadyH.cons rfl (fun K hK => ?_) AllReadyH.nil
            refine step_append_fact (by rfl) _ _ (by rfl) W2.heap.size (fun b => b < w.heap.size) (.slice a0 lc.length cap0) lc { facts[k] with conn := 1 } (.slice av facts[k].data.length cv) (by rfl) (HCR.out.keep (((Fr.refl No wr).alloc _).drew) (fun _ _ => id) fun _ _ => id) wr.heap.size (by rfl) (by exact alloc_at wr _ rfl) (HBS.out.keep (((Fr.refl No wr).alloc _).drew) fun _ _ => id) (by have := HLEN.out; omega) (by have := HST.out.f.size; simp; omega) HO.out ?_
            intro g cap1 w4 h1 h2 h3
            rw [HETA.out] at h1
            rw [HLC.out] at h1
            have hw4 : Fr No w w4 := (HFW.out.trans (((Fr.refl No wr).alloc _).drew)).more (grown_fr h2) (fun b hb hlt => absurd (Nat.lt_of_lt_of_le (HO.out _ hlt) (HCR.out.block hb.symm).1) (Nat.lt_irrefl _))
            have e4 := HST.out.mid1 (((Fr.refl No wr).alloc _).drew) h2
            rw [HE.out] at e4
            have st4 := HST.out.step1 HLT.out HCNK.out (((Fr.refl No wr).alloc _).drew) h1 h2 h3 HO.out
            rw [HE.out] at st4
            rw [← HLC.out] at st4
            have ST4 := Lib.hid st4
            have q0 : w4.cell? ⟨N + 1, 1, none⟩ = some (.slice a0 lc.length cap0) := e4.cell 1
            have qf := e4.free 1
            have ql := e4.lt
            clear e4 st4 h1 h2 h3
            refine hK.out _ _ (hw4) (fun hHeld => ?_)
            clear hK K
            refine wpAnyH_take (i := 18) (v := ?v33) rfl (by kernel_rfl) (by kernel_rfl) (by kernel_rfl) (fun _ _ _ h => h) (Or.inl ⟨by rfl, ?h33⟩) (by assumption) ?r33
            case h33 => (intro W hSw; go_simp; try with_reducible rfl)
            try simp only [Act.put, List.setIfInBounds_toArray, List.set_cons_zero, List.set_cons_succ]
            refine wpAnyH_ready (rs := [19]) (by kernel_rfl) (by simp) ?_
            refine AllReadyH.cons rfl (fun K hK => ?_) AllReadyH.nil
            go_simp
            refine hK.out _ _ (HKW.out.trans ST4.out.f) (fun hHeld => ?_)
            clear hK K
            refine wpAnyH_done (by kernel_rfl) ?_ _
            go_wp2
            go_roundw
            case rel => exact ⟨k + 1, _, _, by omega, by go_num, ST4.out, HCN1.out⟩
            case measure => simp [intOf, hkw]; omega
          · skip
            go_simp
            refine hK.out _ _ ((HFW.out.alloc _).drew) (fun hHeld => ?_)
            clear hK K
            refine wpAnyH_ready (rs := [11]) (by kernel_rfl) (by simp) ?_
            refine AllReadyH.cons rfl (fun K hK => ?_) AllReadyH.nil
            go_simp
            refine hK.out _ _ ((HFW.out.alloc _).drew) (fun hHeld => ?_)
            clear hK K
            refine wpAnyH_ready (rs := [17]) (by kernel_rfl) (by simp) ?_
            refine AllReadyH.cons rfl (fun K hK => ?_) AllReadyH.nil
            refine step_append_fact (by rfl) _ _ (by rfl) W2.heap.size (fun b => b < w.heap.size) (.slice a0 lc.length cap0) lc { facts[k] with conn := 1 } (.slice av facts[k].data.length cv) (by rfl) (HCR.out.keep (((Fr.refl No wr).alloc _).drew) (fun _ _ => id) fun _ _ => id) wr.heap.size (by rfl) (by exact alloc_at wr _ rfl) (HBS.out.keep (((Fr.refl No wr).alloc _).drew) fun _ _ => id) (by have := HLEN.out; omega) (by have := HST.out.f.size; simp; omega) HO.out ?_
            intro g cap1 w4 h1 h2 h3
            rw [HETA.out] at h1
            rw [HLC.out] at h1
            have hw4 : Fr No w w4 := (HFW.out.trans (((Fr.refl No wr).alloc _).drew)).more (grown_fr h2) (fun b hb hlt => absurd (Nat.lt_of_lt_of_le (HO.out _ hlt) (HCR.out.block hb.symm).1) (Nat.lt_irrefl _))
            have e4 := HST.out.mid1 (((Fr.refl No wr).alloc _).drew) h2
            rw [HE.out] at e4
            have st4 := HST.out.step1 HLT.out HCNK.out (((Fr.refl No wr).alloc _).drew) h1 h2 h3 HO.out
            rw [HE.out] at st4
            rw [← HLC.out] at st4
            have ST4 := Lib.hid st4
            have q0 : w4.cell? ⟨N + 1, 1, none⟩ = some (.slice a0 lc.length cap0) := e4.cell 1
            have qf := e4.free 1
            have ql := e4.lt
            clear e4 st4 h1 h2 h3
            refine hK.out _ _ (hw4) (fun hHeld => ?_)
            clear hK K
            refine wpAnyH_take (i := 18) (v := ?v34) rfl (by kernel_rfl) (by kernel_rfl) (by kernel_rfl) (fun _ _ _ h => h) (Or.inl ⟨by rfl, ?h34⟩) (by assumption) ?r34
            case h34 => (intro W hSw; go_simp; try with_reducible rfl)
            try simp only [Act.put, List.setIfInBounds_toArray, List.set_cons_zero, List.set_cons_succ]
            refine wpAnyH_ready (rs := [19]) (by kernel_rfl) (by simp) ?_
            refine AllReadyH.cons rfl (fun K hK => ?_) AllReadyH.nil
            go_simp
            refine hK.out _ _ (HKW.out.trans ST4.out.f) (fun hHeld => ?_)
            clear hK K
            refine wpAnyH_done (by kernel_rfl) ?_ _
            go_wp2
            go_roundw
            case rel => exact ⟨k + 1, _, _, by omega, by go_num, ST4.out, HCN1.out⟩
            case measure => simp [intOf, hkw]; omega
      · have hkl : k = facts.length := by omega
        rw [hkl, List.take_length] at hcn
        have hr0 := hst.c0
        have hr1 := hst.c1
        rw [hkl, List.take_length] at hr0 hr1
        have g1 : ¬ (k : Int) < (facts.length : Int) := by omega
        have hcc := check_conns (10, 10) (11, 11) facts hcn
        have hl0 : (facts.filter fun f => f.conn == 0).length ≤ 800 := Nat.le_trans (List.length_filter_le ..) HL.out
        have hl1 : (facts.filter fun f => f.conn == 1).length ≤ 800 := Nat.le_trans (List.length_filter_le ..) HL.out
        have hg0 : ∀ f ∈ (facts.filter fun f => f.conn == 0), f.Good := fun f hf => HGF.out f (List.mem_filter.1 hf).1
        have hg1 : ∀ f ∈ (facts.filter fun f => f.conn == 1), f.Good := fun f hf => HGF.out f (List.mem_filter.1 hf).1
        have HR0 := Lib.hid hr0.fs
        have HR1 := Lib.hid hr1.fs
        have HD0 := Lib.hid (HCF.out _ hl0 hg0)
        have HD1 := Lib.hid (HCF.out _ hl1 hg1)
        have HD := Lib.hid (HCF.out _ HL.out HGF.out)
        have HC0 := Lib.hid (HCK.out _ hg0 hl0)
        have HC1 := Lib.hid (HCK.out _ hg1 hl1)
        have HC := Lib.hid (HCK.out _ HGF.out HL.out)
        rw [show [((10 : Int), (10 : Int)), (11, 11)] = pairNet from rfl] at hcc
        clear hl0 hl1 hg0 hg1 hr0 hr1 hcn nB eB hst hfw HST0
        generalize (check pairNet facts).1 = r at hcc HC
        generalize (check pairNet facts).2 = p at HC
        generalize (check pairNet (facts.filter fun f => f.conn == 0)).1 = r0 at hcc HC0
        generalize (check pairNet (facts.filter fun f => f.conn == 0)).2 = p0 at HC0
        generalize (check pairNet (facts.filter fun f => f.conn == 1)).1 = r1 at hcc HC1
        generalize (check pairNet (facts.filter fun f => f.conn == 1)).2 = p1 at HC1
        have HCC := Lib.hid hcc
        clear hcc
        have kk : Fr No wr wr.drew := (Fr.refl No wr).drew
        have hz0 : (r0 == 0) = true ∨ (r0 == 0) = false := by cases (r0 == 0) <;> simp
        rcases hz0 with hz0 | hz0
        · have hz0' := hz0
          go_wp2
          go_region_held (fun W => W.cell? ⟨N, 0, none⟩ = some (.slice ah 2 ch) ∧ W.cell? ⟨N, 1, none⟩ = some (.slice ad 2 cd) ∧ W.cell? ⟨N, 2, none⟩ = some (.int .u32 50) ∧ W.cell? ⟨N + 1, 0, none⟩ = some v0 ∧ W.cell? ⟨N + 1, 1, none⟩ = some v1) (first | (exact ⟨n0, n1, n2, x0, x1⟩) | (exact ⟨kk.old n0 id, kk.old n1 id, kk.old n2 id, kk.old x0 id, kk.old x1 id⟩)) (first | (go_at_call 15; have kt := fs5; clear kt; refine (HC1.out _ (HST.out.f.trans kk) _ _ fs5 (fun b hb => hb.2)).mono ?_; rintro e w12 ⟨rfl, hk12⟩; have kk := kk.trans hk12) | (go_at_call 12; have kt := hk10; clear kt; refine (HD1.out _ _ _ _ (HR1.out.keep kk (fun _ _ => id) fun _ _ => id)).mono ?_; rintro e w11 ⟨u5, rfl, fo5, hk11⟩; have fs5 := fo5.fs; have kk := kk.trans hk11) | (go_at_call 15; have kt := fs4; clear kt; refine (HC0.out _ (HST.out.f.trans kk) _ _ fs4 (fun b hb => hb.2)).mono ?_; rintro e w10 ⟨rfl, hk10⟩; have kk := kk.trans hk10) | (go_at_call 12; refine (HD0.out _ _ _ _ (HR0.out.keep kk (fun _ _ => id) fun _ _ => id)).mono ?_; rintro e w9 ⟨u4, rfl, fo4, hk9⟩; have fs4 := fo4.fs; have kk := kk.trans hk9))
          go_wp2
          have kk := kk.drew
          go_region_held (fun W => W.cell? ⟨N, 0, none⟩ = some (.slice ah 2 ch) ∧ W.cell? ⟨N, 1, none⟩ = some (.slice ad 2 cd) ∧ W.cell? ⟨N, 2, none⟩ = some (.int .u32 50)) (exact ⟨kk.old n0 id, kk.old n1 id, kk.old n2 id⟩) (first | (go_at_call 15; refine (HC.out _ (HST.out.f.trans kk) _ _ fs6 (fun b hb => hb.2)).mono ?_; rintro e w14 ⟨rfl, hk14⟩; have kk := kk.trans hk14) | (go_at_call 12; refine (HD.out _ _ _ _ (HF.out.keep (HFW.out.trans kk) (fun _ _ => id) fun _ _ => id)).mono ?_; rintro e w13 ⟨u6, rfl, fo6, hk13⟩; have fs6 := fo6.fs; have kk := kk.trans hk13))
          go_wp2
          go_ret
          exact ⟨congrArg (fun b => Ending.returned (.bool b)) (conn_end_t HCC.out hz0), HFW.out.trans kk⟩
        · have hz0' := hz0
          go_wp2
          refine wp_region_held_drew (S := fun W => W.cell? ⟨N, 0, none⟩ = some (.slice ah 2 ch) ∧ W.cell? ⟨N, 1, none⟩ = some (.slice ad 2 cd) ∧ W.cell? ⟨N, 2, none⟩ = some (.int .u32 50) ∧ W.cell? ⟨N + 1, 0, none⟩ = some v0 ∧ W.cell? ⟨N + 1, 1, none⟩ = some v1) (by kernel_rfl) (⟨kk.old n0 id, kk.old n1 id, kk.old n2 id, kk.old x0 id, kk.old x1 id⟩) (fun hHeld => ?_)
          refine wpAnyH_take (i := 0) (oi := { dst := some 58, op := Op.load 25 (Operand.tmp 3), type := 25, pos := "law.go:198", after := #[], guard := none }) (v := ?y1) rfl (by kernel_rfl) (by kernel_rfl) (by kernel_rfl) (fun _ _ _ h => h) (Or.inl ⟨by rfl, ?x1⟩) (by assumption) ?z1
          case x1 => (intro W hSw; (try dsimp only at hSw); go_simp; try with_reducible rfl)
          try simp only [Act.put, List.setIfInBounds_toArray, List.set_cons_zero, List.set_cons_succ]
          refine wpAnyH_take (i := 1) (oi := { dst := some 59, op := Op.indexAddr 55 (Operand.tmp 4) (Operand.const (Value.int IntKind.i64 0)), type := 0, pos := "law.go:198", after := #[], guard := none }) (v := ?y2) rfl (by kernel_rfl) (by kernel_rfl) (by kernel_rfl) (fun _ _ _ h => h) (Or.inl ⟨by rfl, ?x2⟩) (by assumption) ?z2
          case x2 => (intro W hSw; (try dsimp only at hSw); go_simp; try with_reducible rfl)
          try simp only [Act.put, List.setIfInBounds_toArray, List.set_cons_zero, List.set_cons_succ]
          refine wpAnyH_take (i := 2) (oi := { dst := some 60, op := Op.load 26 (Operand.tmp 59), type := 26, pos := "law.go:198", after := #[{ on := 1, ground := Ground.data }], guard := none }) (v := ?y3) rfl (by kernel_rfl) (by kernel_rfl) (by kernel_rfl) (fun _ _ _ h => h) (Or.inl ⟨by rfl, ?x3⟩) (by assumption) ?z3
          case x3 => (intro W hSw; (try dsimp only at hSw); go_simp; try with_reducible rfl)
          try simp only [Act.put, List.setIfInBounds_toArray, List.set_cons_zero, List.set_cons_succ]
          refine wpAnyH_ready (rs := [3]) (by kernel_rfl) (by simp) ?_
          refine AllReadyH.cons rfl (fun K hK => ?_) AllReadyH.nil
          go_simp
          go_wp2_with (go_at_call 12; refine (HD0.out _ _ _ _ (HR0.out.keep kk (fun _ _ => id) fun _ _ => id)).mono ?_; rintro e w9 ⟨u4, rfl, fo4, hk9⟩; have fs4 := fo4.fs; have kk := kk.trans hk9)
          refine hK.out _ _ (by (first | (exact ⟨n0, n1, n2, x0, x1⟩) | (exact ⟨kk.old n0 id, kk.old n1 id, kk.old n2 id, kk.old x0 id, kk.old x1 id⟩))) (fun hHeld => ?_)
          clear hK K
          refine wpAnyH_ready (rs := [4]) (by kernel_rfl) (by simp) ?_
          refine AllReadyH.cons rfl (fun K hK => ?_) AllReadyH.nil
          go_simp
          go_wp2_with (go_at_call 15; have kt := fs4; clear kt; refine (HC0.out _ (HST.out.f.trans kk) _ _ fs4 (fun b hb => hb.2)).mono ?_; rintro e w10 ⟨rfl, hk10⟩; have kk := kk.trans hk10)
          refine hK.out _ _ (by (first | (exact ⟨n0, n1, n2, x0, x1⟩) | (exact ⟨kk.old n0 id, kk.old n1 id, kk.old n2 id, kk.old x0 id, kk.old x1 id⟩))) (fun hHeld => ?_)
          clear hK K
          refine wpAnyH_take (i := 5) (oi := { dst := some 63, op := Op.field 34 (Operand.tmp 62) 0, type := 3, pos := "law.go:198", after := #[{ on := 4, ground := Ground.data }], guard := none }) (v := ?y4) rfl (by kernel_rfl) (by kernel_rfl) (by kernel_rfl) (fun _ _ _ h => h) (Or.inl ⟨by rfl, ?x4⟩) (by assumption) ?z4
          case x4 => (intro W hSw; (try dsimp only at hSw); go_simp; try with_reducible rfl)
          try simp only [Act.put, List.setIfInBounds_toArray, List.set_cons_zero, List.set_cons_succ]
          refine wpAnyH_take (i := 6) (oi := { dst := some 64, op := Op.binOp BinOp.eql 3 (Operand.tmp 63) (Operand.const (Value.int IntKind.i64 0)) 3, type := 4, pos := "law.go:198", after := #[{ on := 5, ground := Ground.data }], guard := none }) (v := ?y5) rfl (by kernel_rfl) (by kernel_rfl) (by kernel_rfl) (fun _ _ _ h => h) (Or.inl ⟨by rfl, ?x5⟩) (by assumption) ?z5
          case x5 => (intro W hSw; (try dsimp only at hSw); go_simp; try with_reducible rfl)
          try simp only [Act.put, List.setIfInBounds_toArray, List.set_cons_zero, List.set_cons_succ]
          refine wpAnyH_take (i := 7) (oi := { dst := some 65, op := Op.move (Operand.tmp 64), type := 4, pos := "law.go:198", after := #[{ on := 6, ground := Ground.data }, { on := 4, ground := Ground.chain }], guard := none }) (v := ?y6) rfl (by kernel_rfl) (by kernel_rfl) (by kernel_rfl) (fun _ _ _ h => h) (Or.inl ⟨by rfl, ?x6⟩) (by assumption) ?z6
          case x6 => (intro W hSw; (try dsimp only at hSw); go_simp; try with_reducible rfl)
          try simp only [Act.put, List.setIfInBounds_toArray, List.set_cons_zero, List.set_cons_succ]
          refine wpAnyH_take (i := 8) (oi := { dst := some 66, op := Op.load 25 (Operand.tmp 3), type := 25, pos := "law.go:198", after := #[{ on := 7, ground := Ground.guard }], guard := some (7, true) }) (v := undef) rfl (by kernel_rfl) (by kernel_rfl) (by kernel_rfl) (fun _ _ _ h => h) (Or.inr ⟨by rfl, rfl⟩) (by assumption) ?z7
          try simp only [Act.put, List.setIfInBounds_toArray, List.set_cons_zero, List.set_cons_succ]
          refine wpAnyH_take (i := 9) (oi := { dst := some 67, op := Op.indexAddr 55 (Operand.tmp 4) (Operand.const (Value.int IntKind.i64 1)), type := 0, pos := "law.go:198", after := #[{ on := 7, ground := Ground.guard }], guard := some (7, true) }) (v := undef) rfl (by kernel_rfl) (by kernel_rfl) (by kernel_rfl) (fun _ _ _ h => h) (Or.inr ⟨by rfl, rfl⟩) (by assumption) ?z8
          try simp only [Act.put, List.setIfInBounds_toArray, List.set_cons_zero, List.set_cons_succ]
          refine wpAnyH_take (i := 10) (oi := { dst := some 68, op := Op.load 26 (Operand.tmp 67), type := 26, pos := "law.go:198", after := #[{ on := 9, ground := Ground.data }, { on := 7, ground := Ground.guard }], guard := some (7, true) }) (v := undef) rfl (by kernel_rfl) (by kernel_rfl) (by kernel_rfl) (fun _ _ _ h => h) (Or.inr ⟨by rfl, rfl⟩) (by assumption) ?z9
          try simp only [Act.put, List.setIfInBounds_toArray, List.set_cons_zero, List.set_cons_succ]
          refine wpAnyH_take (i := 11) (oi := { dst := some 69, op := Op.call { callee := Callee.value (Operand.func 12), args := #[Operand.tmp 68], argTypes := #[26] }, type := 26, pos := "law.go:198", after := #[{ on := 10, ground := Ground.data }, { on := 7, ground := Ground.chain }, { on := 7, ground := Ground.guard }], guard := some (7, true) }) (v := undef) rfl (by kernel_rfl) (by kernel_rfl) (by kernel_rfl) (fun _ _ _ h => h) (Or.inr ⟨by rfl, rfl⟩) (by assumption) ?z10
          try simp only [Act.put, List.setIfInBounds_toArray, List.set_cons_zero, List.set_cons_succ]
          refine wpAnyH_take (i := 12) (oi := { dst := some 70, op := Op.call { callee := Callee.value (Operand.func 15), args := #[Operand.tmp 66, Operand.tmp 69], argTypes := #[25, 26] }, type := 34, pos := "law.go:198", after := #[{ on := 8, ground := Ground.data }, { on := 11, ground := Ground.data }, { on := 11, ground := Ground.chain }, { on := 7, ground := Ground.guard }], guard := some (7, true) }) (v := undef) rfl (by kernel_rfl) (by kernel_rfl) (by kernel_rfl) (fun _ _ _ h => h) (Or.inr ⟨by rfl, rfl⟩) (by assumption) ?z11
          try simp only [Act.put, List.setIfInBounds_toArray, List.set_cons_zero, List.set_cons_succ]
          refine wpAnyH_take (i := 13) (oi := { dst := some 71, op := Op.field 34 (Operand.tmp 70) 0, type := 3, pos := "law.go:198", after := #[{ on := 12, ground := Ground.data }, { on := 7, ground := Ground.guard }], guard := some (7, true) }) (v := undef) rfl (by kernel_rfl) (by kernel_rfl) (by kernel_rfl) (fun _ _ _ h => h) (Or.inr ⟨by rfl, rfl⟩) (by assumption) ?z12
          try simp only [Act.put, List.setIfInBounds_toArray, List.set_cons_zero, List.set_cons_succ]
          refine wpAnyH_take (i := 14) (oi := { dst := some 72, op := Op.binOp BinOp.eql 3 (Operand.tmp 71) (Operand.const (Value.int IntKind.i64 0)) 3, type := 4, pos := "law.go:198", after := #[{ on := 13, ground := Ground.data }, { on := 7, ground := Ground.guard }], guard := some (7, true) }) (v := undef) rfl (by kernel_rfl) (by kernel_rfl) (by kernel_rfl) (fun _ _ _ h => h) (Or.inr ⟨by rfl, rfl⟩) (by assumption) ?z13
          try simp only [Act.put, List.setIfInBounds_toArray, List.set_cons_zero, List.set_cons_succ]
          refine wpAnyH_take (i := 15) (oi := { dst := some 73, op := Op.pick (Operand.tmp 65) (Operand.tmp 72) (Operand.const (Value.bool false)), type := 4, pos := "law.go:198", after := #[{ on := 7, ground := Ground.data }, { on := 14, ground := Ground.data }], guard := none }) (v := ?y14) rfl (by kernel_rfl) (by kernel_rfl) (by kernel_rfl) (fun _ _ _ h => h) (Or.inl ⟨by rfl, ?x14⟩) (by assumption) ?z14
          case x14 => (intro W hSw; (try dsimp only at hSw); go_simp; try with_reducible rfl)
          try simp only [Act.put, List.setIfInBounds_toArray, List.set_cons_zero, List.set_cons_succ]
          refine wpAnyH_take (i := 16) (oi := { dst := some 6, op := Op.assign (Operand.tmp 73), type := 4, pos := "law.go:198", after := #[{ on := 15, ground := Ground.data }, { on := 12, ground := Ground.chain }, { on := 0, ground := Ground.phase }, { on := 1, ground := Ground.phase }, { on := 2, ground := Ground.phase }, { on := 3, ground := Ground.phase }, { on := 4, ground := Ground.phase }, { on := 5, ground := Ground.phase }, { on := 6, ground := Ground.phase }, { on := 7, ground := Ground.phase }, { on := 8, ground := Ground.phase }, { on := 9, ground := Ground.phase }, { on := 10, ground := Ground.phase }, { on := 11, ground := Ground.phase }, { on := 12, ground := Ground.phase }, { on := 13, ground := Ground.phase }, { on := 14, ground := Ground.phase }, { on := 15, ground := Ground.phase }], guard := none }) (v := ?y15) rfl (by kernel_rfl) (by kernel_rfl) (by kernel_rfl) (fun _ _ _ h => h) (Or.inl ⟨by rfl, ?x15⟩) (by assumption) ?z15
          case x15 => (intro W hSw; (try dsimp only at hSw); go_simp; try with_reducible rfl)
          try simp only [Act.put, List.setIfInBounds_toArray, List.set_cons_zero, List.set_cons_succ]
          refine wpAnyH_done (by kernel_rfl) ?_ _
          go_wp2
          have kk := kk.drew
          go_region_held (fun W => W.cell? ⟨N, 0, none⟩ = some (.slice ah 2 ch) ∧ W.cell? ⟨N, 1, none⟩ = some (.slice ad 2 cd) ∧ W.cell? ⟨N, 2, none⟩ = some (.int .u32 50)) (exact ⟨kk.old n0 id, kk.old n1 id, kk.old n2 id⟩) (first | (go_at_call 15; refine (HC.out _ (HST.out.f.trans kk) _ _ fs6 (fun b hb => hb.2)).mono ?_; rintro e w14 ⟨rfl, hk14⟩; have kk := kk.trans hk14) | (go_at_call 12; refine (HD.out _ _ _ _ (HF.out.keep (HFW.out.trans kk) (fun _ _ => id) fun _ _ => id)).mono ?_; rintro e w13 ⟨u6, rfl, fo6, hk13⟩; have fs6 := fo6.fs; have kk := kk.trans hk13))
          go_wp2
          go_ret
          exact ⟨congrArg (fun b => Ending.returned (.bool b)) (conn_end_f HCC.out hz0), HFW.out.trans kk⟩
  · have l1 : decide ((800 : Int) < facts.length) = true := by simp; omega
    clear hf gf hl
    go_enter Try.func6, Try.ntmps6
    go_wp2_with (go_at_call 7; refine (awake_any _).mono ?_; rintro e w1 ⟨rfl, hk1⟩)
    go_ret
    exact ⟨rfl, hk1⟩
end Go.Proofs.Ytmggfdhlbjlpjaa
