/-
  DERIVED. The walk of GhostJudges. (Printed by judges.py.)
-/
import Derived.Test.YtmggfdhlbjlpjaaJdgs
import Derived.Deep.RegionHeldLaw
import Derived.Deep.DeepCutAuto
namespace Go.Proofs.Ytmggfdhlbjlpjaa
open Go.RowKit
set_option linter.unusedSimpArgs false
set_option linter.unusedVariables false

theorem round_lt {n k : Nat} {x : Int} (h : x = (k : Int) + 1) (hm : n - (k + 1) < n - k) : n - (intOf (.int .i64 x)).toNat < n - (intOf (.int .i64 (k : Int))).toNat := by
  subst h
  have e : ((k : Int) + 1).toNat = k + 1 := by omega
  show n - ((k : Int) + 1).toNat < n - ((k : Int)).toNat
  rw [e, Int.toNat_natCast]
  exact hm

set_option maxRecDepth 1000000 in
set_option maxHeartbeats 8000000 in
theorem judges_any (vh vd : Value) (wh wd : List Int) (ms : Int) (a : Option Addr) (ca : Nat) (facts : List FactP) (w : World) (hh : Prs w (fun b => b < w.heap.size) vh wh) (hd : Prs w (fun b => b < w.heap.size) vd wd) (hnet : NetOk (wh.zip wd)) (hf : Fs w (fun b => b < w.heap.size) (fun b => b < w.heap.size) (.slice a facts.length ca) facts) (gf : ∀ f ∈ facts, f.Good) (hl72 : facts.length * 72 ≤ 140737488351232) :
    Calls Try.prog 3 #[.agg #[vh, vd, .int .u32 ms], .slice a facts.length ca] w fun e w' => e = .returned (.bool true) ∧ Fr No w w' := by
  obtain ⟨ah, ch, _, rfl, _⟩ := id hh
  obtain ⟨ad, cd, _, rfl, _⟩ := id hd
  have K0 : Fr No w (w.alloc (.cells #[.slice ah wh.length ch, .slice ad wd.length cd, .int .u32 ms] 25)) := (Fr.refl No w).alloc _
  have HK0 := Lib.hid K0
  clear K0
  by_cases hlen : wh.length ≤ 40 ∧ wd.length ≤ 40
  · have q1 : decide ((40 : Int) < wh.length) = false := by simp; omega
    have q2 : decide ((40 : Int) < wd.length) = false := by simp; omega
    have HH := Lib.hid hh
    have HD := Lib.hid hd
    have HLN := Lib.hid hlen
    have HNT := Lib.hid hnet
    have HG := Lib.hid (sees_good hnet gf)
    have HF := Lib.hid hf
    have HGF := Lib.hid gf
    have H72 := Lib.hid hl72
    have B0 := Blk.new w #[.slice ah wh.length ch, .slice ad wd.length cd, .int .u32 ms] 25
    have HB0 := Lib.hid B0
    clear hh hd hnet hf gf hl72 hlen B0
    go_enter Try.func3, Try.ntmps3
    go_wp2_with (first
      | (go_at_call 7; refine (awake_any _).mono ?_; rintro e w1 ⟨rfl, hk1⟩; have kk := HK0.out.trans hk1; have bb := hk1.blk HB0.out id; have t0 : w1.cell? ⟨w.heap.size, 0, none⟩ = some (.slice ah wh.length ch) := bb.cell 0; have t1 : w1.cell? ⟨w.heap.size, 1, none⟩ = some (.slice ad wd.length cd) := bb.cell 1; have t2 : w1.cell? ⟨w.heap.size, 2, none⟩ = some (.int .u32 ms) := bb.cell 2; have tl := bb.lt)
      | (go_at_call 9; refine (ncopy_any _ _ _ wh wd ms _ (HH.out.keep kk fun _ _ => id) (HD.out.keep kk fun _ _ => id) HLN.out).mono ?_; rintro e w2 ⟨bh, bch, bd, bcd, rfl, ph, pd, hk2⟩; have kk := kk.trans hk2; have bb := hk2.blk bb id; have t0 : w2.cell? ⟨w.heap.size, 0, none⟩ = some (.slice ah wh.length ch) := bb.cell 0; have t1 : w2.cell? ⟨w.heap.size, 1, none⟩ = some (.slice ad wd.length cd) := bb.cell 1; have t2 : w2.cell? ⟨w.heap.size, 2, none⟩ = some (.int .u32 ms) := bb.cell 2; have tl := bb.lt; have tl2 := tl)
      | (go_at_call 8; refine (new_any _ _ _ _ wh wd ms _ ph pd HLN.out).mono ?_; rintro e w3 ⟨j, rfl, hj, hk3⟩; have z3 := hk3.size; have kk := kk.trans hk3; have bb := hk3.blk bb id; have t0 : w3.cell? ⟨w.heap.size, 0, none⟩ = some (.slice ah wh.length ch) := bb.cell 0; have t1 : w3.cell? ⟨w.heap.size, 1, none⟩ = some (.slice ad wd.length cd) := bb.cell 1; have t2 : w3.cell? ⟨w.heap.size, 2, none⟩ = some (.int .u32 ms) := bb.cell 2; have tl := bb.lt)
      | (go_at_call 10; refine (rnew_any _ _ _ _ wh wd ms _ (HH.out.keep kk fun _ _ => id) (HD.out.keep kk fun _ _ => id) HLN.out).mono ?_; rintro e w4 ⟨jr, rfl, hr, hk4⟩; have kk := kk.trans hk4; have hj := hj.grow hk4; have bb := hk4.blk bb id; have z4 := hk4.size)
      | (go_at_call 11; refine (verdict_any _ j _ _ hj).mono ?_; rintro e w5 ⟨rfl, hk5⟩; have kk := kk.trans hk5; have hj := hj.grow hk5; have hr := hr.grow hk5; have bb := hk5.blk bb id; have z5 := hk5.size; simp only [JP.new])
      | (go_at_call 12; refine (copied_any _ _ _ facts _ (HF.out.keep kk (fun _ _ => id) fun _ _ => id) (by have := H72.out; omega) (fun f hf => by have := (HGF.out f hf).len; omega)).mono ?_; rintro e w6 ⟨vl, rfl, fo, hk6⟩; have kk := kk.trans hk6; have hj := hj.grow hk6; have hr := hr.grow hk6; have bb := hk6.blk bb id; have z6 := hk6.size; obtain ⟨la, lc, hvl, hlc⟩ := fo.fs.shape; subst hvl))
    have hst0 : JSt No w2.heap.size w5.heap.size w6 w6 j jr (JP.new (wh.zip wd)) (JP.new (wh.zip wd)) 0 :=
      ⟨_, _, hj, hr, fun x h1 h2 => by (try dsimp only at h1 h2); omega, fun x hx => ⟨by (try dsimp only at hx); omega, id⟩, Fr.refl _ _⟩
    have hs3 : w5.heap.size ≤ w6.heap.size := z6
    have hs1 : w.heap.size < w2.heap.size := tl2
    have hb6 := bb
    have HKK := Lib.hid kk
    have HLF := Lib.hid fo.fs
    have HFW := Lib.hid (HF.out.keep kk (fun _ _ => id) fun _ _ => id)
    have HST0 := Lib.hid hst0
    have HBB := Lib.hid hb6
    clear kk bb t0 t1 t2 tl tl2 hj hr fo ph pd hk1 hk2 hk3 hk4 hk5 hk6 z3 z4 z5 z6 hst0 hb6
    generalize w5.heap.size = s3 at HLF hs3 HST0
    generalize w2.heap.size = s1 at hs1 HST0
    have HS1 := Lib.hid hs1
    have HS3 := Lib.hid hs3
    go_loopw [8] (fun vk wr => ∃ k : Nat, k ≤ facts.length ∧ k ≤ 1000 ∧ vk = .int .i64 k ∧ JSt No s1 s3 w6 wr j jr ((JP.new (wh.zip wd)).sees (facts.take k)) ((JP.new (wh.zip wd)).sees (facts.take k)) k) (fun k _ => facts.length - (intOf k).toNat)
    case atStart => exact ⟨0, Nat.zero_le _, Nat.zero_le _, rfl, HST0.out⟩
    case round =>
      obtain ⟨k, hk, hk1, rfl, hst⟩ := hrel
      have HST := Lib.hid hst
      clear hst
      have hnk : ¬ (2000 < k) := by omega
      have hk4 : k ≤ 4000 := by omega
      have hki : (0 : Int) ≤ (k : Int) ∧ (k : Int) ≤ 2000 := by omega
      by_cases hlt : k < facts.length
      · have g1 : (k : Int) < (facts.length : Int) := by omega
        have g0 : (0 : Int) ≤ (k : Int) := by omega
        by_cases hk2 : k < 1000
        · have g2 : (k : Int) < (1000 : Int) := by omega
          have HKW : Hid (wrap64 ((k : Int) + 1) = (k : Int) + 1) := by show _ = _; unfold wrap64; omega
          have hk1' : k + 1 ≤ facts.length := by omega
          have hk2' : k + 1 ≤ 1000 := by omega
          have hms : facts.length - (k + 1) < facts.length - k := by omega
          have hat : ((JP.new (wh.zip wd)).sees (facts.take k)).at_ = k := by rw [JP.sees_at, List.length_take]; show (0 : Int) + _ = _; omega
          obtain ⟨_, b, off, vf, hla, hRb, hbs, hc⟩ := (HLF.out.keep HST.out.f (fun x hx h => by omega) fun x hx h => by omega).at_ hlt
          subst hla
          obtain ⟨c0, c1, c2, c3, c4, c5, c6, c7⟩ := fact_cells hc
          obtain ⟨_, b2, off2, vf2, hla2, hRb2, hbs2, hc2⟩ := HFW.out.at_ hlt
          subst hla2
          obtain ⟨d0, d1, d2, d3, d4, d5, d6, d7⟩ := fact_cells hc2
          have hbl := lt_of_cell? c0
          have hbl2 := lt_of_cell? d0
          dsimp only at hbl hbl2
          have hvf : ∃ av cv, vf = .slice av facts[k].data.length cv := let ⟨av, cv, h, _⟩ := hbs; ⟨av, cv, h⟩
          obtain ⟨av, cv, rfl⟩ := hvf
          have hvf2 : ∃ av cv, vf2 = .slice av facts[k].data.length cv := let ⟨av, cv, h, _⟩ := hbs2; ⟨av, cv, h⟩
          obtain ⟨av2, cv2, rfl⟩ := hvf2
          have hgd := HGF.out facts[k] (List.getElem_mem _)
          have hok := (HG.out k).resolve_right hnk
          have hsucc := JP.sees_succ (JP.new (wh.zip wd)) facts k hlt
          generalize hstt : (JP.new (wh.zip wd)).sees (facts.take k) = st at HST hok hat hsucc
          have HSJ := Lib.hid (JSt.seeJ HST.out (fun x h => h.elim) facts[k] _ 2000 _ hbs (fun x hx => .inr hx) hgd hok (by decide) (by rw [hat]; exact hki))
          have HSR := Lib.hid (fun (a' : JP) (X : Nat → Prop) (W : World) (h : JSt X s1 s3 w6 W j jr a' st k) (hX : ∀ x, X x → x < W.heap.size) => JSt.seeR h hX hk4 facts[k] _ 2000 _ (hbs2.keep h.f fun x hx e => absurd (Nat.lt_trans hx HS1.out) (Nat.not_lt.2 e.1)) (fun x hx => .inl (Nat.lt_trans hx HS1.out)) hgd hok (by decide) (by rw [hat]; exact hki))
          have HSU := Lib.hid hsucc
          have HRB2 : Hid (b2 < w.heap.size) := hRb2
          clear hc hc2 hbs hbs2 hRb hRb2 hgd hok hat hsucc hstt
          go_wp2_with (go_at_call 13; refine HSJ.out.mono ?_; rintro e w7 ⟨rfl, hst7, _⟩)
          generalize hrr : (st.see facts[k]).rule = r at HSR ⊢
          generalize hpp : (st.see facts[k]).rat = p at HSR ⊢
          have HRr := Lib.hid hrr
          have HPp := Lib.hid hpp
          clear hrr hpp
          have hst8 := hst7.fresh (.cells #[.int .i64 r, .int .i64 p] 34)
          have vB := Blk.new w7 #[.int .i64 r, .int .i64 p] 34
          generalize w7.alloc (.cells #[.int .i64 r, .int .i64 p] 34) = W8 at hst8 vB ⊢
          generalize w7.heap.size = V at hst8 vB ⊢
          have v0 : W8.cell? ⟨V, 0, none⟩ = some (.int .i64 r) := vB.cell 0
          have v1 : W8.cell? ⟨V, 1, none⟩ = some (.int .i64 p) := vB.cell 1
          have hVl := vB.lt
          have kv : Fr (fun x => ¬ x = V) W8 W8.drew := (Fr.refl _ W8).drew
          have hst9 := hst8.keep ((Fr.refl No W8).drew)
          have kf := hst9.f
          have nV : ¬ ¬ V = V := fun h => h rfl
          have nb : ¬ (s1 ≤ b2 ∧ b2 < s3) := fun e => absurd (Nat.lt_trans HRB2.out HS1.out) (Nat.not_lt.2 e.1)
          have HV : Hid (∀ x, x = V → x < W8.drew.heap.size) := by rintro x rfl; exact hVl
          clear c0 c1 c2 c3 c4 c5 c6 c7 hst7 hst8 vB
          go_region_held (fun W => W.cell? ⟨V, 0, none⟩ = some (.int .i64 r) ∧ W.cell? ⟨V, 1, none⟩ = some (.int .i64 p) ∧ W.cell? ⟨b2, off2 + k * 8, none⟩ = some (.int .i64 facts[k].kind) ∧ W.cell? ⟨b2, off2 + k * 8 + 1, none⟩ = some (.int .i64 facts[k].conn) ∧ W.cell? ⟨b2, off2 + k * 8 + 2, none⟩ = some (.int .i64 facts[k].side) ∧ W.cell? ⟨b2, off2 + k * 8 + 3, none⟩ = some (.int .u32 facts[k].session) ∧ W.cell? ⟨b2, off2 + k * 8 + 4, none⟩ = some (.int .u32 facts[k].number) ∧ W.cell? ⟨b2, off2 + k * 8 + 5, none⟩ = some (.bool facts[k].on) ∧ W.cell? ⟨b2, off2 + k * 8 + 6, none⟩ = some (.int .i64 facts[k].code) ∧ W.cell? ⟨b2, off2 + k * 8 + 7, none⟩ = some (.slice av2 facts[k].data.length cv2)) (exact ⟨kv.old v0 (fun h => h rfl), kv.old v1 (fun h => h rfl), kf.old d0 nb, kf.old d1 nb, kf.old d2 nb, kf.old d3 nb, kf.old d4 nb, kf.old d5 nb, kf.old d6 nb, kf.old d7 nb⟩) (first | (go_at_call 11; refine (JSt.verdict hst10).mono ?_; rintro e w10 ⟨rfl, hk10⟩; rw [HRr.out, HPp.out]; have kv := kv.trans (hk10.no _); have hst9 := hst10.keep hk10; have kf := hst9.f) | (go_at_call 14; refine (HSR.out _ _ _ hst9 HV.out).mono ?_; rintro e w9 ⟨rfl, hst10, kv9⟩; have kv := kv.trans kv9; have kf := hst10.f))
          have hkw := HKW.out
          go_wp2
          go_roundw
          case rel => exact ⟨k + 1, hk1', hk2', congrArg (Value.int .i64) (hkw.trans (Int.natCast_succ k).symm), HSU.out ▸ hst9.drop⟩
          case measure => exact round_lt hkw hms
        · have g2 : ¬ (k : Int) < (1000 : Int) := by omega
          have g3 : decide ((1000 : Int) < facts.length) = true := by simp; omega
          go_wp2
          go_ret
          exact ⟨rfl, HKK.out.more HST.out.f (fun x hx hlt => by have := HS1.out; omega)⟩
      · have g1 : ¬ (k : Int) < (facts.length : Int) := by omega
        have g3 : decide ((1000 : Int) < facts.length) = false := by simp; omega
        have hkl : k = facts.length := by omega
        rw [hkl, List.take_length] at HST
        have hb := HST.out.f.blk HBB.out (by omega)
        have t0 : wr.cell? ⟨w.heap.size, 0, none⟩ = some (.slice ah wh.length ch) := hb.cell 0
        have t1 : wr.cell? ⟨w.heap.size, 1, none⟩ = some (.slice ad wd.length cd) := hb.cell 1
        have t2 : wr.cell? ⟨w.heap.size, 2, none⟩ = some (.int .u32 ms) := hb.cell 2
        obtain ⟨u4, u5⟩ := HST.out.rcells
        have HCK := Lib.hid (fun (W : World) (kw : Fr No wr W) => check_any _ _ _ _ _ _ _ wh wd ms facts W ((HH.out.keep HKK.out fun _ _ => id).keep (HST.out.f.trans (kw.no _)) fun x hx e => by have := HS1.out; (try dsimp only at hx e); omega) ((HD.out.keep HKK.out fun _ _ => id).keep (HST.out.f.trans (kw.no _)) fun x hx e => by have := HS1.out; (try dsimp only at hx e); omega) HLN.out HNT.out (HLF.out.keep (HST.out.f.trans (kw.no _)) (fun x hx e => by omega) fun x hx e => by omega) HGF.out (by omega) (fun x hx => by have := HST.out.f.size; have := kw.size; (try dsimp only at hx); omega) (fun x hx => by have := HST.out.f.size; have := kw.size; (try dsimp only at hx); omega))
        have HCE : Hid (check (wh.zip wd) facts = (((JP.new (wh.zip wd)).sees facts).rule, ((JP.new (wh.zip wd)).sees facts).rat)) := rfl
        rw [HCE.out] at HCK
        dsimp only at HCK
        generalize ((JP.new (wh.zip wd)).sees facts).rule = r at u4 HCK
        generalize ((JP.new (wh.zip wd)).sees facts).rat = p at u5 HCK
        have kx : Fr No wr wr.drew := (Fr.refl No wr).drew
        have HFF := Lib.hid (HKK.out.more HST.out.f (O' := fun x => s1 ≤ x ∧ x < s3) (fun x hx hlt => by have := HS1.out; omega))
        have hjl := lt_of_cell? u4
        dsimp only at hjl
        clear hb
        go_wp2
        go_region_held (fun W => W.cell? ⟨w.heap.size, 0, none⟩ = some (.slice ah wh.length ch) ∧ W.cell? ⟨w.heap.size, 1, none⟩ = some (.slice ad wd.length cd) ∧ W.cell? ⟨w.heap.size, 2, none⟩ = some (.int .u32 ms) ∧ W.cell? ⟨jr, 4, none⟩ = some (.int .i64 r) ∧ W.cell? ⟨jr, 5, none⟩ = some (.int .i64 p)) (exact ⟨kx.old t0 id, kx.old t1 id, kx.old t2 id, kx.old u4 id, kx.old u5 id⟩) (first | (go_at_call 15; refine (HCK.out _ kx).mono ?_; rintro e w9 ⟨rfl, hk9⟩; have kx := kx.trans hk9))
        go_wp2
        go_ret
        exact ⟨rfl, HFF.out.trans kx⟩
  · have q1 : decide ((40 : Int) < wh.length) = true ∨ (decide ((40 : Int) < wh.length) = false ∧ decide ((40 : Int) < wd.length) = true) := by
      by_cases h : wh.length ≤ 40
      · exact .inr ⟨by simp; omega, by simp; omega⟩
      · exact .inl (by simp; omega)
    have B0 := Blk.new w #[.slice ah wh.length ch, .slice ad wd.length cd, .int .u32 ms] 25
    have HB0 := Lib.hid B0
    clear hh hd hnet hf gf hl72 hlen B0
    rcases q1 with q1 | ⟨q1, q2⟩
    · go_enter Try.func3, Try.ntmps3
      go_wp2_with (go_at_call 7; refine (awake_any _).mono ?_; rintro e w1 ⟨rfl, hk1⟩; have kk := HK0.out.trans hk1; have bb := hk1.blk HB0.out id; have t0 : w1.cell? ⟨w.heap.size, 0, none⟩ = some (.slice ah wh.length ch) := bb.cell 0; have t1 : w1.cell? ⟨w.heap.size, 1, none⟩ = some (.slice ad wd.length cd) := bb.cell 1)
      go_ret
      exact ⟨rfl, kk⟩
    · go_enter Try.func3, Try.ntmps3
      go_wp2_with (go_at_call 7; refine (awake_any _).mono ?_; rintro e w1 ⟨rfl, hk1⟩; have kk := HK0.out.trans hk1; have bb := hk1.blk HB0.out id; have t0 : w1.cell? ⟨w.heap.size, 0, none⟩ = some (.slice ah wh.length ch) := bb.cell 0; have t1 : w1.cell? ⟨w.heap.size, 1, none⟩ = some (.slice ad wd.length cd) := bb.cell 1)
      go_ret
      exact ⟨rfl, kk⟩
end Go.Proofs.Ytmggfdhlbjlpjaa
