/-
  DERIVED. The walk of GhostNil. (Printed by nil.py.)
-/
import Derived.Test.YtmggfdhlbjlpjaaNilP
import Derived.Deep.RegionHeldLaw
import Derived.Deep.DeepCutAuto
namespace Go.Proofs.Ytmggfdhlbjlpjaa
open Go.RowKit
set_option linter.unusedSimpArgs false
set_option linter.unusedVariables false

set_option maxRecDepth 1000000 in
set_option maxHeartbeats 8000000 in
theorem nil_cons (b2 off2 : Nat) (ca : Nat) (facts : List FactP) (w : World) (hl : facts.length ≤ 300) (hp : 0 < facts.length) (hf : Fs w (fun b => b < w.heap.size) (fun b => b < w.heap.size) (.slice (some ⟨b2, off2, none⟩) facts.length ca) facts) (gf : ∀ f ∈ facts, f.Good) :
    Calls Try.prog 5 #[.slice (some ⟨b2, off2, none⟩) facts.length ca] w fun e w' => e = .returned (.bool true) ∧ Fr No w w' := by
    have l1 : decide ((300 : Int) < facts.length) = false := by simp; omega
    have l2 : decide ((0 : Int) < facts.length) = true := by simp; omega
    obtain ⟨_, b', off', vf0, hla0, hR0, hbs0, hc0⟩ := hf.at_ hp
    cases hla0
    have hvf0 : ∃ av cv, vf0 = .slice av facts[0].data.length cv := let ⟨av, cv, h, _⟩ := hbs0; ⟨av, cv, h⟩
    obtain ⟨av0, cv0, rfl⟩ := hvf0
    obtain ⟨d0, d1, d2, d3, d4, d5, d6, d7⟩ := fact_cells hc0
    simp only [Nat.zero_mul, Nat.add_zero] at d0 d1 d2 d3 d4 d5 d6 d7
    have p0 : (0 : Int) < (facts.length : Int) := by omega
    have HF := Lib.hid hf
    have HGF := Lib.hid gf
    have HL := Lib.hid hl
    clear hf gf hl hbs0 hc0
    go_enter Try.func5, Try.ntmps5
    go_wp2_with (first
      | (go_at_call 7; refine (awake_any _).mono ?_; rintro e w1 ⟨rfl, hk1⟩; have kk := hk1; have d0 := hk1.old d0 id; have d1 := hk1.old d1 id; have d2 := hk1.old d2 id; have d3 := hk1.old d3 id; have d4 := hk1.old d4 id; have d5 := hk1.old d5 id; have d6 := hk1.old d6 id; have d7 := hk1.old d7 id)
      | (go_at_call 11; refine (verdict_nil _).mono ?_; rintro e w2 ⟨rfl, hk2⟩; have kk := kk.trans hk2; have d0 := hk2.old d0 id; have d1 := hk2.old d1 id; have d2 := hk2.old d2 id; have d3 := hk2.old d3 id; have d4 := hk2.old d4 id; have d5 := hk2.old d5 id; have d6 := hk2.old d6 id; have d7 := hk2.old d7 id)
      | (go_at_call 13; refine (see_nil facts[0] _ _ ⟨_, _, rfl⟩).mono ?_; rintro e w3 ⟨rfl, hk3⟩; have kk := kk.trans hk3)
      | (go_at_call 17; refine (lone_any _).mono ?_; rintro e w4 ⟨vh, vd, rfl, ph, pd, hk4⟩; have kk := kk.trans hk4; unfold netV; obtain ⟨ah, ch, _, rfl, _⟩ := id ph; obtain ⟨ad, cd, _, rfl, _⟩ := id pd; have nB := Blk.new w4 #[.slice ah 1 ch, .slice ad 1 cd, .int .u32 50] 25; have kW := kk.alloc (.cells #[.slice ah 1 ch, .slice ad 1 cd, .int .u32 50] 25); have ph := ph.keep ((Fr.refl No w4).alloc (.cells #[.slice ah 1 ch, .slice ad 1 cd, .int .u32 50] 25)) (fun _ _ => id); have pd := pd.keep ((Fr.refl No w4).alloc (.cells #[.slice ah 1 ch, .slice ad 1 cd, .int .u32 50] 25)) (fun _ _ => id))
      | (go_at_call 12; refine (copied_any _ _ _ facts _ (HF.out.keep kW (fun _ _ => id) fun _ _ => id) (by have := HL.out; omega) (fun f hf => by have := (HGF.out f hf).len; omega)).mono ?_; rintro e w6 ⟨vl, rfl, fo, hk6⟩; have nB := hk6.blk nB id; have kk := kW.trans hk6; have t0 : w6.cell? ⟨w4.heap.size, 0, none⟩ = some (.slice ah 1 ch) := nB.cell 0; have t1 : w6.cell? ⟨w4.heap.size, 1, none⟩ = some (.slice ad 1 cd) := nB.cell 1; have t2 : w6.cell? ⟨w4.heap.size, 2, none⟩ = some (.int .u32 50) := nB.cell 2; have tl := nB.lt; have ph := ph.keep hk6 (fun _ _ => id); have pd := pd.keep hk6 (fun _ _ => id))
      | (go_at_call 8; refine (new_any _ _ _ _ [10] [10] 50 _ ph pd ⟨by decide, by decide⟩).mono ?_; rintro e w7 ⟨j, rfl, hj, hk7⟩; have nB := hk7.blk nB id; have kk := kk.trans hk7; have t0 : w7.cell? ⟨w4.heap.size, 0, none⟩ = some (.slice ah 1 ch) := nB.cell 0; have t1 : w7.cell? ⟨w4.heap.size, 1, none⟩ = some (.slice ad 1 cd) := nB.cell 1; have t2 : w7.cell? ⟨w4.heap.size, 2, none⟩ = some (.int .u32 50) := nB.cell 2; have tl := nB.lt; have ph := ph.keep hk7 (fun _ _ => id); have pd := pd.keep hk7 (fun _ _ => id))
      | (go_at_call 10; refine (rnew_any _ _ _ _ [10] [10] 50 _ ph pd ⟨by decide, by decide⟩).mono ?_; rintro e w8 ⟨jr, rfl, hr, hk8⟩; have kk := kk.trans hk8; have hj := hj.grow hk8))
    have z6 := hk6.size
    have z7 := hk7.size
    have z8 := hk8.size
    have hst0 : JSt No w6.heap.size w8.heap.size w8 w8 j jr (JP.new ([10].zip [10])) (JP.new ([10].zip [10])) 0 :=
      ⟨_, _, hj, hr, fun x h1 h2 => by (try dsimp only at h1 h2); omega, fun x hx => ⟨by (try dsimp only at hx); omega, id⟩, Fr.refl _ _⟩
    obtain ⟨g, cap, cur, vs, D, rfl, hcap, hgb, hgB, hcs, hrow, hdat, hinj⟩ := fo
    have hs1 : w4.heap.size < w6.heap.size := Nat.lt_of_lt_of_le (by simp) z6
    have hs0 : w.heap.size ≤ w4.heap.size := by have := kW.size; have := hk1.size; have := hk2.size; have := hk3.size; have := hk4.size; omega
    have hLf : Left w8 (w4.alloc (.cells #[.slice ah 1 ch, .slice ad 1 cd, .int .u32 50] 25)).heap.size w6.heap.size g cur vs D facts 0 :=
      ⟨(hk7.trans hk8).blk hgB id, fun i hi _ => ((hdat i hi).wide (C := fun b => b = D i ∧ _ ≤ b ∧ b < w6.heap.size) fun b hb hlt => ⟨hb.1, hb.2, hlt⟩).keep (hk7.trans hk8) fun _ _ => id⟩
    have hgl : g < w6.heap.size := hgB.lt
    have hbg : w.heap.size ≤ (w4.alloc (.cells #[.slice ah 1 ch, .slice ad 1 cd, .int .u32 50] 25)).heap.size := Nat.le_trans hs0 (by simp)
    have HKK := Lib.hid kk
    have HST0 := Lib.hid hst0
    have HLF := Lib.hid hLf
    have HROW := Lib.hid hrow
    have HINJ := Lib.hid hinj
    have HG := Lib.hid (sees_good lone_net HGF.out)
    have hs1' : w.heap.size ≤ w6.heap.size := Nat.le_trans hs0 (Nat.le_of_lt hs1)
    clear kk hst0 hLf hrow hinj hdat hcs hcap hgB nB t0 t1 t2 tl ph pd hj hr kW hk1 hk2 hk3 hk4 hk6 hk7 hk8 z6 z7 z8 hs1 hs0 d0 d1 d2 d3 d4 d5 d6 d7 p0 hR0
    generalize (w4.alloc (.cells #[.slice ah 1 ch, .slice ad 1 cd, .int .u32 50] 25)).heap.size = base at HLF hgb hbg
    generalize w6.heap.size = s1 at HST0 HLF hgl hs1'
    have HGL := Lib.hid hgl
    have HGB := Lib.hid hgb
    have HBG := Lib.hid hbg
    have HS1 := Lib.hid hs1'
    clear hgl hgb hbg hs1'
    go_loopw [8] (fun vk wr => ∃ k : Nat, k ≤ facts.length ∧ vk = .int .i64 k ∧ (∃ s3 W5, JSt No s1 s3 W5 wr j jr ((JP.new ([10].zip [10])).sees (facts.take k)) ((JP.new ([10].zip [10])).sees (facts.take k)) k) ∧ Left wr base s1 g cur vs D facts k ∧ Fr No w wr) (fun k _ => facts.length - (intOf k).toNat)
    case atStart => exact ⟨0, Nat.zero_le _, rfl, ⟨_, _, HST0.out⟩, HLF.out, HKK.out⟩
    case round =>
      obtain ⟨k, hk, rfl, ⟨s3', W5', hst'⟩, hlf, hfw⟩ := hrel
      have hst := hst'.rebase (Fr.refl No wr) (fun _ h => h.elim)
      have HST := Lib.hid hst
      have HLK := Lib.hid hlf
      have HFW := Lib.hid hfw
      clear hst hst' hlf hfw
      by_cases hlt : k < facts.length
      · have g1 : (k : Int) < (facts.length : Int) := by omega
        have g0 : (0 : Int) ≤ (k : Int) := by omega
        have h300 := HL.out
        have hk4 : k ≤ 4000 := by omega
        have hnk : ¬ (2000 < k) := by omega
        have hki : (0 : Int) ≤ (k : Int) ∧ (k : Int) ≤ 2000 := by omega
        have HKW : Hid (wrap64 ((k : Int) + 1) = (k : Int) + 1) := by show _ = _; unfold wrap64; omega
        have hk1' : k + 1 ≤ facts.length := by omega
        have hms : facts.length - (k + 1) < facts.length - k := by omega
        clear h300
        have hat : ((JP.new ([10].zip [10])).sees (facts.take k)).at_ = k := by rw [JP.sees_at, List.length_take]; show (0 : Int) + _ = _; omega
        have hob := HLK.out.2 k hlt (Nat.le_refl _)
        obtain ⟨av, cv, hvk, hnn, hrr⟩ := id hob
        have hgB := HLK.out.1
        have hrk := HROW.out k hlt
        have c0 : wr.cell? ⟨g, k * 8, none⟩ = some (.int .i64 facts[k].kind) := by rw [hgB.cell]; exact hrk 0 (by omega)
        have c1 : wr.cell? ⟨g, k * 8 + 1, none⟩ = some (.int .i64 facts[k].conn) := by rw [hgB.cell]; exact hrk 1 (by omega)
        have c2 : wr.cell? ⟨g, k * 8 + 2, none⟩ = some (.int .i64 facts[k].side) := by rw [hgB.cell]; exact hrk 2 (by omega)
        have c3 : wr.cell? ⟨g, k * 8 + 3, none⟩ = some (.int .u32 facts[k].session) := by rw [hgB.cell]; exact hrk 3 (by omega)
        have c4 : wr.cell? ⟨g, k * 8 + 4, none⟩ = some (.int .u32 facts[k].number) := by rw [hgB.cell]; exact hrk 4 (by omega)
        have c5 : wr.cell? ⟨g, k * 8 + 5, none⟩ = some (.bool facts[k].on) := by rw [hgB.cell]; exact hrk 5 (by omega)
        have c6 : wr.cell? ⟨g, k * 8 + 6, none⟩ = some (.int .i64 facts[k].code) := by rw [hgB.cell]; exact hrk 6 (by omega)
        have c7 : wr.cell? ⟨g, k * 8 + 7, none⟩ = some (.slice av facts[k].data.length cv) := by rw [hgB.cell, ← hvk]; exact hrk 7 (by omega)
        rw [hvk] at hob
        have HOB := Lib.hid hob
        have hbs : Bs wr (fun x => x < s1) (.slice av facts[k].data.length cv) facts[k].data := hob.bs.wide fun x hx => hx.2.2
        obtain ⟨_, b2', off2', vf2, hla2, hRb2, hbs2, hc2⟩ := (HF.out.keep HFW.out (fun _ _ => id) fun _ _ => id).at_ hlt
        cases hla2
        obtain ⟨d0, d1, d2, d3, d4, d5, d6, d7⟩ := fact_cells hc2
        have hbl := lt_of_cell? c0
        have hbl2 := lt_of_cell? d0
        dsimp only at hbl hbl2
        have hvf2 : ∃ av cv, vf2 = .slice av facts[k].data.length cv := let ⟨av, cv, h, _⟩ := hbs2; ⟨av, cv, h⟩
        obtain ⟨av2, cv2, rfl⟩ := hvf2
        have hgd := HGF.out facts[k] (List.getElem_mem _)
        have hok := (HG.out k).resolve_right hnk
        have hsucc := JP.sees_succ (JP.new ([10].zip [10])) facts k hlt
        generalize hstt : (JP.new ([10].zip [10])).sees (facts.take k) = st at HST hok hat hsucc
        have hbs2' : Bs wr (fun x => x < s1) (.slice av2 facts[k].data.length cv2) facts[k].data := hbs2.wide fun x hx => Nat.lt_of_lt_of_le hx HS1.out
        have HSJ := Lib.hid (fun (b' : JP) (n' : Nat) (W : World) (h : JSt No s1 wr.heap.size wr W j jr st b' n') => JSt.seeJ h (fun x h => h.elim) facts[k] _ 2000 _ (hbs.keep h.f fun x hx e => absurd e.1 (Nat.not_le.2 hx)) (fun x hx => .inl hx) hgd hok (by decide) (by rw [hat]; exact hki))
        have HSR := Lib.hid (fun (a' : JP) (W : World) (h : JSt No s1 wr.heap.size wr W j jr a' st k) => JSt.seeR h (fun x h => h.elim) hk4 facts[k] _ 2000 _ (hbs2'.keep h.f fun x hx e => absurd e.1 (Nat.not_le.2 hx)) (fun x hx => .inl hx) hgd hok (by decide) (by rw [hat]; exact hki))
        have HSU := Lib.hid hsucc
        have hcva : ∀ (W : World), Fr (fun x => s1 ≤ x ∧ x < wr.heap.size) wr W → (convert 41 9 (.slice av facts[k].data.length cv)).run Try.prog W = .ok (.string (strV facts[k].data)) W := fun W kw =>
          let ⟨_, _, h, _, r⟩ := (hbs.keep kw fun x hx e => absurd e.1 (Nat.not_le.2 hx)); by cases h; exact conv_rd r
        have hcvb : ∀ (W : World), Fr (fun x => s1 ≤ x ∧ x < wr.heap.size) wr W → (convert 41 9 (.slice av2 facts[k].data.length cv2)).run Try.prog W = .ok (.string (strV facts[k].data)) W := fun W kw =>
          let ⟨_, _, h, _, r⟩ := (hbs2'.keep kw fun x hx e => absurd e.1 (Nat.not_le.2 hx)); by cases h; exact conv_rd r
        have HCA := Lib.hid hcva
        have HCB := Lib.hid hcvb
        have HND : Hid (facts[k].data.length ≤ 140737488351232) := hgd.len
        have ng : ¬ (s1 ≤ g ∧ g < wr.heap.size) := fun e => absurd e.1 (Nat.not_le.2 HGL.out)
        have nb : ¬ (s1 ≤ b2 ∧ b2 < wr.heap.size) := fun e => absurd e.1 (Nat.not_le.2 (Nat.lt_of_lt_of_le hRb2 HS1.out))
        clear hc2 hbs hbs2 hbs2' hRb2 hgd hok hat hsucc hstt hcva hcvb hob hrr hrk hgB hvk hnn
        generalize hrr : (st.see facts[k]).rule = r at HSJ HSR
        generalize hpp : (st.see facts[k]).rat = p at HSJ HSR
        have HRr := Lib.hid hrr
        have HPp := Lib.hid hpp
        clear hrr hpp
        have hst9 := HST.out.keep ((Fr.refl No wr).drew)
        have kf := hst9.f
        have HSS := Lib.hid hst9
        go_wp2
        go_region_held (fun W => W.cell? ⟨g, k * 8, none⟩ = some (.int .i64 facts[k].kind) ∧ W.cell? ⟨g, k * 8 + 1, none⟩ = some (.int .i64 facts[k].conn) ∧ W.cell? ⟨g, k * 8 + 2, none⟩ = some (.int .i64 facts[k].side) ∧ W.cell? ⟨g, k * 8 + 3, none⟩ = some (.int .u32 facts[k].session) ∧ W.cell? ⟨g, k * 8 + 4, none⟩ = some (.int .u32 facts[k].number) ∧ W.cell? ⟨g, k * 8 + 5, none⟩ = some (.bool facts[k].on) ∧ W.cell? ⟨g, k * 8 + 6, none⟩ = some (.int .i64 facts[k].code) ∧ W.cell? ⟨g, k * 8 + 7, none⟩ = some (.slice av facts[k].data.length cv) ∧ W.cell? ⟨b2, off2 + k * 8, none⟩ = some (.int .i64 facts[k].kind) ∧ W.cell? ⟨b2, off2 + k * 8 + 1, none⟩ = some (.int .i64 facts[k].conn) ∧ W.cell? ⟨b2, off2 + k * 8 + 2, none⟩ = some (.int .i64 facts[k].side) ∧ W.cell? ⟨b2, off2 + k * 8 + 3, none⟩ = some (.int .u32 facts[k].session) ∧ W.cell? ⟨b2, off2 + k * 8 + 4, none⟩ = some (.int .u32 facts[k].number) ∧ W.cell? ⟨b2, off2 + k * 8 + 5, none⟩ = some (.bool facts[k].on) ∧ W.cell? ⟨b2, off2 + k * 8 + 6, none⟩ = some (.int .i64 facts[k].code) ∧ W.cell? ⟨b2, off2 + k * 8 + 7, none⟩ = some (.slice av2 facts[k].data.length cv2)) (exact ⟨kf.old c0 ng, kf.old c1 ng, kf.old c2 ng, kf.old c3 ng, kf.old c4 ng, kf.old c5 ng, kf.old c6 ng, kf.old c7 ng, kf.old d0 nb, kf.old d1 nb, kf.old d2 nb, kf.old d3 nb, kf.old d4 nb, kf.old d5 nb, kf.old d6 nb, kf.old d7 nb⟩) (first | (go_at_call 13; refine (HSJ.out _ _ _ hst9).mono ?_; rintro e w9 ⟨rfl, hst9, _⟩; have kf := hst9.f; have hst13 := hst9) | (go_at_call 14; have k13 := hst13; refine (HSR.out _ _ hst9).mono ?_; rintro e w10 ⟨rfl, hst9, _⟩; have kf := hst9.f))
        have hst11 := hst9.keep ((Fr.refl No w10).drew)
        have kf2 := hst11.f
        have kg := kf.old c7 ng
        have kb := kf.old d7 nb
        have kg2 := kf2.old c7 ng
        have kb2 := kf2.old d7 nb
        have HSA := Lib.hid hst9
        go_wp2
        go_region_held (fun W => W.cell? ⟨g, k * 8 + 7, none⟩ = some (.slice av facts[k].data.length cv) ∧ W.cell? ⟨b2, off2 + k * 8 + 7, none⟩ = some (.slice av2 facts[k].data.length cv2) ∧ (convert 41 9 (.slice av facts[k].data.length cv)).run Try.prog W = .ok (.string (strV facts[k].data)) W ∧ (convert 41 9 (.slice av2 facts[k].data.length cv2)).run Try.prog W = .ok (.string (strV facts[k].data)) W) (exact ⟨kg2, kb2, HCA.out _ kf2, HCB.out _ kf2⟩) (fail)
        have hlf3 := HLK.out.keep kf2 (fun b hb => hb.1) HGL.out
        have hdr3 := DRow.of (HOB.out.keep kf2 fun b hb e => absurd e.1 (Nat.not_le.2 hb.2.2))
        have hfw3 := HFW.out.more kf2 (O' := fun x => s1 ≤ x ∧ x < wr.heap.size) (fun x hx hlt => absurd hx.1 (Nat.not_le.2 (Nat.lt_of_lt_of_le hlt HS1.out)))
        have hpos3 : 0 < facts[k].data.length → base ≤ D k ∧ D k < s1 := fun hp => by
          obtain ⟨_, _, e, _, hr⟩ := HOB.out
          cases e
          obtain ⟨b, _, _, hb, _⟩ := hr hp
          obtain ⟨rfl, h⟩ := hb
          exact h
        have HP3 := Lib.hid hpos3
        have HST3 := Lib.hid hst11
        have HLF3 := Lib.hid hlf3
        have HDR3 := Lib.hid hdr3
        have HFW3 := Lib.hid hfw3
        clear c0 c1 c2 c3 c4 c5 c6 c7 d0 d1 d2 d3 d4 d5 d6 d7 kf kf2 kg kb kb2 hst9 hst11 hlf3 hdr3 hfw3 hpos3
        generalize w10.drew = W3 at HST3 HLF3 HDR3 HFW3 kg2 ⊢
        go_wp2
        go_loopw [78] (fun vx W => ∃ x : Nat, x ≤ facts[k].data.length ∧ vx = .int .i64 x ∧ DRow W (D k) facts[k].data.length av ∧ Fr (fun b => 0 < facts[k].data.length ∧ b = D k) W3 W) (fun x _ => facts[k].data.length - (intOf x).toNat)
        case atStart => exact ⟨0, Nat.zero_le _, rfl, HDR3.out, Fr.refl _ _⟩
        case round =>
          obtain ⟨x, hx, rfl, hdr, hfx⟩ := hrel
          have HFX := Lib.hid hfx
          have HDR := Lib.hid hdr
          have kg3 : wr.cell? ⟨g, k * 8 + 7, none⟩ = some (.slice av facts[k].data.length cv) := by
            refine hfx.old kg2 ?_
            rintro ⟨hp, e⟩
            obtain ⟨_, cu, hB, _⟩ := HDR3.out hp
            exact HLF3.out.1.unlike hB (by decide) e
          clear hfx hdr
          by_cases hlx : x < facts[k].data.length
          · have g4 : (x : Int) < (facts[k].data.length : Int) := by omega
            have g5 : (0 : Int) ≤ (x : Int) := by omega
            have hpos : 0 < facts[k].data.length := by omega
            obtain ⟨hav, cu, hB, hz⟩ := HDR.out hpos
            obtain ⟨z, hzx⟩ := hz x hlx
            have cx : wr.cell? ⟨D k, x, none⟩ = some (.int .u8 z) := by rw [hB.cell]; exact hzx
            have fx := hB.free x
            have hBl := hB.lt
            have hx1 : x + 1 ≤ facts[k].data.length := by omega
            have hms2 : facts[k].data.length - (x + 1) < facts[k].data.length - x := by omega
            have HXW : Hid (wrap64 ((x : Int) + 1) = (x : Int) + 1) := by have := HND.out; show _ = _; unfold wrap64; omega
            have HDS := Lib.hid (fun z' => HDR.out.set x z')
            have HFS := Lib.hid (fun z' => HFX.out.setCell (p := ⟨D k, x, none⟩) (fun _ => ⟨hpos, rfl⟩) z')
            subst hav
            clear hB hz hzx
            go_wp2
            have hxw := HXW.out
            go_roundw
            case rel => exact ⟨x + 1, hx1, congrArg (Value.int .i64) (hxw.trans (Int.natCast_succ x).symm), HDS.out _, HFS.out _⟩
            case measure => exact round_lt2 hxw hms2
          · have g4 : ¬ (x : Int) < (facts[k].data.length : Int) := by omega
            have hkw := HKW.out
            have HREL := Lib.hid (show (∃ s3 W5, JSt No s1 s3 W5 wr j jr ((JP.new ([10].zip [10])).sees (facts.take (k + 1))) ((JP.new ([10].zip [10])).sees (facts.take (k + 1))) (k + 1)) ∧ Left wr base s1 g cur vs D facts (k + 1) ∧ Fr No w wr from
              ⟨⟨_, _, HSU.out ▸ HST3.out.rebase HFX.out (fun y hy => hy.2 ▸ (HP3.out hy.1).2)⟩, HLF3.out.next hlt HINJ.out HFX.out, HFW3.out.more HFX.out (fun y hy hlw => absurd (Nat.le_trans HBG.out (hy.2 ▸ (HP3.out hy.1).1)) (Nat.not_le.2 hlw))⟩)
            go_wp2
            go_roundw
            case rel => exact ⟨k + 1, hk1', congrArg (Value.int .i64) (hkw.trans (Int.natCast_succ k).symm), HREL.out⟩
            case measure => exact round_lt2 hkw hms

      · have g1 : ¬ (k : Int) < (facts.length : Int) := by omega
        obtain ⟨u4, u5⟩ := HST.out.rcells
        have HCV := Lib.hid (fun (W : World) (kw : Fr No wr W) => (HST.out.keep kw).verdict)
        generalize ((JP.new ([10].zip [10])).sees (facts.take k)).rule = r at u4 HCV
        generalize ((JP.new ([10].zip [10])).sees (facts.take k)).rat = p at u5 HCV
        have kx : Fr No wr wr.drew := (Fr.refl No wr).drew
        have hjl := lt_of_cell? u4
        dsimp only at hjl
        go_wp2
        go_region_held (fun W => W.cell? ⟨jr, 4, none⟩ = some (.int .i64 r) ∧ W.cell? ⟨jr, 5, none⟩ = some (.int .i64 p)) (exact ⟨kx.old u4 id, kx.old u5 id⟩) (first | (go_at_call 11; refine (HCV.out _ kx).mono ?_; rintro e w9 ⟨rfl, hk9⟩; have kx := kx.trans hk9))
        go_wp2
        go_ret
        exact ⟨rfl, HFW.out.trans kx⟩

set_option maxRecDepth 1000000 in
set_option maxHeartbeats 8000000 in
theorem nil_nil (a : Option Addr) (ca : Nat) (w : World) (hf : Fs w (fun b => b < w.heap.size) (fun b => b < w.heap.size) (.slice a 0 ca) []) :
    Calls Try.prog 5 #[.slice a 0 ca] w fun e w' => e = .returned (.bool true) ∧ Fr No w w' := by
    have HF := Lib.hid hf
    have HGF : Hid (∀ f ∈ ([] : List FactP), f.Good) := fun f hf => by cases hf
    have HL : Hid (0 ≤ 300) := Nat.zero_le _
    clear hf
    go_enter Try.func5, Try.ntmps5
    go_wp2_with (first
      | (go_at_call 7; refine (awake_any _).mono ?_; rintro e w1 ⟨rfl, hk1⟩; have kk := hk1)
      | (go_at_call 11; refine (verdict_nil _).mono ?_; rintro e w2 ⟨rfl, hk2⟩; have kk := kk.trans hk2)
      | (go_at_call 17; refine (lone_any _).mono ?_; rintro e w4 ⟨vh, vd, rfl, ph, pd, hk4⟩; have kk := kk.trans hk4; unfold netV; obtain ⟨ah, ch, _, rfl, _⟩ := id ph; obtain ⟨ad, cd, _, rfl, _⟩ := id pd; have nB := Blk.new w4 #[.slice ah 1 ch, .slice ad 1 cd, .int .u32 50] 25; have kW := kk.alloc (.cells #[.slice ah 1 ch, .slice ad 1 cd, .int .u32 50] 25); have ph := ph.keep ((Fr.refl No w4).alloc (.cells #[.slice ah 1 ch, .slice ad 1 cd, .int .u32 50] 25)) (fun _ _ => id); have pd := pd.keep ((Fr.refl No w4).alloc (.cells #[.slice ah 1 ch, .slice ad 1 cd, .int .u32 50] 25)) (fun _ _ => id))
      | (go_at_call 12; refine (copied_any _ _ _ ([] : List FactP) _ (HF.out.keep kW (fun _ _ => id) fun _ _ => id) (by have := HL.out; show 0 ≤ _; omega) (fun f hf => by have := (HGF.out f hf).len; omega)).mono ?_; rintro e w6 ⟨vl, rfl, fo, hk6⟩; have nB := hk6.blk nB id; have kk := kW.trans hk6; have t0 : w6.cell? ⟨w4.heap.size, 0, none⟩ = some (.slice ah 1 ch) := nB.cell 0; have t1 : w6.cell? ⟨w4.heap.size, 1, none⟩ = some (.slice ad 1 cd) := nB.cell 1; have t2 : w6.cell? ⟨w4.heap.size, 2, none⟩ = some (.int .u32 50) := nB.cell 2; have tl := nB.lt; have ph := ph.keep hk6 (fun _ _ => id); have pd := pd.keep hk6 (fun _ _ => id))
      | (go_at_call 8; refine (new_any _ _ _ _ [10] [10] 50 _ ph pd ⟨by decide, by decide⟩).mono ?_; rintro e w7 ⟨j, rfl, hj, hk7⟩; have nB := hk7.blk nB id; have kk := kk.trans hk7; have t0 : w7.cell? ⟨w4.heap.size, 0, none⟩ = some (.slice ah 1 ch) := nB.cell 0; have t1 : w7.cell? ⟨w4.heap.size, 1, none⟩ = some (.slice ad 1 cd) := nB.cell 1; have t2 : w7.cell? ⟨w4.heap.size, 2, none⟩ = some (.int .u32 50) := nB.cell 2; have tl := nB.lt; have ph := ph.keep hk7 (fun _ _ => id); have pd := pd.keep hk7 (fun _ _ => id))
      | (go_at_call 10; refine (rnew_any _ _ _ _ [10] [10] 50 _ ph pd ⟨by decide, by decide⟩).mono ?_; rintro e w8 ⟨jr, rfl, hr, hk8⟩; have kk := kk.trans hk8; have hj := hj.grow hk8))
    have z6 := hk6.size
    have z7 := hk7.size
    have z8 := hk8.size
    have hst0 : JSt No w6.heap.size w8.heap.size w8 w8 j jr (JP.new ([10].zip [10])) (JP.new ([10].zip [10])) 0 :=
      ⟨_, _, hj, hr, fun x h1 h2 => by (try dsimp only at h1 h2); omega, fun x hx => ⟨by (try dsimp only at hx); omega, id⟩, Fr.refl _ _⟩
    obtain ⟨g, cap, cur, vs, D, rfl, hcap, hgb, hgB, hcs, hrow, hdat, hinj⟩ := fo
    have hs1 : w4.heap.size < w6.heap.size := Nat.lt_of_lt_of_le (by simp) z6
    have hs0 : w.heap.size ≤ w4.heap.size := by have := kW.size; have := hk1.size; have := hk2.size; have := hk4.size; omega
    have hLf : Left w8 (w4.alloc (.cells #[.slice ah 1 ch, .slice ad 1 cd, .int .u32 50] 25)).heap.size w6.heap.size g cur vs D ([] : List FactP) 0 :=
      ⟨(hk7.trans hk8).blk hgB id, fun i hi _ => ((hdat i hi).wide (C := fun b => b = D i ∧ _ ≤ b ∧ b < w6.heap.size) fun b hb hlt => ⟨hb.1, hb.2, hlt⟩).keep (hk7.trans hk8) fun _ _ => id⟩
    have hgl : g < w6.heap.size := hgB.lt
    have hbg : w.heap.size ≤ (w4.alloc (.cells #[.slice ah 1 ch, .slice ad 1 cd, .int .u32 50] 25)).heap.size := Nat.le_trans hs0 (by simp)
    have HKK := Lib.hid kk
    have HST0 := Lib.hid hst0
    have HLF := Lib.hid hLf
    have HROW := Lib.hid hrow
    have HINJ := Lib.hid hinj
    have HG := Lib.hid (sees_good lone_net HGF.out)
    have hs1' : w.heap.size ≤ w6.heap.size := Nat.le_trans hs0 (Nat.le_of_lt hs1)
    clear kk hst0 hLf hrow hinj hdat hcs hcap hgB nB t0 t1 t2 tl ph pd hj hr kW hk1 hk2 hk4 hk6 hk7 hk8 z6 z7 z8 hs1 hs0
    generalize (w4.alloc (.cells #[.slice ah 1 ch, .slice ad 1 cd, .int .u32 50] 25)).heap.size = base at HLF hgb hbg
    generalize w6.heap.size = s1 at HST0 HLF hgl hs1'
    have HGL := Lib.hid hgl
    have HGB := Lib.hid hgb
    have HBG := Lib.hid hbg
    have HS1 := Lib.hid hs1'
    clear hgl hgb hbg hs1'
    go_loopw [8] (fun vk wr => ∃ k : Nat, k ≤ ([] : List FactP).length ∧ vk = .int .i64 k ∧ (∃ s3 W5, JSt No s1 s3 W5 wr j jr ((JP.new ([10].zip [10])).sees (([] : List FactP).take k)) ((JP.new ([10].zip [10])).sees (([] : List FactP).take k)) k) ∧ Left wr base s1 g cur vs D ([] : List FactP) k ∧ Fr No w wr) (fun k _ => ([] : List FactP).length - (intOf k).toNat)
    case atStart => exact ⟨0, Nat.zero_le _, rfl, ⟨_, _, HST0.out⟩, HLF.out, HKK.out⟩
    case round =>
      obtain ⟨k, hk, rfl, ⟨s3', W5', hst'⟩, hlf, hfw⟩ := hrel
      have hst := hst'.rebase (Fr.refl No wr) (fun _ h => h.elim)
      have HST := Lib.hid hst
      have HLK := Lib.hid hlf
      have HFW := Lib.hid hfw
      clear hst hst' hlf hfw
      by_cases hlt : k < ([] : List FactP).length
      · exact absurd hlt (Nat.not_lt_zero _)
      · have g1 : ¬ (k : Int) < (([] : List FactP).length : Int) := by omega
        obtain ⟨u4, u5⟩ := HST.out.rcells
        have HCV := Lib.hid (fun (W : World) (kw : Fr No wr W) => (HST.out.keep kw).verdict)
        generalize ((JP.new ([10].zip [10])).sees (([] : List FactP).take k)).rule = r at u4 HCV
        generalize ((JP.new ([10].zip [10])).sees (([] : List FactP).take k)).rat = p at u5 HCV
        have kx : Fr No wr wr.drew := (Fr.refl No wr).drew
        have hjl := lt_of_cell? u4
        dsimp only at hjl
        go_wp2
        go_region_held (fun W => W.cell? ⟨jr, 4, none⟩ = some (.int .i64 r) ∧ W.cell? ⟨jr, 5, none⟩ = some (.int .i64 p)) (exact ⟨kx.old u4 id, kx.old u5 id⟩) (first | (go_at_call 11; refine (HCV.out _ kx).mono ?_; rintro e w9 ⟨rfl, hk9⟩; have kx := kx.trans hk9))
        go_wp2
        go_ret
        exact ⟨rfl, HFW.out.trans kx⟩
end Go.Proofs.Ytmggfdhlbjlpjaa
