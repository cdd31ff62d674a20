/-
  DERIVED. The walk of CellPlays: the loop. (Printed by cplays.py.)
-/
import Derived.Test.YtcmhalmmaodmhaaCPlays
namespace Go.Proofs.Ytcmhalmmaodmhaa
open Go.RowKit
set_option linter.unusedSimpArgs false
set_option linter.unusedVariables false

set_option maxRecDepth 1000000 in
theorem cplays_big (ab : Option Addr) (lb cb : Nat) (xs : List Int) (mx : Int) (as_ : Option Addr) (ls cs : Nat) (w : World) (hxl : xs.length = lb) (hcap : lb ≤ 140737488351232) (hbl : 4096 < lb)
    (hx : 0 < lb → ∃ x, ab = some x ∧ ∀ i, i < xs.length → w.cell? (x.add i) = some (.int .u8 (xs.getD i 0))) :
    Calls Try.prog 11 #[.slice ab lb cb, .int .u32 mx, .slice as_ ls cs] w fun e w' => e = .returned (.bool true) ∧ Chg [] w w' := by
  have HX : Hid _ := hx
  have HC : Hid _ := hcap
  clear hx hcap
  go_enter Try.func11, Try.ntmps11
  go_wp2_with (first | (go_at_call 30; refine (awake8_any _).mono ?_; rintro e w1 ⟨rfl, g1⟩; have hbe := Blk.new w1 #[] 5; have ge := g1.alloc (.cells #[] 5); have hxe : Hid (0 < lb → ∃ x, ab = some x ∧ ∀ i, i < xs.length → (w1.alloc (.cells #[] 5)).cell? (x.add i) = some (.int .u8 (xs.getD i 0))) := fun h0 => let ⟨x, hx, hcell⟩ := HX.out h0; ⟨x, hx, fun i hi => cell_kept _ (keep_cell g1 (hcell i hi))⟩) | (at_builtin; have _t := hbe; refine wpList_bytes rfl _ _ rfl w1.heap.size rfl hbe ab lb cb rfl xs hxl HC.out hxe.out ?_; clear hbe; intro cap4 w4 q4 hb4 hq4 hql4 k4; have g4 := ge.more k4 (by have := g1.size; simp; omega)) | (go_at_call 14; refine (load_bad _ lb cap4 _ hbl).mono ?_; rintro e w' ⟨rfl, rfl⟩) | (go_at_call 27; refine (rload_bad ab lb cb _ hbl).mono ?_; rintro e w' ⟨rfl, rfl⟩))
  go_ret
  exact ⟨rfl, g4⟩

set_option maxRecDepth 1000000 in
set_option maxHeartbeats 4000000 in
theorem cplays_ok (ab : Option Addr) (lb cb : Nat) (xs : List Int) (mx : Int) (as_ : Option Addr) (ls cs : Nat) (ks ns : Nat → Int) (w : World) (hxl : xs.length = lb) (hbl : lb ≤ 4096) (hxb : ∀ x ∈ xs, 0 ≤ x ∧ x ≤ 255) (hmx : mx ≤ 4294967295)
    (hx : 0 < lb → ∃ x, ab = some x ∧ ∀ i, i < xs.length → w.cell? (x.add i) = some (.int .u8 (xs.getD i 0)))
    (hs : 0 < ls → ∃ b off, as_ = some ⟨b, off, none⟩ ∧ ∀ i, i < ls → w.cell? ⟨b, off + i * 2, none⟩ = some (.int .i64 (ks i)) ∧ w.cell? ⟨b, off + i * 2 + 1, none⟩ = some (.int .i64 (ns i)) ∧ ns i ≤ 9223372036854775807) :
    Calls Try.prog 11 #[.slice ab lb cb, .int .u32 mx, .slice as_ ls cs] w fun e w' => e = .returned (.bool true) ∧ Chg [] w w' := by
  have HX : Hid _ := hx
  have HS : Hid _ := hs
  have HM : Hid (mx ≤ 4294967295) := hmx
  have HC : Hid (lb ≤ 140737488351232) := by show _ ≤ _; omega
  clear hx hs hmx
  go_enter Try.func11, Try.ntmps11
  go_wp2_with (first | (go_at_call 30; refine (awake8_any _).mono ?_; rintro e w1 ⟨rfl, g1⟩; have hbe := Blk.new w1 #[] 5; have ge := g1.alloc (.cells #[] 5); have hxe : Hid (0 < lb → ∃ x, ab = some x ∧ ∀ i, i < xs.length → (w1.alloc (.cells #[] 5)).cell? (x.add i) = some (.int .u8 (xs.getD i 0))) := fun h0 => let ⟨x, hx, hcell⟩ := HX.out h0; ⟨x, hx, fun i hi => cell_kept _ (keep_cell g1 (hcell i hi))⟩) | (at_builtin; have _t := hbe; refine wpList_bytes rfl _ _ rfl w1.heap.size rfl hbe ab lb cb rfl xs hxl HC.out hxe.out ?_; clear hbe; intro cap4 w4 q4 hb4 hq4 hql4 k4; have g4 := ge.more k4 (by have := g1.size; simp; omega)) | (go_at_call 14; refine (loadm _ lb cap4 xs _ hxl hbl (bs_src hxl hb4)).mono ?_; rintro e w5 ⟨p, q, rfl, m5, n5, k5⟩; have g5 := g4.trans k5) | (go_at_call 27; refine (loadr ab lb cb xs _ hxl hbl (fun h0 => let ⟨x, hx, hcell⟩ := HX.out h0; ⟨x, hx, fun i hi => keep_cell g5 (hcell i hi)⟩)).mono ?_; rintro e w6 ⟨p', q', rfl, r6, n6, k6⟩; have g6 := g5.trans k6; have m6 := m5.keep k6 (by simp) (by simp); have PL : Hid ((w.heap.size ≤ p ∧ w.heap.size ≤ q ∧ w.heap.size ≤ p' ∧ w.heap.size ≤ q' ∧ p < w6.heap.size ∧ q < w6.heap.size ∧ p' < w6.heap.size ∧ q' < w6.heap.size) ∧ (p ≠ p' ∧ p ≠ q' ∧ q ≠ p' ∧ q ≠ q')) := (by obtain ⟨a1, a2, a3, a4⟩ := n5; obtain ⟨b1, b2, b3, b4⟩ := n6; have z6 := k6.size; have z5 := g4.size; have z4 := g5.size; show _ ∧ _; omega)) | (go_at_call 32; refine (open32 w6.heap.size p q (MS.fresh xs) mx _ m6 (by have := PL.out; omega) (Nat.le_refl _) (ok_le (fresh_ok (by omega)) (by omega)) (bytes_of hxb)).mono ?_; rintro e w7 ⟨x, rfl, oc7, m7, k7⟩; have g7 := g6.more k7 (by have := PL.out; simp; omega); have r7 := r6.keep k7 (by have := PL.out; simp; omega) (by have := PL.out; simp; omega)) | (go_at_call 34; refine (open34 w6.heap.size p' q' (MS.fresh xs) mx _ r7 (by have := PL.out; omega) (by have := k7.size; omega) (ok_le (fresh_ok (by omega)) (by omega)) (bytes_of hxb)).mono ?_; rintro e w8 ⟨y, rfl, od8, r8, k8⟩; have g8 := g7.more k8 (by have := PL.out; simp; omega); have m8 := m7.keep k8 (by have := PL.out; simp; omega) (by have := PL.out; simp; omega); have oc8 := oc7.keep k8 (by have := PL.out; simp; omega)))
  have s8 : w6.heap.size ≤ w8.heap.size := by have := k7.size; have := k8.size; omega
  have F0 : Fit (MS.fresh xs) lb 0 := ⟨hxl, bytes_of hxb, fresh_ok (by omega)⟩
  have i8 : Inv w8 p q p' q' w6.heap.size lb mx 6 (openR (MS.fresh xs) mx).1 x y := ⟨m8, r8, (F0.open (mx := mx)).1.le (by omega), pr_of oc8 od8 F0.bytes (F0.open (mx := mx)).2⟩
  clear k5 n5 n6 hxe ge g1 hq4 hql4 HX g4 k4 hb4 g5 k6 g6 m5 m6 r6 oc7 m7 k7 g7 r7 od8 r8 k8 m8 oc8 F0
  go_loopw [8, 10, 11, 12, 13] (fun ve vf vx vy vi wr => ∃ (i : Nat) (e : Int) (s : MS), i ≤ ls ∧ i ≤ 200 ∧ vi = .int .i64 i ∧ ve = .int .i64 e ∧ vf = .int .i64 e ∧ Inv wr p q p' q' w6.heap.size lb mx (6 * i + 6) s vx vy ∧ Chg [] w wr ∧ w6.heap.size ≤ wr.heap.size) (fun _ _ _ _ i _ => ls - (intOf i).toNat)
  case atStart => exact ⟨0, _, _, Nat.zero_le _, Nat.zero_le _, rfl, rfl, rfl, by simpa using i8, g8, s8⟩
  case round =>
    obtain ⟨i, e, s, hi1, hi2, rfl, rfl, rfl, hin, hg, hsz⟩ := hrel
    clear i8 g8 s8
    have hm := hin.m
    have hr := hin.r
    have hp := hin.pr
    have HF : Hid (Fit s lb (6 * i + 6)) := hin.fit
    have hlen : s.B.length ≤ 4096 := hin.fit.ok.len
    clear hin
    obtain ⟨a, cap, c0, c1, c2, c3, c4, hf, hb, hl, hrow⟩ := hr.cells
    have hbs : Bs wr (.slice a s.B.length cap) q' s.B := ⟨a, cap, rfl, hl, fun h0 => ⟨(hrow h0).1, (hrow h0).2.1⟩⟩
    have K : ∀ W, Chg [] wr W → W.cell? ⟨p', 0, none⟩ = some (.slice a s.B.length cap) ∧ W.cell? ⟨p', 1, none⟩ = some (.bool s.off) ∧ W.cell? ⟨p', 4, none⟩ = some (.int .i64 s.writes) ∧
        (convert 22 9 (.slice a s.B.length cap)).run Try.prog W = .ok (.string (mkStr s.B)) W ∧ IsMem W p q s ∧ Chg [] wr W :=
      fun W k => ⟨k.old c0 (by simp), k.old c1 (by simp), k.old c4 (by simp), conv_run (hbs.keep k (by simp)), hm.keep k (by simp) (by simp), k⟩
    have HK : Hid _ := K
    have HR : Hid (IsRef wr p' q' s) := hr
    have HP : Hid _ := hp
    clear hb hrow K hbs c0 c1 c2 c3 c4 hf hr
    rcases hp with _ | ⟨c, d, vv, dead, hc, hd, hcl, hdl, hv, hN⟩
    · go_wp2
      go_region_held (fun W => W.cell? ⟨p', 0, none⟩ = some (.slice a s.B.length cap) ∧ W.cell? ⟨p', 1, none⟩ = some (.bool s.off) ∧ W.cell? ⟨p', 4, none⟩ = some (.int .i64 s.writes) ∧
          (convert 22 9 (.slice a s.B.length cap)).run Try.prog W = .ok (.string (mkStr s.B)) W ∧ IsMem W p q s ∧ Chg [] wr W)
        (first | assumption | exact HK.out _ (Chg.refl [] wr).drew | (refine HK.out _ ?_; assumption) | (refine HK.out _ (Chg.trans ?_ k); assumption))
        ((first | (go_at_call 16; refine (bytes_any p q s _ ?_ hlen).mono ?_; simp only [*]; rintro e w2 ⟨vb, rfl, ⟨r, hb2, hr2⟩, k⟩; have cv1 := conv_run hb2; have k2 : Chg [] wr w2 := by { refine Chg.trans ?_ k; simp only [*] }) | (go_at_call 20; refine (off_any p q s _ ?_).mono ?_; simp only [*]; rintro e w' ⟨rfl, rfl⟩) | (go_at_call 22; refine (writes_any p q s _ ?_).mono ?_; simp only [*]; rintro e w' ⟨rfl, rfl⟩)))
      have hk9 : Chg [] wr w2 := by assumption
      have m9 := hm.keep hk9 (by simp) (by simp)
      have r9 := HR.out.keep hk9 (by simp) (by simp)
      have p9 := HP.out.keep hk9 (by simp)
      have g9 := hg.trans hk9
      have z9 := hk9.size
      clear hm hg
      clear HK HR HP
      go_wp2
      go_quiet (fail)
      have p3 : Pr (w2.drewN nq) p p' w6.heap.size lb mx (.pointer none) (.pointer none) := .no
      have m3 : IsMem (w2.drewN nq) p q s := m9.keep ((Chg.refl [] w2).drewN nq) (by simp) (by simp)
      have r3 : IsRef (w2.drewN nq) p' q' s := r9.keep ((Chg.refl [] w2).drewN nq) (by simp) (by simp)
      have g3 : Chg [] w (w2.drewN nq) := g9.drewN nq
      have z3 : wr.heap.size ≤ (w2.drewN nq).heap.size := z9
      clear hk9 m9 r9 p9 g9 z9
      generalize w2.drewN nq = w3 at m3 r3 g3 z3 p3 ⊢
      have HI : Hid (6 * (i : Int) + 6 ≤ 1206) := by show _ ≤ _; omega
      by_cases hlt : i < ls ∧ i < 200
      · have h1 : (i : Int) < (ls : Int) := by omega
        have h2 : (i : Int) < 200 := by omega
        have h3 : decide ((ls : Int) ≤ (i : Int)) = false := by simp; omega
        have h4 : decide ((200 : Int) ≤ (i : Int)) = false := by simp; omega
        obtain ⟨b, off, rfl, hcell⟩ := HS.out (by omega)
        obtain ⟨f1, f2, f3⟩ := hcell i (by omega)
        have hbl0 := lt_of_cell? f1
        replace f1 := g3.old f1 (by simp)
        replace f2 := g3.old f2 (by simp)
        have HN : Hid (ns i ≤ 9223372036854775807) := f3
        clear hcell f3
        generalize ks i = kd at f1
        generalize ns i = nd at f2 HN
        by_cases k1 : kd = 1
        · subst k1
          go_wp2_with (first | (go_at_call 32; refine (open32 w6.heap.size p q s mx _ m3 (by have := PL.out; omega) (by omega) (ok_le HF.out.ok (by have := HI.out; omega)) HF.out.bytes).mono ?_; rintro e w4 ⟨x4, rfl, oc4, m4, k4⟩; have g4 := g3.more k4 (by have := PL.out; simp; omega); have r4 := r3.keep k4 (by have := PL.out; simp; omega) (by have := PL.out; simp; omega); have z4 := k4.size) | (go_at_call 34; refine (open34 w6.heap.size p' q' s mx _ r4 (by have := PL.out; omega) (by omega) (ok_le HF.out.ok (by have := HI.out; omega)) HF.out.bytes).mono ?_; rintro e w5' ⟨y4, rfl, od5, r5, k5⟩; have g5 := g4.more k5 (by have := PL.out; simp; omega); have m5 := m4.keep k5 (by have := PL.out; simp; omega) (by have := PL.out; simp; omega); have oc5 := oc4.keep k5 (by have := PL.out; simp; omega); have z5 := k5.size))
          go_roundw
          case rel => exact ⟨i + 1, _, _, by omega, by omega, by go_num, rfl, rfl, ⟨m5, r5, (HF.out.open (mx := mx)).1.le (by omega), pr_of oc5 od5 HF.out.bytes (HF.out.open (mx := mx)).2⟩, g5, by omega⟩
          case measure => simp [intOf]; omega
        have n1 : (kd == 1) = false := by simpa using k1
        by_cases k2 : kd = 2
        · subst k2
          go_wp2
          go_roundw
          case rel => exact ⟨i + 1, _, _, by omega, by omega, by go_num, rfl, rfl, ⟨m3, r3, HF.out.le (by omega), p3⟩, g3, by omega⟩
          case measure => simp [intOf]; omega
        have n2 : (kd == 2) = false := by simpa using k2
        by_cases k3 : kd = 3
        · subst k3
          have hfa : Fit (s.arm nd).1 lb (6 * i + 6) := HF.out.arm HN.out
          have HFA : Hid _ := hfa
          clear hfa
          have m3' : IsMem w3.drew p q s := m3.keep (Chg.refl [] w3).drew (by simp) (by simp)
          have r3' : IsRef w3.drew p' q' s := r3.keep (Chg.refl [] w3).drew (by simp) (by simp)
          have p3' := p3.keep (Chg.refl [] w3).drew (by simp)
          have g3' : Chg [] w w3.drew := g3.drew
          have HB : Hid (b < w.heap.size) := hbl0
          have f2' : w3.drew.cell? ⟨b, off + i * 2 + 1, none⟩ = some (.int .i64 nd) := f2
          go_wp2
          go_region_held (fun X => X.cell? ⟨b, off + i * 2 + 1, none⟩ = some (.int .i64 nd)) (first | (exact f2') | (exact f4) | (exact f5)) ((first | (go_at_call 18; refine (arm_any p q s nd _ m3').mono ?_; rintro e w4 ⟨rfl, m4, k4⟩; have g4 := g3'.more k4 (by have := PL.out; simp; omega); have r4 := r3'.keep k4 (by have := PL.out; simp; omega) (by have := PL.out; simp; omega); have p4 := p3'.keep k4 (by have := PL.out; simp; omega); have f4 := k4.old f2' (by have := PL.out; have := HB.out; simp; omega); have z4 := k4.size) | (go_at_call 36; refine (rarm_any p' q' s nd _ r4).mono ?_; rintro e w5' ⟨rfl, r5, k5⟩; have g5 := g4.more k5 (by have := PL.out; simp; omega); have m5 := m4.keep k5 (by have := PL.out; simp; omega) (by have := PL.out; simp; omega); have p5 := p4.keep k5 (by have := PL.out; simp; omega); have f5 := k5.old f4 (by have := PL.out; have := HB.out; simp; omega); have z5 := k5.size)))
          have z6 : w3.heap.size ≤ w5'.heap.size := by simp at z4 z5; omega
          go_wp2
          go_roundw
          case rel => exact ⟨i + 1, _, _, by omega, by omega, by go_num, rfl, rfl, ⟨m5, r5, HFA.out.le (by omega), p5⟩, g5, by omega⟩
          case measure => simp [intOf]; omega
        have n3 : (kd == 3) = false := by simpa using k3
        by_cases k4 : kd = 4
        · subst k4
          go_wp2_with (first | (go_at_call 21; refine (on_any p q s _ m3).mono ?_; rintro e w4 ⟨rfl, m4, k4⟩; have g4 := g3.more k4 (by have := PL.out; simp; omega); have r4 := r3.keep k4 (by have := PL.out; simp; omega) (by have := PL.out; simp; omega); have p4 := p3.keep k4 (by have := PL.out; simp; omega); have z4 := k4.size) | (go_at_call 37; refine (ron_any p' q' s _ r4).mono ?_; rintro e w5' ⟨rfl, r5, k5⟩; have g5 := g4.more k5 (by have := PL.out; simp; omega); have m5 := m4.keep k5 (by have := PL.out; simp; omega) (by have := PL.out; simp; omega); have p5 := p4.keep k5 (by have := PL.out; simp; omega); have z5 := k5.size))
          go_roundw
          case rel => exact ⟨i + 1, _, _, by omega, by omega, by go_num, rfl, rfl, ⟨m5, r5, HF.out.on.le (by omega), p5⟩, g5, by omega⟩
          case measure => simp [intOf]; omega
        have n4 : (kd == 4) = false := by simpa using k4
        go_wp2
        go_roundw
        case rel => exact ⟨i + 1, _, _, by omega, by omega, by go_num, rfl, rfl, ⟨m3, r3, HF.out.le (by omega), p3⟩, g3, by omega⟩
        case measure => simp [intOf]; omega
      · have hd : ((ls : Int) ≤ (i : Int) ∨ (200 : Int) ≤ (i : Int)) = True := by simp; omega
        by_cases h1 : (ls : Int) ≤ (i : Int)
        · have h3 : decide ((ls : Int) ≤ (i : Int)) = true := by simpa using h1
          go_wp2
          go_ret
          exact ⟨rfl, g3⟩
        · have h3 : decide ((ls : Int) ≤ (i : Int)) = false := by simpa using h1
          have h4 : decide ((200 : Int) ≤ (i : Int)) = true := by simp; omega
          go_wp2
          go_ret
          exact ⟨rfl, g3⟩

    · go_wp2
      go_region_held (fun W => W.cell? ⟨p', 0, none⟩ = some (.slice a s.B.length cap) ∧ W.cell? ⟨p', 1, none⟩ = some (.bool s.off) ∧ W.cell? ⟨p', 4, none⟩ = some (.int .i64 s.writes) ∧
          (convert 22 9 (.slice a s.B.length cap)).run Try.prog W = .ok (.string (mkStr s.B)) W ∧ IsMem W p q s ∧ Chg [] wr W)
        (first | assumption | exact HK.out _ (Chg.refl [] wr).drew | (refine HK.out _ ?_; assumption) | (refine HK.out _ (Chg.trans ?_ k); assumption))
        ((first | (go_at_call 16; refine (bytes_any p q s _ ?_ hlen).mono ?_; simp only [*]; rintro e w2 ⟨vb, rfl, ⟨r, hb2, hr2⟩, k⟩; have cv1 := conv_run hb2; have k2 : Chg [] wr w2 := by { refine Chg.trans ?_ k; simp only [*] }) | (go_at_call 20; refine (off_any p q s _ ?_).mono ?_; simp only [*]; rintro e w' ⟨rfl, rfl⟩) | (go_at_call 22; refine (writes_any p q s _ ?_).mono ?_; simp only [*]; rintro e w' ⟨rfl, rfl⟩)))
      have hk9 : Chg [] wr w2 := by assumption
      have m9 := hm.keep hk9 (by simp) (by simp)
      have r9 := HR.out.keep hk9 (by simp) (by simp)
      have p9 := HP.out.keep hk9 (by simp)
      have g9 := hg.trans hk9
      have z9 := hk9.size
      clear hm hg
      clear HK HR HP
      go_wp2
      have hc9 := hc.drewN 0
      have hk9' : Chg [] wr w2 := hk9
      have cc := hk9'.blk hc (by simp)
      have dd := hk9'.blk hd (by simp)
      have dc := dd.cell 2
      simp at dc
      have V : ∀ n, Calls Try.prog 33 #[.pointer (some ⟨c, 0, none⟩)] (w2.drewN n) fun e w' => e = .returned (.int .u32 vv) ∧ w' = w2.drewN n := fun n => (value_any c p mx vv dead (w2.drewN n) (Blk.drewN cc n)).mono fun e w' ⟨h1, h2⟩ => ⟨h1, h2.symm⟩
      have HV : Hid _ := V
      clear V hc9 hk9' hc hd
      go_quiet ((go_at_call 33; exact Calls.quiet_of_same (HV.out _)))
      have c3 : IsCell (w2.drewN nq) c p mx vv dead := cc.drewN nq
      have d3 : IsRCell (w2.drewN nq) d p' mx vv dead := dd.drewN nq
      have p3 : Pr (w2.drewN nq) p p' w6.heap.size lb mx (.pointer (some ⟨c, 0, none⟩)) (.pointer (some ⟨d, 0, none⟩)) := .yes c d vv dead c3 d3 hcl hdl hv hN
      clear cc dd dc HV
      have m3 : IsMem (w2.drewN nq) p q s := m9.keep ((Chg.refl [] w2).drewN nq) (by simp) (by simp)
      have r3 : IsRef (w2.drewN nq) p' q' s := r9.keep ((Chg.refl [] w2).drewN nq) (by simp) (by simp)
      have g3 : Chg [] w (w2.drewN nq) := g9.drewN nq
      have z3 : wr.heap.size ≤ (w2.drewN nq).heap.size := z9
      clear hk9 m9 r9 p9 g9 z9
      generalize w2.drewN nq = w3 at m3 r3 g3 z3 p3 c3 d3 ⊢
      have HI : Hid (6 * (i : Int) + 6 ≤ 1206) := by show _ ≤ _; omega
      by_cases hlt : i < ls ∧ i < 200
      · have h1 : (i : Int) < (ls : Int) := by omega
        have h2 : (i : Int) < 200 := by omega
        have h3 : decide ((ls : Int) ≤ (i : Int)) = false := by simp; omega
        have h4 : decide ((200 : Int) ≤ (i : Int)) = false := by simp; omega
        obtain ⟨b, off, rfl, hcell⟩ := HS.out (by omega)
        obtain ⟨f1, f2, f3⟩ := hcell i (by omega)
        have hbl0 := lt_of_cell? f1
        replace f1 := g3.old f1 (by simp)
        replace f2 := g3.old f2 (by simp)
        have HN : Hid (ns i ≤ 9223372036854775807) := f3
        clear hcell f3
        generalize ks i = kd at f1
        generalize ns i = nd at f2 HN
        by_cases k1 : kd = 1
        · subst k1
          go_wp2_with (first | (go_at_call 32; refine (open32 w6.heap.size p q s mx _ m3 (by have := PL.out; omega) (by omega) (ok_le HF.out.ok (by have := HI.out; omega)) HF.out.bytes).mono ?_; rintro e w4 ⟨x4, rfl, oc4, m4, k4⟩; have g4 := g3.more k4 (by have := PL.out; simp; omega); have r4 := r3.keep k4 (by have := PL.out; simp; omega) (by have := PL.out; simp; omega); have z4 := k4.size) | (go_at_call 34; refine (open34 w6.heap.size p' q' s mx _ r4 (by have := PL.out; omega) (by omega) (ok_le HF.out.ok (by have := HI.out; omega)) HF.out.bytes).mono ?_; rintro e w5' ⟨y4, rfl, od5, r5, k5⟩; have g5 := g4.more k5 (by have := PL.out; simp; omega); have m5 := m4.keep k5 (by have := PL.out; simp; omega) (by have := PL.out; simp; omega); have oc5 := oc4.keep k5 (by have := PL.out; simp; omega); have z5 := k5.size))
          go_roundw
          case rel => exact ⟨i + 1, _, _, by omega, by omega, by go_num, rfl, rfl, ⟨m5, r5, (HF.out.open (mx := mx)).1.le (by omega), pr_of oc5 od5 HF.out.bytes (HF.out.open (mx := mx)).2⟩, g5, by omega⟩
          case measure => simp [intOf]; omega
        have n1 : (kd == 1) = false := by simpa using k1
        by_cases k2 : kd = 2
        · subst k2
          have HX2 := HF.out.nx (mx := mx) (v := vv) (dead := dead) hN hv HM.out
          have HX3 : Hid _ := HX2
          clear HX2
          have hcm := c3.unlike m3
          have hv0 := hv.1
          have ZZ : Hid (c ≠ p ∧ c ≠ q ∧ d ≠ p' ∧ d ≠ q' ∧ c ≠ p' ∧ c ≠ q' ∧ c ≠ d ∧ d ≠ p ∧ d ≠ q ∧ d ≠ c ∧ q' < w6.heap.size ∧ w.heap.size ≤ c ∧ w.heap.size ≤ d) := by { have := PL.out; have := Blk.unlike c3 d3 (by decide); have := g3.size; show _ ∧ _; omega }
          have HV : Hid (0 ≤ vv) := hv0
          clear hv0 hcm p3
          go_wp2_with (first | (go_at_call 31; refine (next31 c p q s mx vv dead lb _ c3 m3 ZZ.out.1 ZZ.out.2.1 (HF.out.le (by have := HI.out; omega)) hN HV.out HM.out).mono ?_; rintro e w4 ⟨rfl, c4, m4, k4⟩; have g4 := g3.more k4 (by have := PL.out; have := ZZ.out; simp; omega); have r4 := r3.keep k4 (by have := PL.out; have := ZZ.out; simp; omega) (by have := PL.out; have := ZZ.out; simp; omega); have d4 := k4.blk d3 (by have := PL.out; have := ZZ.out; simp; omega); have z4 := k4.size) | (go_at_call 35; refine (next35 d p' q' s mx vv dead lb _ d4 r4 ZZ.out.2.2.1 ZZ.out.2.2.2.1 (by have := PL.out; omega) (HF.out.le (by have := HI.out; omega)) hN HV.out HM.out).mono ?_; rintro e w5' ⟨rfl, d5, r5, k5⟩; have g5 := g4.more k5 (by have := PL.out; have := ZZ.out; simp; omega); have m5 := m4.keep k5 (by have := PL.out; have := ZZ.out; simp; omega) (by have := PL.out; have := ZZ.out; simp; omega); have c5 := k5.blk c4 (by have := PL.out; have := ZZ.out; simp; omega); have z5 := k5.size))
          go_roundw
          case rel => exact ⟨i + 1, _, _, by omega, by omega, by go_num, rfl, rfl, ⟨m5, r5, HX3.out.1.le (by omega), .yes c d _ _ c5 d5 hcl hdl HX3.out.2 hN⟩, g5, by omega⟩
          case measure => simp [intOf]; omega
        have n2 : (kd == 2) = false := by simpa using k2
        by_cases k3 : kd = 3
        · subst k3
          have hfa : Fit (s.arm nd).1 lb (6 * i + 6) := HF.out.arm HN.out
          have HFA : Hid _ := hfa
          clear hfa
          have m3' : IsMem w3.drew p q s := m3.keep (Chg.refl [] w3).drew (by simp) (by simp)
          have r3' : IsRef w3.drew p' q' s := r3.keep (Chg.refl [] w3).drew (by simp) (by simp)
          have p3' := p3.keep (Chg.refl [] w3).drew (by simp)
          have g3' : Chg [] w w3.drew := g3.drew
          have HB : Hid (b < w.heap.size) := hbl0
          have f2' : w3.drew.cell? ⟨b, off + i * 2 + 1, none⟩ = some (.int .i64 nd) := f2
          go_wp2
          go_region_held (fun X => X.cell? ⟨b, off + i * 2 + 1, none⟩ = some (.int .i64 nd)) (first | (exact f2') | (exact f4) | (exact f5)) ((first | (go_at_call 18; refine (arm_any p q s nd _ m3').mono ?_; rintro e w4 ⟨rfl, m4, k4⟩; have g4 := g3'.more k4 (by have := PL.out; simp; omega); have r4 := r3'.keep k4 (by have := PL.out; simp; omega) (by have := PL.out; simp; omega); have p4 := p3'.keep k4 (by have := PL.out; simp; omega); have f4 := k4.old f2' (by have := PL.out; have := HB.out; simp; omega); have z4 := k4.size) | (go_at_call 36; refine (rarm_any p' q' s nd _ r4).mono ?_; rintro e w5' ⟨rfl, r5, k5⟩; have g5 := g4.more k5 (by have := PL.out; simp; omega); have m5 := m4.keep k5 (by have := PL.out; simp; omega) (by have := PL.out; simp; omega); have p5 := p4.keep k5 (by have := PL.out; simp; omega); have f5 := k5.old f4 (by have := PL.out; have := HB.out; simp; omega); have z5 := k5.size)))
          have z6 : w3.heap.size ≤ w5'.heap.size := by simp at z4 z5; omega
          go_wp2
          go_roundw
          case rel => exact ⟨i + 1, _, _, by omega, by omega, by go_num, rfl, rfl, ⟨m5, r5, HFA.out.le (by omega), p5⟩, g5, by omega⟩
          case measure => simp [intOf]; omega
        have n3 : (kd == 3) = false := by simpa using k3
        by_cases k4 : kd = 4
        · subst k4
          go_wp2_with (first | (go_at_call 21; refine (on_any p q s _ m3).mono ?_; rintro e w4 ⟨rfl, m4, k4⟩; have g4 := g3.more k4 (by have := PL.out; simp; omega); have r4 := r3.keep k4 (by have := PL.out; simp; omega) (by have := PL.out; simp; omega); have p4 := p3.keep k4 (by have := PL.out; simp; omega); have z4 := k4.size) | (go_at_call 37; refine (ron_any p' q' s _ r4).mono ?_; rintro e w5' ⟨rfl, r5, k5⟩; have g5 := g4.more k5 (by have := PL.out; simp; omega); have m5 := m4.keep k5 (by have := PL.out; simp; omega) (by have := PL.out; simp; omega); have p5 := p4.keep k5 (by have := PL.out; simp; omega); have z5 := k5.size))
          go_roundw
          case rel => exact ⟨i + 1, _, _, by omega, by omega, by go_num, rfl, rfl, ⟨m5, r5, HF.out.on.le (by omega), p5⟩, g5, by omega⟩
          case measure => simp [intOf]; omega
        have n4 : (kd == 4) = false := by simpa using k4
        go_wp2
        go_roundw
        case rel => exact ⟨i + 1, _, _, by omega, by omega, by go_num, rfl, rfl, ⟨m3, r3, HF.out.le (by omega), p3⟩, g3, by omega⟩
        case measure => simp [intOf]; omega
      · have hd : ((ls : Int) ≤ (i : Int) ∨ (200 : Int) ≤ (i : Int)) = True := by simp; omega
        by_cases h1 : (ls : Int) ≤ (i : Int)
        · have h3 : decide ((ls : Int) ≤ (i : Int)) = true := by simpa using h1
          go_wp2
          go_ret
          exact ⟨rfl, g3⟩
        · have h3 : decide ((ls : Int) ≤ (i : Int)) = false := by simpa using h1
          have h4 : decide ((200 : Int) ≤ (i : Int)) = true := by simp; omega
          go_wp2
          go_ret
          exact ⟨rfl, g3⟩

end Go.Proofs.Ytcmhalmmaodmhaa
