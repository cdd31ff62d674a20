/-
  DERIVED. The walk of GhostStarts.
-/
import Derived.Test.YtmggfdhlbjlpjaaApp
import Derived.Deep.RegionHeldLaw
import Derived.Deep.DeepCutAuto
namespace Go.Proofs.Ytmggfdhlbjlpjaa
open Go.RowKit
set_option linter.unusedSimpArgs false
set_option linter.unusedVariables false

theorem u64_bd (n : Int) : 0 ≤ IntKind.u64.wrap n ∧ IntKind.u64.wrap n ≤ 18446744073709551615 := by
  rw [IntKind.wrap_u64]
  omega

set_option maxRecDepth 1000000 in
set_option maxHeartbeats 8000000 in
theorem starts_any (R O : Nat → Prop) (a b : Option Addr) (ca cb : Nat) (facts more : List FactP) (cut : Int) (w : World) (hf : Fs w R O (.slice a facts.length ca) facts) (hm : Fs w R O (.slice b more.length cb) more) (gf : ∀ f ∈ facts, f.Good) (gm : ∀ f ∈ more, f.Good) :
    Calls Try.prog 4 #[.slice a facts.length ca, .slice b more.length cb, .int .i64 cut] w fun e w' => e = .returned (.bool true) ∧ Fr No w w' := by
  by_cases hl : facts.length ≤ 500 ∧ more.length ≤ 500
  · have l1 : decide ((500 : Int) < facts.length) = false := by simp; omega
    have l2 : decide ((500 : Int) < more.length) = false := by simp; omega
    have hca : facts.length ≤ ca := by obtain ⟨_, _, h, h2⟩ := hf.shape; cases h; exact h2
    have HF := Lib.hid hf
    have HM := Lib.hid hm
    have HGF := Lib.hid gf
    have HGM := Lib.hid gm
    have HL := Lib.hid hl
    clear hf hm gf gm hl
    go_enter Try.func4, Try.ntmps4
    go_wp2_with (first | (go_at_call 7; refine (awake_any _).mono ?_; rintro e w1 ⟨rfl, hk1⟩) | (go_at_call 16; refine (pair_any _).mono ?_; rintro e w2 ⟨vh, vd, rfl, ph, pd, hk2⟩; unfold netV; obtain ⟨ah, ch, _, rfl, _⟩ := id ph; obtain ⟨ad, cd, _, rfl, _⟩ := id pd))
    obtain ⟨OH, hPH, hPD⟩ : ∃ OH : Nat → Prop, Prs (w2.alloc (.cells #[.slice ah 2 ch, .slice ad 2 cd, .int .u32 50] 25)) OH (.slice ah 2 ch) [10, 11] ∧ Prs (w2.alloc (.cells #[.slice ah 2 ch, .slice ad 2 cd, .int .u32 50] 25)) OH (.slice ad 2 cd) [10, 11] :=
      ⟨_, ph.keep ((Fr.refl No w2).alloc _) (fun _ _ => id), pd.keep ((Fr.refl No w2).alloc _) (fun _ _ => id)⟩
    have nB := Blk.new w2 #[.slice ah 2 ch, .slice ad 2 cd, .int .u32 50] 25
    have kW : Fr No w (w2.alloc (.cells #[.slice ah 2 ch, .slice ad 2 cd, .int .u32 50] 25)) := (hk1.trans hk2).alloc _
    clear ph pd hk1 hk2
    generalize w2.alloc (.cells #[.slice ah 2 ch, .slice ad 2 cd, .int .u32 50] 25) = W3 at hPH hPD nB kW ⊢
    generalize w2.heap.size = N at nB ⊢
    have HPH := Lib.hid hPH
    have HPD := Lib.hid hPD
    have HNB := Lib.hid nB
    have HKW := Lib.hid kW
    have CF : ∀ W, Fr No w W → Calls Try.prog 12 #[.slice a facts.length ca] W fun e w' => ∃ v', e = .returned v' ∧ Fo w' W.heap.size v' facts ∧ Fr No W w' := fun W k => copied_any R O _ facts W (HF.out.keep k (fun _ _ => id) fun _ _ => id) (by have := HL.out; omega) fun f hf => (HGF.out f hf).len
    have HCF := Lib.hid CF
    clear hPH hPD CF kW
    have n0 : W3.drew.cell? ⟨N, 0, none⟩ = some (.slice ah 2 ch) := nB.cell 0
    have n1 : W3.drew.cell? ⟨N, 1, none⟩ = some (.slice ad 2 cd) := nB.cell 1
    have n2 : W3.drew.cell? ⟨N, 2, none⟩ = some (.int .u32 50) := nB.cell 2
    clear nB
    obtain ⟨r, p, hrp⟩ : ∃ r p, check pairNet facts = (r, p) := ⟨_, _, rfl⟩
    have HRP := Lib.hid hrp
    have HCK := Lib.hid (fun (W : World) (k : Fr No W3 W) (v : Value) (R' : Nat → Prop) (h : Fs W R' R' v facts) (hR : ∀ b, R' b → b < W.heap.size) => check_pair HPH.out HPD.out r p HGF.out (by have := HL.out; omega) HRP.out W k v h hR hR)
    go_cut [8] (fun s8 wx => ∃ V : Nat, s8 = .pointer (some ⟨V, 0, none⟩) ∧ Blk wx V #[.int .i64 r, .int .i64 p] 34 ∧ Fr No W3 wx)
    case first =>
      have kk : Fr No W3 W3.drew := (Fr.refl No W3).drew
      have hNl := HNB.out.lt
      go_region_held (fun W => W.cell? ⟨N, 0, none⟩ = some (.slice ah 2 ch) ∧ W.cell? ⟨N, 1, none⟩ = some (.slice ad 2 cd) ∧ W.cell? ⟨N, 2, none⟩ = some (.int .u32 50)) (first | (exact ⟨kk.old n0 id, kk.old n1 id, kk.old n2 id⟩) | (exact ⟨(kk.alloc _).old n0 id, (kk.alloc _).old n1 id, (kk.alloc _).old n2 id⟩) | (exact ⟨set_keep _ (set_keep _ (kk.old n0 id) (Nat.ne_of_lt (by simp; omega))) (Nat.ne_of_lt (by simp; omega)), set_keep _ (set_keep _ (kk.old n1 id) (Nat.ne_of_lt (by simp; omega))) (Nat.ne_of_lt (by simp; omega)), set_keep _ (set_keep _ (kk.old n2 id) (Nat.ne_of_lt (by simp; omega))) (Nat.ne_of_lt (by simp; omega))⟩))
        ((first | (go_at_call 15; refine (HCK.out _ kk _ _ fs1 (fun b hb => hb.2)).mono ?_; rintro e w5 ⟨rfl, hk5⟩; have vb := hk5.blk vb id; have vc0 : World.cell? _ ⟨_, 0, none⟩ = some (.int .i64 0) := vb.cell 0; have vc1 : World.cell? _ ⟨_, 1, none⟩ = some (.int .i64 0) := vb.cell 1; have vf0 := vb.free 0; have vf1 := vb.free 1; have vl := vb.lt; have kk := kk.trans hk5; have nn := hN) | (go_at_call 15; refine (HCK.out _ kk _ _ fs1 (fun b hb => hb.2)).mono ?_; rintro e w5 ⟨rfl, hk5⟩; have kk := kk.trans hk5) | (go_at_call 15; refine (HCK.out _ (kk.alloc _) _ _ (fs1.keep ((Fr.refl No _).alloc _) (fun _ _ => id) (fun _ _ => id)) (fun b hb => Nat.lt_of_lt_of_le hb.2 ((Fr.refl No _).alloc _).size)).mono ?_; rintro e w5 ⟨rfl, hk5⟩; have vb := hk5.blk (Blk.new w4 #[.int .i64 0, .int .i64 0] 34) id; have vc0 : World.cell? _ ⟨_, 0, none⟩ = some (.int .i64 0) := vb.cell 0; have vc1 : World.cell? _ ⟨_, 1, none⟩ = some (.int .i64 0) := vb.cell 1; have vf0 := vb.free 0; have vf1 := vb.free 1; have vl := vb.lt; have wsz := kk.size; have kk := (kk.alloc _).trans hk5) | (go_at_call 12; refine (HCF.out _ (HKW.out.trans kk)).mono ?_; rintro e w4 ⟨v4, rfl, fo4, hk4⟩; have fs1 := fo4.fs; have kk := kk.trans hk4) | (go_at_call 12; refine (HCF.out _ (HKW.out.trans (kk.alloc _))).mono ?_; rintro e w4 ⟨v4, rfl, fo4, hk4⟩; have fs1 := fo4.fs; have vb : Blk w4 W3.heap.size #[.int .i64 0, .int .i64 0] 34 := hk4.blk (Blk.new W3.drew #[.int .i64 0, .int .i64 0] 34) id; have hN := Nat.le_refl W3.heap.size; have kk := (kk.alloc _).trans hk4)))
      all_goals (go_wp2; go_meet; first | exact ⟨_, rfl, Blk.new _ _ _, kk.alloc _⟩ | exact ⟨_, rfl, (vb.set 0 _).set' 1 _ rfl, (kk.setCell (p := ⟨w4.heap.size, 0, none⟩) (fun h => absurd h (Nat.not_lt.2 wsz)) _).setCell (p := ⟨w4.heap.size, 1, none⟩) (fun h => absurd h (Nat.not_lt.2 wsz)) _⟩ | exact ⟨_, rfl, (vb.set 0 _).set' 1 _ rfl, (kk.setCell (p := ⟨W3.heap.size, 0, none⟩) (fun h => absurd h (Nat.lt_irrefl _)) _).setCell (p := ⟨W3.heap.size, 1, none⟩) (fun h => absurd h (Nat.lt_irrefl _)) _⟩)
    case rest =>
      obtain ⟨V, rfl, vB, kx⟩ := hcut
      have n0' : wc.drew.cell? ⟨N, 0, none⟩ = some (.slice ah 2 ch) := kx.old n0 id
      have n1' : wc.drew.cell? ⟨N, 1, none⟩ = some (.slice ad 2 cd) := kx.old n1 id
      have n2' : wc.drew.cell? ⟨N, 2, none⟩ = some (.int .u32 50) := kx.old n2 id
      have v0 : wc.drew.cell? ⟨V, 0, none⟩ = some (.int .i64 r) := vB.cell 0
      have v1 : wc.drew.cell? ⟨V, 1, none⟩ = some (.int .i64 p) := vB.cell 1
      have v0' : wc.cell? ⟨V, 0, none⟩ = some (.int .i64 r) := vB.cell 0
      have HKX := Lib.hid (HKW.out.trans kx)
      have HKX3 := Lib.hid kx
      have kk : Fr No wc wc.drew := (Fr.refl No wc).drew
      clear n0 n1 n2 kx vB
      have n0 := n0'
      have n1 := n1'
      have n2 := n2'
      clear n0' n1' n2' HCK
      have PRE : ∀ k, k ≤ facts.length → ∀ W, Fr No w W → Calls Try.prog 12 #[.slice a k ca] W fun e w' => ∃ v', e = .returned v' ∧ Fo w' W.heap.size v' (facts.take k) ∧ Fr No W w' := by
        intro k hk W kW
        have hfs := (HF.out.keep kW (fun _ _ => id) fun _ _ => id).take k hk
        exact copied_any R O _ (facts.take k) W hfs (by have := HL.out; rw [List.length_take]; omega) fun f hf => (HGF.out f (List.mem_of_mem_take hf)).len
      have HPRE := Lib.hid PRE
      clear PRE
      rcases check_starts pairNet facts more with ⟨e0, hpre⟩ | ⟨r', p', hr', hp', e0, e1, e2, e3⟩
      · rw [HRP.out] at e0
        obtain ⟨rfl, rfl⟩ : r = 0 ∧ p = 0 := by injection e0 with h1 h2; exact ⟨h1, h2⟩
        have CK := fun (l : List FactP) (hg : ∀ f ∈ l, f.Good) (hn : l.length ≤ 1900) (hc : check pairNet l = (0, 0)) (W : World) (k : Fr No wc W) (v : Value) (R' : Nat → Prop) (h : Fs W R' R' v l) (hR : ∀ b, R' b → b < W.heap.size) => check_pair HPH.out HPD.out 0 0 hg hn hc W (HKX3.out.trans k) v h hR hR
        have HPR := Lib.hid hpre
        have HCKK := Lib.hid CK
        clear CK hpre e0
        by_cases hp : 0 < facts.length
        · have hp1 : decide ((0 : Int) < facts.length) = true := by simpa using hp
          have fw : IntKind.u64.wrap (facts.length : Int) = facts.length := IntWalk.u64_in _ (by have := HL.out; omega)
          have fz : ((facts.length : Int) == 0) = false := by simp; intro h; subst h; simp at hp
          have fz2 : (facts.length : Int) ≠ 0 := by omega
          obtain ⟨q, hq, hql⟩ : ∃ q : Nat, wrap64 ((IntKind.u64.wrap cut).tmod (facts.length : Int)) = (q : Int) ∧ q < facts.length := by
            obtain ⟨x0, x1⟩ := u64_bd cut
            have h0 : (0 : Int) ≤ (IntKind.u64.wrap cut).tmod (facts.length : Int) := Int.tmod_nonneg _ x0
            have h1 : (IntKind.u64.wrap cut).tmod (facts.length : Int) < facts.length := Int.tmod_lt_of_pos _ (by omega)
            refine ⟨((IntKind.u64.wrap cut).tmod (facts.length : Int)).toNat, ?_, by omega⟩
            rw [IntWalk.wrap64_in _ (by have := HL.out; omega)]
            omega
          have b0 : (0 : Int) ≤ (q : Int) := by omega
          have b1 : (q : Int) ≤ (ca : Int) := by omega
          have HCP := Lib.hid (HPRE.out q (by omega))
          have HK4 := Lib.hid (HCKK.out (facts.take q) (fun f hf => HGF.out f (List.mem_of_mem_take hf)) (by have := HL.out; rw [List.length_take]; omega) (HPR.out q))
          clear hp
          go_wp2
          go_region_held (fun W => W.cell? ⟨N, 0, none⟩ = some (.slice ah 2 ch) ∧ W.cell? ⟨N, 1, none⟩ = some (.slice ad 2 cd) ∧ W.cell? ⟨N, 2, none⟩ = some (.int .u32 50)) (first | (exact ⟨n0, n1, n2⟩) | (exact ⟨kk.old n0 id, kk.old n1 id, kk.old n2 id⟩)) ((first | (go_at_call 15; refine (HK4.out _ kk _ _ fs4 (fun b hb => hb.2)).mono ?_; rintro e w10 ⟨rfl, hk10⟩; have kk := kk.trans hk10) | (go_at_call 12; refine (HCP.out _ (HKX.out.trans kk)).mono ?_; rintro e w9 ⟨u4, rfl, fo4, hk9⟩; have fs4 := fo4.fs; have kk := kk.trans hk9)))
          all_goals (go_wp2; go_ret; exact ⟨rfl, HKX.out.trans kk⟩)
        · have hp1 : decide ((0 : Int) < facts.length) = false := by simpa using hp
          have b1 : (0 : Int) ≤ (ca : Int) := by omega
          have HCP := Lib.hid (HPRE.out 0 (by omega))
          have HK4 := Lib.hid (HCKK.out (facts.take 0) (fun f hf => HGF.out f (List.mem_of_mem_take hf)) (by have := HL.out; rw [List.length_take]; omega) (HPR.out 0))
          have hp2 : decide (0 < facts.length) = false := by simpa using hp
          go_wp2
          go_region_held (fun W => W.cell? ⟨N, 0, none⟩ = some (.slice ah 2 ch) ∧ W.cell? ⟨N, 1, none⟩ = some (.slice ad 2 cd) ∧ W.cell? ⟨N, 2, none⟩ = some (.int .u32 50)) (first | (exact ⟨n0, n1, n2⟩) | (exact ⟨kk.old n0 id, kk.old n1 id, kk.old n2 id⟩)) ((first | (go_at_call 15; refine (HK4.out _ kk _ _ fs4 (fun b hb => hb.2)).mono ?_; rintro e w10 ⟨rfl, hk10⟩; have kk := kk.trans hk10) | (go_at_call 12; refine (HCP.out _ (HKX.out.trans kk)).mono ?_; rintro e w9 ⟨u4, rfl, fo4, hk9⟩; have fs4 := fo4.fs; have kk := kk.trans hk9)))
          all_goals (go_wp2; go_ret; exact ⟨rfl, HKX.out.trans kk⟩)
      · rw [HRP.out] at e0
        obtain ⟨rfl, rfl⟩ : r = r' ∧ p = (p' : Int) := by injection e0 with h1 h2; exact ⟨h1, h2⟩
        have hr1 : (r != 0) = true := by simpa using hr'
        have HCM : Hid (∀ W, Fr No w W → Calls Try.prog 12 #[.slice b more.length cb] W fun e w' => ∃ v', e = .returned v' ∧ Fo w' W.heap.size v' more ∧ Fr No W w') := fun W k => copied_any R O _ more W (HM.out.keep k (fun _ _ => id) fun _ _ => id) (by have := HL.out; omega) fun f hf => (HGM.out f hf).len
        have HCP := Lib.hid (HPRE.out p' (by omega))
        have HCQ := Lib.hid (HPRE.out (p' + 1) (by omega))
        have CK := fun (l : List FactP) (r p : Int) (hg : ∀ f ∈ l, f.Good) (hn : l.length ≤ 1900) (hc : check pairNet l = (r, p)) (W : World) (k : Fr No wc W) (v : Value) (R' : Nat → Prop) (h : Fs W R' R' v l) (hR : ∀ b, R' b → b < W.heap.size) => check_pair HPH.out HPD.out r p hg hn hc W (HKX3.out.trans k) v h hR hR
        have HK3 := Lib.hid (CK (facts ++ more) r p' (fun f hf => (List.mem_append.1 hf).elim (HGF.out f) (HGM.out f)) (by have := HL.out; rw [List.length_append]; omega) e1)
        have HK4 := Lib.hid (CK (facts.take p') 0 0 (fun f hf => HGF.out f (List.mem_of_mem_take hf)) (by have := HL.out; rw [List.length_take]; omega) e2)
        have HK5 := Lib.hid (CK (facts.take (p' + 1)) r p' (fun f hf => HGF.out f (List.mem_of_mem_take hf)) (by have := HL.out; rw [List.length_take]; omega) e3)
        have b0 : (0 : Int) ≤ (p' : Int) := by omega
        have b1 : (p' : Int) ≤ (ca : Int) := by omega
        have b2 : (0 : Int) ≤ (p' : Int) + 1 := by omega
        have b3 : (p' : Int) + 1 ≤ (ca : Int) := by omega
        have hp500 : p' < 500 := by have := HL.out; omega
        have b4 : IntKind.i64.wrap ((p' : Int) + 1) = (p' : Int) + 1 := IntWalk.i64_in _ (by omega)
        clear CK e0 e1 e2 e3 hr' hp500
        go_wp2
        go_region_held_law (fun W => W.cell? ⟨N, 0, none⟩ = some (.slice ah 2 ch) ∧ W.cell? ⟨N, 1, none⟩ = some (.slice ad 2 cd) ∧ W.cell? ⟨N, 2, none⟩ = some (.int .u32 50) ∧ W.cell? ⟨V, 0, none⟩ = some (.int .i64 r) ∧ W.cell? ⟨V, 1, none⟩ = some (.int .i64 p')) (first | (exact ⟨n0, n1, n2, v0, v1⟩) | (exact ⟨kk.old n0 id, kk.old n1 id, kk.old n2 id, kk.old v0 id, kk.old v1 id⟩)) (first | (refine step_append_facts (by rfl) _ _ (by rfl) wc.heap.size u1 u2 facts more (by rfl) (by rfl) fo1 fo2 (by have := HL.out; omega) kk.size ?_; intro v3 w7 fs3 k7; have kk := kk.more k7 (fun x h hx => absurd h (by omega))) | (go_simp; go_at_call_of 12 (Value.slice a facts.length ca); refine (HCF.out _ (HKX.out.trans kk)).mono ?_; rintro e w4 ⟨u1, rfl, fo1, hk4⟩; have fo1 := fo1.mono kk.size; (try have fo2 := fo2.keep hk4 (fun _ h => h.elim)); have kk := kk.trans hk4) | (go_simp; go_at_call_of 12 (Value.slice b more.length cb); refine (HCM.out _ (HKX.out.trans kk)).mono ?_; rintro e w5 ⟨u2, rfl, fo2, hk5⟩; have fo2 := fo2.mono kk.size; (try have fo1 := fo1.keep hk5 (fun _ h => h.elim)); have kk := kk.trans hk5) | (go_simp; go_at_call_of 12 (Value.slice a p' ca); refine (HCP.out _ (HKX.out.trans kk)).mono ?_; rintro e w9 ⟨u4, rfl, fo4, hk9⟩; have fs4 := fo4.fs; have kk := kk.trans hk9) | (go_simp; go_at_call 15; refine (HK5.out _ kk _ _ fs5 (fun b hb => hb.2)).mono ?_; rintro e w12 ⟨rfl, hk12⟩; have kk := kk.trans hk12) | (go_simp; go_at_call 15; refine (HK4.out _ kk _ _ fs4 (fun b hb => hb.2)).mono ?_; rintro e w10 ⟨rfl, hk10⟩; have kk := kk.trans hk10) | (go_simp; go_at_call 15; refine (HK3.out _ kk _ _ fs3 (fun b hb => hb.2)).mono ?_; rintro e w8 ⟨rfl, hk8⟩; have kk := kk.trans hk8) | (go_simp; go_at_call 12; refine (HCQ.out _ (HKX.out.trans kk)).mono ?_; rintro e w11 ⟨u5, rfl, fo5, hk11⟩; have fs5 := fo5.fs; have kk := kk.trans hk11))
        all_goals (go_wp2; go_ret; exact ⟨rfl, HKX.out.trans kk⟩)
  · by_cases h1 : 500 < facts.length
    · have l1 : decide ((500 : Int) < facts.length) = true := by simp; omega
      clear hf hm gf gm hl
      go_enter Try.func4, Try.ntmps4
      go_wp2_with (go_at_call 7; refine (awake_any _).mono ?_; rintro e w1 ⟨rfl, hk1⟩)
      go_ret
      exact ⟨rfl, hk1⟩
    · have l1 : decide ((500 : Int) < facts.length) = false := by simp; omega
      have l2 : decide ((500 : Int) < more.length) = true := by simp; omega
      clear hf hm gf gm hl
      go_enter Try.func4, Try.ntmps4
      go_wp2_with (go_at_call 7; refine (awake_any _).mono ?_; rintro e w1 ⟨rfl, hk1⟩)
      go_ret
      exact ⟨rfl, hk1⟩
end Go.Proofs.Ytmggfdhlbjlpjaa
