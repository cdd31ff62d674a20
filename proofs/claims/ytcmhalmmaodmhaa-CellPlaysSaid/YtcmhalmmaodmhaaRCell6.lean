/-
  DERIVED. The document's Next, where a number is left. (Printed by rnext.py.)
-/
import Derived.Test.YtcmhalmmaodmhaaRCell5
namespace Go.Proofs.Ytcmhalmmaodmhaa
open Go.RowKit
set_option linter.unusedSimpArgs false
set_option linter.unusedVariables false

theorem IsRef.dn {w : World} {p q n : Nat} {s : MS} (h : IsRef w p q s) : IsRef (w.drewN n) p q s := h

set_option maxRecDepth 1000000 in
set_option maxHeartbeats 20000000 in
theorem rnext_some (c p q : Nat) (s : MS) (mx v : Int) (w : World) (hc : IsRCell w c p mx v false) (hmem : IsRef w p q s) (hcq : c ≠ q) (hq : q < w.heap.size) (ho : s.off = false) (hv : v < mx) (hv0 : 0 ≤ v) (hmx : mx ≤ 4294967295)
    (hlen2 : 10 ≤ s.B.length) (hok : s.Ok 100000) (hb : s.Bytes) :
    Calls Try.prog 35 #[.pointer (some ⟨c, 0, none⟩)] w fun e w' => RNexted w' c p s mx v e ∧ IsRef w' p q (nextR s v).1 ∧ Chg [p, q, c] w w' := by
  obtain ⟨a, cap, c0, c1, c2, c3, c4, hf, hbl, hle, hr⟩ := hmem.cells
  have hcp : c ≠ p := by
    intro h; subst h
    exact absurd rfl (Blk.unlike hc hbl (by decide))
  have d0 := hc.cell 0
  have d1 := hc.cell 1
  have d2 := hc.cell 2
  have d3 := hc.cell 3
  have hlc := hc.lt
  simp at d0 d1 d2 d3
  rw [ho] at c1
  have hlen := hok.len
  have hd : decide (mx ≤ v) = false := by simp; omega
  have hw1 : IntKind.u32.wrap (v + 1) = v + 1 := IntWalk.u32_in _ (by omega)
  have HW : Hid (0 ≤ v + 1 ∧ v + 1 ≤ 4294967295) := by show _ ∧ _; omega
  have HC : Hid (IsRCell w c p mx v false) := hc
  clear c0 c2 c3 c4 hf hbl hle hr hmx hv hv0 hc
  have HH0 : ∀ (b : Bool) (w1 : World), Hid ((mk s 0 == 165) = b) → IsRef w1 p q s → Calls Try.prog 49 #[.pointer (some ⟨p, 0, none⟩), .int .i64 0] w1 fun e w' => e = .returned (.bool b) ∧ w' = w1 := by
    intro b w1 hb h
    exact (rholds_any p q 0 s w1 h (by omega) hlen2 hlen).mono fun e w' ⟨h1, h2⟩ => ⟨by rw [h1, hb.out], h2.symm⟩
  have HH1 : ∀ (b : Bool) (w1 : World), Hid ((mk s 1 == 165) = b) → IsRef w1 p q s → Calls Try.prog 49 #[.pointer (some ⟨p, 0, none⟩), .int .i64 1] w1 fun e w' => e = .returned (.bool b) ∧ w' = w1 := by
    intro b w1 hb h
    exact (rholds_any p q 1 s w1 h (by omega) hlen2 hlen).mono fun e w' ⟨h1, h2⟩ => ⟨by rw [h1, hb.out], h2.symm⟩
  obtain ⟨g0, ha0⟩ : ∃ g0 : Int, g0 = wd s 0 := ⟨_, rfl⟩
  obtain ⟨g1, ha1⟩ : ∃ g1 : Int, g1 = wd s 1 := ⟨_, rfl⟩
  have WW0 : ∀ (w1 : World), IsRef w1 p q s → Calls Try.prog 51 #[.pointer (some ⟨p, 0, none⟩), .int .i64 0] w1 fun e w' => e = .returned (.int .u32 g0) ∧ ∃ m, w' = w1.drewN m := by
    intro w1 h
    rw [ha0]
    exact rword_any p q 0 s _ h (by omega) hlen2 hlen hb
  have WW1 : ∀ (w1 : World), IsRef w1 p q s → Calls Try.prog 51 #[.pointer (some ⟨p, 0, none⟩), .int .i64 1] w1 fun e w' => e = .returned (.int .u32 g1) ∧ ∃ m, w' = w1.drewN m := by
    intro w1 h
    rw [ha1]
    exact rword_any p q 1 s _ h (by omega) hlen2 hlen hb
  go_enter Try.func35, Try.ntmps35
  go_wp2
  go_quiet (fail)
  have hmem1 : IsRef (w.drewN nq) p q s := hmem
  have hc1 : IsRCell (w.drewN nq) c p mx v false := HC.out
  have hg1 : Chg [p, q, c] w (w.drewN nq) := (Chg.refl _ w).drewN nq
  generalize w.drewN nq = w1 at hmem1 hc1 hg1 ⊢
  clear d0 d1 d2 d3 c1
  have d0 := hc1.cell 0
  have d1 := hc1.cell 1
  have d2 := hc1.cell 2
  have d3 := hc1.cell 3
  simp at d0 d1 d2 d3
  go_wp2
  by_cases m0 : mk s 0 = 165
  · by_cases m1 : mk s 1 = 165
    · by_cases hl : wd s 1 < wd s 0
      · have T := 0
        have F0 : Hid ((mk s 0 == 165) = true) := by show _ = _; simpa using m0
        have F1 : Hid ((mk s 1 == 165) = true) := by show _ = _; simpa using m1
        have gl : decide (g1 < g0) = true := by rw [ha0, ha1]; simpa using hl
        have hsp : spareP s = 1 := by unfold spareP; rw [if_pos ⟨m0, .inr hl⟩]
        have E : nextR s v = wr6 s 1 (v + 1) := by unfold nextR; rw [hsp]; rfl
        clear m0 ha0 ha1
        try clear m1
        try clear hl
        go_quiet ((first | (go_at_call 49; with_reducible exact Calls.quiet_of_same (HH0 _ _ F0 hmem1.dn)) | (go_at_call 49; with_reducible exact Calls.quiet_of_same (HH1 _ _ F1 hmem1.dn)) | (go_at_call 51; with_reducible exact Calls.quiet_of (WW0 _ hmem1.dn)) | (go_at_call 51; with_reducible exact Calls.quiet_of (WW1 _ hmem1.dn))))
        go_wp2
        clear d0 d1 d2 d3
        have hmem2 : IsRef (w1.drewN nq) p q s := hmem1
        have hc2 : IsRCell (w1.drewN nq) c p mx v false := hc1
        have hg2 : Chg [p, q, c] w (w1.drewN nq) := hg1.drewN nq
        generalize w1.drewN nq = w2 at hmem2 hc2 hg2 ⊢
        have d0 := hc2.cell 0
        have d2 := hc2.cell 2
        simp at d0 d2
        have s2 := hg2.size
        have HR : Hid (wr6 s 1 (v + 1) = nextR s v) := E.symm
        have HQ : Hid (q < w.heap.size ∧ c ≠ p ∧ c ≠ q ∧ s.Ok 100000) := ⟨hq, hcp, hcq, hok⟩
        clear hmem1 hc1 hg1 hmem hok hcp hcq E
        go_region_held (fun X => X.cell? ⟨c, 0, none⟩ = some (.pointer (some ⟨p, 0, none⟩)) ∧ X.cell? ⟨c, 2, none⟩ = some (.int .u32 v)) (first | (exact ⟨d0, d2⟩) | (exact ⟨x0, x2⟩)) ((first | (go_at_call 50; refine (rcwrite_any p q 1 s (v + 1) _ (hmem2.keep (Chg.refl [] _).drew (by simp) (by simp)) (by have := HQ.out; simp; omega) (by omega) HQ.out.2.2.2 HW.out).mono ?_; rintro e w3 ⟨rfl, hm3, kk⟩; rw [HR.out] at hm3; have hc3 := kk.blk hc2.drew (by have := HQ.out; simp; omega); replace hg2 := hg2.drew.more kk (by simp); have x0 := hc3.cell 0; have x2 := hc3.cell 2; simp at x0 x2; clear kk)))
        clear d0 d2 x0 x2
        have x0 := hc3.cell 0
        have x1 := hc3.cell 1
        have x2 := hc3.cell 2
        have x3 := hc3.cell 3
        simp at x0 x1 x2 x3
        have y2 : w3.frozen? ⟨c, 2, none⟩ = false := Blk.free hc3 2
        have y3 : w3.frozen? ⟨c, 3, none⟩ = false := Blk.free hc3 3
        have HE : Hid ((wr6 s 1 (v + 1)).2 = (nextR s v).2) := by show _ = _; rw [HR.out]
        by_cases he : (wr6 s 1 (v + 1)).2 = 0
        · go_wp2
          go_ret2
          exact ⟨.inl ⟨by rw [← HE.out]; exact he, rfl, Blk.set' hc3 2 _ rfl⟩, hm3.keep ((Chg.refl [c] _).setCell (by simp) _) (by have := HQ.out; simp; omega) (by have := HQ.out; simp; omega), hg2.setCell (by simp) _⟩
        · have he' : ((wr6 s 1 (v + 1)).2 != 0) = true := by simpa using he
          go_wp2
          go_ret2
          exact ⟨.inr ⟨by rw [← HE.out]; exact he, rfl, Blk.set' hc3 3 _ rfl⟩, hm3.keep ((Chg.refl [c] _).setCell (by simp) _) (by have := HQ.out; simp; omega) (by have := HQ.out; simp; omega), hg2.setCell (by simp) _⟩
      · have T := 0
        have F0 : Hid ((mk s 0 == 165) = true) := by show _ = _; simpa using m0
        have F1 : Hid ((mk s 1 == 165) = true) := by show _ = _; simpa using m1
        have gl : decide (g1 < g0) = false := by rw [ha0, ha1]; simpa using hl
        have hsp : spareP s = 0 := by unfold spareP; rw [if_neg (fun h => h.2.elim (fun h => h m1) hl)]
        have E : nextR s v = wr6 s 0 (v + 1) := by unfold nextR; rw [hsp]; rfl
        clear m0 ha0 ha1
        try clear m1
        try clear hl
        go_quiet ((first | (go_at_call 49; with_reducible exact Calls.quiet_of_same (HH0 _ _ F0 hmem1.dn)) | (go_at_call 49; with_reducible exact Calls.quiet_of_same (HH1 _ _ F1 hmem1.dn)) | (go_at_call 51; with_reducible exact Calls.quiet_of (WW0 _ hmem1.dn)) | (go_at_call 51; with_reducible exact Calls.quiet_of (WW1 _ hmem1.dn))))
        go_wp2
        clear d0 d1 d2 d3
        have hmem2 : IsRef (w1.drewN nq) p q s := hmem1
        have hc2 : IsRCell (w1.drewN nq) c p mx v false := hc1
        have hg2 : Chg [p, q, c] w (w1.drewN nq) := hg1.drewN nq
        generalize w1.drewN nq = w2 at hmem2 hc2 hg2 ⊢
        have d0 := hc2.cell 0
        have d2 := hc2.cell 2
        simp at d0 d2
        have s2 := hg2.size
        have HR : Hid (wr6 s 0 (v + 1) = nextR s v) := E.symm
        have HQ : Hid (q < w.heap.size ∧ c ≠ p ∧ c ≠ q ∧ s.Ok 100000) := ⟨hq, hcp, hcq, hok⟩
        clear hmem1 hc1 hg1 hmem hok hcp hcq E
        go_region_held (fun X => X.cell? ⟨c, 0, none⟩ = some (.pointer (some ⟨p, 0, none⟩)) ∧ X.cell? ⟨c, 2, none⟩ = some (.int .u32 v)) (first | (exact ⟨d0, d2⟩) | (exact ⟨x0, x2⟩)) ((first | (go_at_call 50; refine (rcwrite_any p q 0 s (v + 1) _ (hmem2.keep (Chg.refl [] _).drew (by simp) (by simp)) (by have := HQ.out; simp; omega) (by omega) HQ.out.2.2.2 HW.out).mono ?_; rintro e w3 ⟨rfl, hm3, kk⟩; rw [HR.out] at hm3; have hc3 := kk.blk hc2.drew (by have := HQ.out; simp; omega); replace hg2 := hg2.drew.more kk (by simp); have x0 := hc3.cell 0; have x2 := hc3.cell 2; simp at x0 x2; clear kk)))
        clear d0 d2 x0 x2
        have x0 := hc3.cell 0
        have x1 := hc3.cell 1
        have x2 := hc3.cell 2
        have x3 := hc3.cell 3
        simp at x0 x1 x2 x3
        have y2 : w3.frozen? ⟨c, 2, none⟩ = false := Blk.free hc3 2
        have y3 : w3.frozen? ⟨c, 3, none⟩ = false := Blk.free hc3 3
        have HE : Hid ((wr6 s 0 (v + 1)).2 = (nextR s v).2) := by show _ = _; rw [HR.out]
        by_cases he : (wr6 s 0 (v + 1)).2 = 0
        · go_wp2
          go_ret2
          exact ⟨.inl ⟨by rw [← HE.out]; exact he, rfl, Blk.set' hc3 2 _ rfl⟩, hm3.keep ((Chg.refl [c] _).setCell (by simp) _) (by have := HQ.out; simp; omega) (by have := HQ.out; simp; omega), hg2.setCell (by simp) _⟩
        · have he' : ((wr6 s 0 (v + 1)).2 != 0) = true := by simpa using he
          go_wp2
          go_ret2
          exact ⟨.inr ⟨by rw [← HE.out]; exact he, rfl, Blk.set' hc3 3 _ rfl⟩, hm3.keep ((Chg.refl [c] _).setCell (by simp) _) (by have := HQ.out; simp; omega) (by have := HQ.out; simp; omega), hg2.setCell (by simp) _⟩
    · have T := 0
      have F0 : Hid ((mk s 0 == 165) = true) := by show _ = _; simpa using m0
      have F1 : Hid ((mk s 1 == 165) = false) := by show _ = _; simpa using m1
      have hsp : spareP s = 1 := by unfold spareP; rw [if_pos ⟨m0, .inl m1⟩]
      have E : nextR s v = wr6 s 1 (v + 1) := by unfold nextR; rw [hsp]; rfl
      clear m0 ha0 ha1
      try clear m1
      try clear hl
      go_quiet ((first | (go_at_call 49; with_reducible exact Calls.quiet_of_same (HH0 _ _ F0 hmem1.dn)) | (go_at_call 49; with_reducible exact Calls.quiet_of_same (HH1 _ _ F1 hmem1.dn)) | (go_at_call 51; with_reducible exact Calls.quiet_of (WW0 _ hmem1.dn)) | (go_at_call 51; with_reducible exact Calls.quiet_of (WW1 _ hmem1.dn))))
      go_wp2
      clear d0 d1 d2 d3
      have hmem2 : IsRef (w1.drewN nq) p q s := hmem1
      have hc2 : IsRCell (w1.drewN nq) c p mx v false := hc1
      have hg2 : Chg [p, q, c] w (w1.drewN nq) := hg1.drewN nq
      generalize w1.drewN nq = w2 at hmem2 hc2 hg2 ⊢
      have d0 := hc2.cell 0
      have d2 := hc2.cell 2
      simp at d0 d2
      have s2 := hg2.size
      have HR : Hid (wr6 s 1 (v + 1) = nextR s v) := E.symm
      have HQ : Hid (q < w.heap.size ∧ c ≠ p ∧ c ≠ q ∧ s.Ok 100000) := ⟨hq, hcp, hcq, hok⟩
      clear hmem1 hc1 hg1 hmem hok hcp hcq E
      go_region_held (fun X => X.cell? ⟨c, 0, none⟩ = some (.pointer (some ⟨p, 0, none⟩)) ∧ X.cell? ⟨c, 2, none⟩ = some (.int .u32 v)) (first | (exact ⟨d0, d2⟩) | (exact ⟨x0, x2⟩)) ((first | (go_at_call 50; refine (rcwrite_any p q 1 s (v + 1) _ (hmem2.keep (Chg.refl [] _).drew (by simp) (by simp)) (by have := HQ.out; simp; omega) (by omega) HQ.out.2.2.2 HW.out).mono ?_; rintro e w3 ⟨rfl, hm3, kk⟩; rw [HR.out] at hm3; have hc3 := kk.blk hc2.drew (by have := HQ.out; simp; omega); replace hg2 := hg2.drew.more kk (by simp); have x0 := hc3.cell 0; have x2 := hc3.cell 2; simp at x0 x2; clear kk)))
      clear d0 d2 x0 x2
      have x0 := hc3.cell 0
      have x1 := hc3.cell 1
      have x2 := hc3.cell 2
      have x3 := hc3.cell 3
      simp at x0 x1 x2 x3
      have y2 : w3.frozen? ⟨c, 2, none⟩ = false := Blk.free hc3 2
      have y3 : w3.frozen? ⟨c, 3, none⟩ = false := Blk.free hc3 3
      have HE : Hid ((wr6 s 1 (v + 1)).2 = (nextR s v).2) := by show _ = _; rw [HR.out]
      by_cases he : (wr6 s 1 (v + 1)).2 = 0
      · go_wp2
        go_ret2
        exact ⟨.inl ⟨by rw [← HE.out]; exact he, rfl, Blk.set' hc3 2 _ rfl⟩, hm3.keep ((Chg.refl [c] _).setCell (by simp) _) (by have := HQ.out; simp; omega) (by have := HQ.out; simp; omega), hg2.setCell (by simp) _⟩
      · have he' : ((wr6 s 1 (v + 1)).2 != 0) = true := by simpa using he
        go_wp2
        go_ret2
        exact ⟨.inr ⟨by rw [← HE.out]; exact he, rfl, Blk.set' hc3 3 _ rfl⟩, hm3.keep ((Chg.refl [c] _).setCell (by simp) _) (by have := HQ.out; simp; omega) (by have := HQ.out; simp; omega), hg2.setCell (by simp) _⟩
  · have T := 0
    have F0 : Hid ((mk s 0 == 165) = false) := by show _ = _; simpa using m0
    have hsp : spareP s = 0 := by unfold spareP; rw [if_neg (fun h => m0 h.1)]
    have E : nextR s v = wr6 s 0 (v + 1) := by unfold nextR; rw [hsp]; rfl
    clear m0 ha0 ha1
    try clear m1
    try clear hl
    go_quiet ((first | (go_at_call 49; with_reducible exact Calls.quiet_of_same (HH0 _ _ F0 hmem1.dn)) | (go_at_call 49; with_reducible exact Calls.quiet_of_same (HH1 _ _ F1 hmem1.dn)) | (go_at_call 51; with_reducible exact Calls.quiet_of (WW0 _ hmem1.dn)) | (go_at_call 51; with_reducible exact Calls.quiet_of (WW1 _ hmem1.dn))))
    go_wp2
    clear d0 d1 d2 d3
    have hmem2 : IsRef (w1.drewN nq) p q s := hmem1
    have hc2 : IsRCell (w1.drewN nq) c p mx v false := hc1
    have hg2 : Chg [p, q, c] w (w1.drewN nq) := hg1.drewN nq
    generalize w1.drewN nq = w2 at hmem2 hc2 hg2 ⊢
    have d0 := hc2.cell 0
    have d2 := hc2.cell 2
    simp at d0 d2
    have s2 := hg2.size
    have HR : Hid (wr6 s 0 (v + 1) = nextR s v) := E.symm
    have HQ : Hid (q < w.heap.size ∧ c ≠ p ∧ c ≠ q ∧ s.Ok 100000) := ⟨hq, hcp, hcq, hok⟩
    clear hmem1 hc1 hg1 hmem hok hcp hcq E
    go_region_held (fun X => X.cell? ⟨c, 0, none⟩ = some (.pointer (some ⟨p, 0, none⟩)) ∧ X.cell? ⟨c, 2, none⟩ = some (.int .u32 v)) (first | (exact ⟨d0, d2⟩) | (exact ⟨x0, x2⟩)) ((first | (go_at_call 50; refine (rcwrite_any p q 0 s (v + 1) _ (hmem2.keep (Chg.refl [] _).drew (by simp) (by simp)) (by have := HQ.out; simp; omega) (by omega) HQ.out.2.2.2 HW.out).mono ?_; rintro e w3 ⟨rfl, hm3, kk⟩; rw [HR.out] at hm3; have hc3 := kk.blk hc2.drew (by have := HQ.out; simp; omega); replace hg2 := hg2.drew.more kk (by simp); have x0 := hc3.cell 0; have x2 := hc3.cell 2; simp at x0 x2; clear kk)))
    clear d0 d2 x0 x2
    have x0 := hc3.cell 0
    have x1 := hc3.cell 1
    have x2 := hc3.cell 2
    have x3 := hc3.cell 3
    simp at x0 x1 x2 x3
    have y2 : w3.frozen? ⟨c, 2, none⟩ = false := Blk.free hc3 2
    have y3 : w3.frozen? ⟨c, 3, none⟩ = false := Blk.free hc3 3
    have HE : Hid ((wr6 s 0 (v + 1)).2 = (nextR s v).2) := by show _ = _; rw [HR.out]
    by_cases he : (wr6 s 0 (v + 1)).2 = 0
    · go_wp2
      go_ret2
      exact ⟨.inl ⟨by rw [← HE.out]; exact he, rfl, Blk.set' hc3 2 _ rfl⟩, hm3.keep ((Chg.refl [c] _).setCell (by simp) _) (by have := HQ.out; simp; omega) (by have := HQ.out; simp; omega), hg2.setCell (by simp) _⟩
    · have he' : ((wr6 s 0 (v + 1)).2 != 0) = true := by simpa using he
      go_wp2
      go_ret2
      exact ⟨.inr ⟨by rw [← HE.out]; exact he, rfl, Blk.set' hc3 3 _ rfl⟩, hm3.keep ((Chg.refl [c] _).setCell (by simp) _) (by have := HQ.out; simp; omega) (by have := HQ.out; simp; omega), hg2.setCell (by simp) _⟩
end Go.Proofs.Ytcmhalmmaodmhaa
