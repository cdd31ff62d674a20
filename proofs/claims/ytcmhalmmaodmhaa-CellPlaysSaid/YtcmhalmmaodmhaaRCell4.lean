/-
  DERIVED. The walk of the document's Open.
-/
import Derived.Test.YtcmhalmmaodmhaaRCell3
import Derived.Test.YtcmhalmmaodmhaaCPure3
namespace Go.Proofs.Ytcmhalmmaodmhaa
open Go.RowKit
set_option linter.unusedSimpArgs false
set_option linter.unusedVariables false

/-- One round of the document's repair. -/
def rstep (k j : Nat) (s : MS) : MS × Int :=
  if mk s k = 165 then (s, 0) else if mk s j = 165 then wr6 s k (wd s j) else if mk s k = 0 then (s, 0) else s.write (5 * (k : Int)) 0

theorem rstep_left {s : MS} {k j : Nat} (hk : k ≤ 1) (hkj : k + j = 1) (hl : 10 ≤ s.B.length) (hb : s.Bytes) (ho : s.off = false) :
    Left s (rstep k j s).1 (rstep k j s).2 ∧ (mk s j = 165 ∨ (rstep k j s).2 = 0 → mk (rstep k j s).1 j = mk s j) ∧ (mk s k ≠ 165 → mk s j ≠ 165 → (rstep k j s).2 = 0 → mk (rstep k j s).1 k = 0) := by
  unfold rstep
  by_cases h1 : mk s k = 165
  · rw [if_pos h1]; exact ⟨⟨rfl, hb, .inl ⟨rfl, ho⟩⟩, fun _ => rfl, fun h => absurd h1 h⟩
  · rw [if_neg h1]
    by_cases h2 : mk s j = 165
    · rw [if_pos h2]
      have hw := wr6_wr s k (wd s j) hk hl hb (wd_bd hb j)
      exact ⟨hw.left, fun _ => mk_of_wr hw (by omega), fun _ h => absurd h2 h⟩
    · rw [if_neg h2]
      by_cases h3 : mk s k = 0
      · rw [if_pos h3]; exact ⟨⟨rfl, hb, .inl ⟨rfl, ho⟩⟩, fun _ => rfl, fun _ _ _ => h3⟩
      · rw [if_neg h3]
        have hi : ((5 * k : Nat) : Int) = 5 * (k : Int) := by omega
        have := write_cases s (5 * k) 0 (by omega)
        rw [hi] at this
        rcases this with ⟨e, b, _, o⟩ | ⟨e, b, o⟩
        · refine ⟨⟨by rw [b]; simp, set_bytes hb (by omega) (by omega) b, .inl ⟨e, o⟩⟩, fun _ => ?_, fun _ _ _ => ?_⟩
          · unfold mk; rw [b, getD_set _ _ _ _ (by omega)]; rw [if_neg (by omega)]
          · unfold mk; rw [b, getD_set _ _ _ _ (by omega)]; simp
        · refine ⟨⟨by rw [b], fun j => by rw [b]; exact hb j, .inr ⟨e, o⟩⟩, fun _ => ?_, fun _ _ h0 => ?_⟩
          · unfold mk; rw [b]
          · rw [e] at h0; cases h0

theorem openR_steps {s : MS} {mx : Int} (hm : mx ≠ 0) (hl : 10 ≤ s.B.length) (hb : s.Bytes) (ho : s.off = false) : openR s mx = andThen (rstep 0 1 s) (rstep 1 0) := by
  have h01 := rstep_left (s := s) (k := 0) (j := 1) (by omega) rfl hl hb ho
  have hw := wr6_wr s 0 (wd s 1) (by omega) hl hb (wd_bd hb 1)
  unfold openR
  rw [if_neg (by omega), if_neg (by rw [ho]; decide)]
  unfold repairP
  by_cases m0 : mk s 0 = 165
  · have e0 : rstep 0 1 s = (s, 0) := by unfold rstep; rw [if_pos m0]
    rw [e0, andThen_yes (by simp)]
    unfold rstep
    by_cases m1 : mk s 1 = 165
    · rw [if_pos ⟨m0, m1⟩, if_pos m1]
    · rw [if_neg (fun h => m1 h.2), if_pos m0, if_neg m1, if_pos m0]
  · rw [if_neg (fun h => m0 h.1), if_neg m0]
    by_cases m1 : mk s 1 = 165
    · rw [if_pos m1]
      have e0 : rstep 0 1 s = wr6 s 0 (wd s 1) := by unfold rstep; rw [if_neg m0, if_pos m1]
      rw [e0]
      by_cases he : (wr6 s 0 (wd s 1)).2 = 0
      · rw [andThen_yes (by simp [he])]
        have : mk (wr6 s 0 (wd s 1)).1 1 = 165 := by rw [mk_of_wr hw (by omega)]; exact m1
        unfold rstep
        rw [if_pos this, ← he]
      · rw [andThen_no (by simp [he])]
    · rw [if_neg m1]
      have e0 : rstep 0 1 s = if mk s 0 = 0 then (s, 0) else s.write 0 0 := by unfold rstep; rw [if_neg m0, if_neg m1]; rfl
      unfold zap
      rw [← e0]
      by_cases he : (rstep 0 1 s).2 = 0
      · rw [andThen_yes (by simp [he]), andThen_yes (by simp [he])]
        have a1 := h01.2.1 (.inr he)
        have a2 := h01.2.2 m0 m1 he
        generalize rstep 0 1 s = r at a1 a2 ⊢
        by_cases m1z : mk s 1 = 0
        · rw [if_pos m1z]; unfold rstep; rw [a1, a2, if_neg m1, if_neg (by decide), if_pos m1z]
        · rw [if_neg m1z]; unfold rstep; rw [a1, a2, if_neg m1, if_neg (by decide), if_neg m1z]; rfl
      · rw [andThen_no (by simp [he]), andThen_no (by simp [he])]

/-- The document's cell. -/
def IsRCell (w : World) (d p : Nat) (mx v : Int) (dead : Bool) : Prop := Blk w d #[.pointer (some ⟨p, 0, none⟩), .int .u32 mx, .int .u32 v, .bool dead] 72

/-- The memory ahead of round k. -/
def St (s : MS) (k : Nat) (t : MS) : Prop := (k = 0 ∧ t = s) ∨ (k = 1 ∧ rstep 0 1 s = (t, 0)) ∨ (k = 2 ∧ andThen (rstep 0 1 s) (rstep 1 0) = (t, 0))

theorem St.next {s t t' : MS} {k j : Nat} (h : St s k t) (hk : k < 2) (hkj : k + j = 1) (e : rstep k j t = (t', 0)) : St s (k + 1) t' := by
  rcases h with ⟨rfl, rfl⟩ | ⟨rfl, h⟩ | ⟨rfl, _⟩
  · obtain rfl : j = 1 := by omega
    exact .inr (.inl ⟨rfl, e⟩)
  · obtain rfl : j = 0 := by omega
    refine .inr (.inr ⟨rfl, ?_⟩)
    rw [h, andThen_yes (by simp)]; exact e
  · omega

theorem St.fail {s t t' : MS} {k j : Nat} {e' : Int} (h : St s k t) (hk : k < 2) (hkj : k + j = 1) (e : rstep k j t = (t', e')) (he : e' ≠ 0) : andThen (rstep 0 1 s) (rstep 1 0) = (t', e') := by
  rcases h with ⟨rfl, rfl⟩ | ⟨rfl, h⟩ | ⟨rfl, _⟩
  · obtain rfl : j = 1 := by omega
    rw [andThen_no (by rw [e]; simpa using he)]; exact e
  · obtain rfl : j = 0 := by omega
    rw [h, andThen_yes (by simp)]; exact e
  · omega

theorem rstep_ok {s : MS} {k j : Nat} {W : Int} (h : s.Ok W) : (rstep k j s).1.Ok (W + 6) := by
  unfold rstep
  split
  · exact ok_le h (by omega)
  · split
    · exact (kp_wr6 _ _ _).ok _ h
    · split
      · exact ok_le h (by omega)
      · exact ok_le (h.write _ _) (by omega)

set_option maxRecDepth 1000000 in
set_option maxHeartbeats 2000000 in
theorem ropen_any (p q : Nat) (s : MS) (mx : Int) (w : World) (h : IsRef w p q s) (hq : q < w.heap.size) (hok : s.Ok 50000) (hb : s.Bytes) (hm : mx ≠ 0) (hl : 10 ≤ s.B.length) (ho : s.off = false) :
    Calls Try.prog 34 #[.pointer (some ⟨p, 0, none⟩), .int .u32 mx] w fun e w' => (((openR s mx).2 = 0 ∧ ∃ c, e = .returned (.tuple #[.pointer (some ⟨c, 0, none⟩), .int .i64 0]) ∧ IsRCell w' c p mx (openV s) false ∧ w.heap.size ≤ c) ∨
      ((openR s mx).2 ≠ 0 ∧ e = .returned (.tuple #[.pointer none, .int .i64 (openR s mx).2]))) ∧ IsRef w' p q (openR s mx).1 ∧ Chg [p, q] w w' := by
  have E := openR_steps (mx := mx) hm hl hb ho
  obtain ⟨a, cap, c0, c1, c2, c3, c4, hf, hbl, hle, hr⟩ := h.cells
  have hlp := h.lt
  rw [ho] at c1
  have hd1 : (mx == 0) = false := by simpa using hm
  have hd2 : decide ((s.B.length : Int) < 10) = false := by simp; omega
  rw [E]
  clear E hf
  go_enter Try.func34, Try.ntmps34
  go_wp2_with (go_at_call 48; refine (rvalue_any p q s _ h hl hok.len hb).mono ?_; rintro e w1 ⟨rfl, hd⟩; replace hd : Dr w w1 := hd)
  have hr1 := hd.ref h
  have hg1 := hd.chg [p, q]
  have PL : Hid (p < w.heap.size ∧ q < w.heap.size) := ⟨hlp, hq⟩
  clear c0 c1 c2 c3 c4 hbl hle hr hd
  go_loopw [7] (fun vk wr => ∃ (k : Nat) (t : MS), k ≤ 2 ∧ vk = .int .i64 k ∧ St s k t ∧ t.off = false ∧ 10 ≤ t.B.length ∧ t.Bytes ∧ t.Ok (50000 + 6 * k) ∧ IsRef wr p q t ∧ Chg [p, q] w wr) (fun k _ => 2 - (intOf k).toNat)
  case atStart => exact ⟨0, s, by omega, rfl, .inl ⟨rfl, rfl⟩, ho, hl, hb, by simpa using hok, hr1, hg1⟩
  case round =>
    obtain ⟨k, t, hk, rfl, hst, hto, htl, htb, htk, htr, hg⟩ := hrel
    clear hr1 hg1 h hok hb hl ho
    by_cases hlt : k < 2
    · obtain ⟨j, hkj⟩ : ∃ j, k + j = 1 := ⟨1 - k, by omega⟩
      have hk' : (k : Int) < 2 := by omega
      have hlen := htk.len
      have hst' := rstep_left (s := t) (k := k) (j := j) (by omega) hkj htl htb hto
      have hko := rstep_ok (k := k) (j := j) htk
      have N := hst.next (t' := (rstep k j t).1) hlt hkj
      have F := hst.fail (t' := (rstep k j t).1) (e' := (rstep k j t).2) hlt hkj rfl
      have hjw : IntKind.i64.wrap (1 - (k : Int)) = (j : Int) := by rw [IntWalk.i64_in _ (by omega)]; omega
      have hjw2 : (1 - (k : Int)) = (j : Int) := by omega
      have T1 : True := trivial
      by_cases m1 : mk t k = 165
      · have e1 : rstep k j t = (t, 0) := by unfold rstep; rw [if_pos m1]
        rw [e1] at N
        have R1 : Hid (St s (k + 1) t) := N rfl
        have R2 : Hid (t.Ok (50000 + 6 * (k + 1 : Nat))) := ok_le htk (by omega)
        clear N F hko hst' hst e1
        by_cases m2 : mk t j = 165
        · go_wp2_with (first | (go_at_call 49; have _t := T1; refine (rholds_any p q j t _ htr (by omega) htl hlen).mono ?_; clear T1; rintro e w2 ⟨rfl, rfl⟩) | (go_at_call 49; refine (rholds_any p q k t _ htr (by omega) htl hlen).mono ?_; rintro e w2 ⟨rfl, rfl⟩))
          go_roundw
          case rel => exact ⟨k + 1, t, by omega, by go_num, R1.out, hto, htl, htb, R2.out, htr, hg⟩
          case measure => simp [intOf]; omega
        · go_wp2_with (first | (go_at_call 49; have _t := T1; refine (rholds_any p q j t _ htr (by omega) htl hlen).mono ?_; clear T1; rintro e w2 ⟨rfl, rfl⟩) | (go_at_call 49; refine (rholds_any p q k t _ htr (by omega) htl hlen).mono ?_; rintro e w2 ⟨rfl, rfl⟩))
          go_roundw
          case rel => exact ⟨k + 1, t, by omega, by go_num, R1.out, hto, htl, htb, R2.out, htr, hg⟩
          case measure => simp [intOf]; omega
      · have m1b : (mk t k == 165) = false := by simpa using m1
        by_cases m2 : mk t j = 165
        · have e1 : rstep k j t = wr6 t k (wd t j) := by unfold rstep; rw [if_neg m1, if_pos m2]
          rw [e1] at N F hko hst'
          have hwd := wd_bd htb j
          have HO : Hid (t.Ok 100000) := ok_le htk (by omega)
          obtain ⟨r, hr⟩ : ∃ r, r = wr6 t k (wd t j) := ⟨_, rfl⟩
          rw [← hr] at N F hko hst'
          have HR : Hid (wr6 t k (wd t j) = r) := hr.symm
          have HB : Hid (t.Bytes) := htb
          clear hr e1 hst
          by_cases he : r.2 = 0
          · have he' : (r.2 != 0) = false := by simp [he]
            have R1 : Hid (St s (k + 1) r.1) := N (by rw [← he])
            have R2 : Hid (r.1.off = false ∧ 10 ≤ r.1.B.length ∧ r.1.Bytes ∧ r.1.Ok (50000 + 6 * (k + 1 : Nat))) := ⟨(by rcases hst'.1.pow with ⟨_, o⟩ | ⟨e2, _⟩; exact o; rw [he] at e2; cases e2), by rw [hst'.1.len]; exact htl, hst'.1.bytes, ok_le hko (by omega)⟩
            clear N F hko hst' htb
            go_wp2_with (first | (go_at_call 49; have _t := T1; refine (rholds_any p q j t _ htr (by omega) htl hlen).mono ?_; clear T1; rintro e w2 ⟨rfl, rfl⟩) | (go_at_call 49; refine (rholds_any p q k t _ htr (by omega) htl hlen).mono ?_; rintro e w2 ⟨rfl, rfl⟩) | (go_at_call 51; refine (rword_any p q j t _ htr (by omega) htl hlen HB.out).mono ?_; rintro e w3 ⟨rfl, hd⟩; replace hd : Dr wr w3 := hd; have htr3 := hd.ref htr; have hg3 := hg.trans (hd.chg [p, q])) | (go_at_call 50; refine (rcwrite_any p q k t (wd t j) _ htr3 (by have := PL.out; have := hg3.size; omega) (by omega) HO.out hwd).mono ?_; rw [HR.out]; rintro e w4 ⟨rfl, htr4, k4⟩; have hg4 := hg3.trans k4))
            go_roundw
            case rel => exact ⟨k + 1, _, by omega, by go_num, R1.out, R2.out.1, R2.out.2.1, R2.out.2.2.1, R2.out.2.2.2, htr4, hg4⟩
            case measure => simp [intOf]; omega
          · have he' : (r.2 != 0) = true := by simp [he]
            have R1 : Hid (andThen (rstep 0 1 s) (rstep 1 0) = r) := F he
            have HE : Hid (r.2 ≠ 0) := he
            clear N F hko hst' htb he
            go_wp2_with (first | (go_at_call 49; have _t := T1; refine (rholds_any p q j t _ htr (by omega) htl hlen).mono ?_; clear T1; rintro e w2 ⟨rfl, rfl⟩) | (go_at_call 49; refine (rholds_any p q k t _ htr (by omega) htl hlen).mono ?_; rintro e w2 ⟨rfl, rfl⟩) | (go_at_call 51; refine (rword_any p q j t _ htr (by omega) htl hlen HB.out).mono ?_; rintro e w3 ⟨rfl, hd⟩; replace hd : Dr wr w3 := hd; have htr3 := hd.ref htr; have hg3 := hg.trans (hd.chg [p, q])) | (go_at_call 50; refine (rcwrite_any p q k t (wd t j) _ htr3 (by have := PL.out; have := hg3.size; omega) (by omega) HO.out hwd).mono ?_; rw [HR.out]; rintro e w4 ⟨rfl, htr4, k4⟩; have hg4 := hg3.trans k4))
            go_ret2
            rw [R1.out]
            exact ⟨.inr ⟨HE.out, rfl⟩, htr4, hg4⟩
        · have m2b : (mk t j == 165) = false := by simpa using m2
          have hcells := htr.cells
          obtain ⟨a, cap, c0, c1, c2, c3, c4, hf, hbl, hle, hr⟩ := hcells
          obtain ⟨rfl, hrow, hpq⟩ := hr (by omega)
          have hc := hrow.cell (i := 5 * k) (by omega)
          have hi : (5 * (k : Int)).toNat = 5 * k := by omega
          have hlt5 : 5 * (k : Int) < (t.B.length : Int) := by omega
          have hge : 0 ≤ 5 * (k : Int) := by omega
          rw [show t.B.getD (5 * k) 0 = mk t k from rfl] at hc
          clear c1 c2 c3 c4 hf hbl hle hrow
          by_cases m3 : mk t k = 0
          · have e1 : rstep k j t = (t, 0) := by unfold rstep; rw [if_neg m1, if_neg m2, if_pos m3]
            rw [e1] at N
            have R1 : Hid (St s (k + 1) t) := N rfl
            have R2 : Hid (t.Ok (50000 + 6 * (k + 1 : Nat))) := ok_le htk (by omega)
            clear N F hko hst' hst e1
            go_wp2_with (first | (go_at_call 49; have _t := T1; refine (rholds_any p q j t _ htr (by omega) htl hlen).mono ?_; clear T1; rintro e w2 ⟨rfl, rfl⟩) | (go_at_call 49; refine (rholds_any p q k t _ htr (by omega) htl hlen).mono ?_; rintro e w2 ⟨rfl, rfl⟩))
            go_roundw
            case rel => exact ⟨k + 1, t, by omega, by go_num, R1.out, hto, htl, htb, R2.out, htr, hg⟩
            case measure => simp [intOf]; omega
          · have e1 : rstep k j t = t.write (5 * (k : Int)) 0 := by unfold rstep; rw [if_neg m1, if_neg m2, if_neg m3]
            rw [e1] at N F hko hst'
            have HO : Hid (t.Ok 100000) := ok_le htk (by omega)
            obtain ⟨r, hr⟩ : ∃ r, r = t.write (5 * (k : Int)) 0 := ⟨_, rfl⟩
            rw [← hr] at N F hko hst'
            have HR : Hid (t.write (5 * (k : Int)) 0 = r) := hr.symm
            clear hr e1 hst
            by_cases he : r.2 = 0
            · have he' : (r.2 != 0) = false := by simp [he]
              have R1 : Hid (St s (k + 1) r.1) := N (by rw [← he])
              have R2 : Hid (r.1.off = false ∧ 10 ≤ r.1.B.length ∧ r.1.Bytes ∧ r.1.Ok (50000 + 6 * (k + 1 : Nat))) := ⟨(by rcases hst'.1.pow with ⟨_, o⟩ | ⟨e2, _⟩; exact o; rw [he] at e2; cases e2), by rw [hst'.1.len]; exact htl, hst'.1.bytes, ok_le hko (by omega)⟩
              clear N F hko hst' htb
              go_wp2_with (first | (go_at_call 49; have _t := T1; refine (rholds_any p q j t _ htr (by omega) htl hlen).mono ?_; clear T1; rintro e w2 ⟨rfl, rfl⟩) | (go_at_call 49; refine (rholds_any p q k t _ htr (by omega) htl hlen).mono ?_; rintro e w2 ⟨rfl, rfl⟩) | (go_at_call 42; refine (rwrite_any p q t (5 * (k : Int)) 0 _ htr hlen HO.out.l0 HO.out.l1 HO.out.w0 (by have := HO.out.w1; omega)).mono ?_; rw [HR.out]; rintro e w4 ⟨rfl, htr4, k4⟩; have hg4 := hg.trans k4))
              go_roundw
              case rel => exact ⟨k + 1, _, by omega, by go_num, R1.out, R2.out.1, R2.out.2.1, R2.out.2.2.1, R2.out.2.2.2, htr4, hg4⟩
              case measure => simp [intOf]; omega
            · have he' : (r.2 != 0) = true := by simp [he]
              have R1 : Hid (andThen (rstep 0 1 s) (rstep 1 0) = r) := F he
              have HE : Hid (r.2 ≠ 0) := he
              clear N F hko hst' htb he
              go_wp2_with (first | (go_at_call 49; have _t := T1; refine (rholds_any p q j t _ htr (by omega) htl hlen).mono ?_; clear T1; rintro e w2 ⟨rfl, rfl⟩) | (go_at_call 49; refine (rholds_any p q k t _ htr (by omega) htl hlen).mono ?_; rintro e w2 ⟨rfl, rfl⟩) | (go_at_call 42; refine (rwrite_any p q t (5 * (k : Int)) 0 _ htr hlen HO.out.l0 HO.out.l1 HO.out.w0 (by have := HO.out.w1; omega)).mono ?_; rw [HR.out]; rintro e w4 ⟨rfl, htr4, k4⟩; have hg4 := hg.trans k4))
              go_ret2
              rw [R1.out]
              exact ⟨.inr ⟨HE.out, rfl⟩, htr4, hg4⟩
    · obtain rfl : k = 2 := by omega
      have R1 : Hid (andThen (rstep 0 1 s) (rstep 1 0) = (t, 0)) := by
        rcases hst with ⟨h, _⟩ | ⟨h, _⟩ | ⟨_, h⟩
        · omega
        · omega
        · exact h
      go_wp2
      go_ret2
      rw [R1.out]
      exact ⟨.inl ⟨rfl, _, rfl, Blk.new _ _ _, hg.size⟩, htr.keep ((Chg.refl [] _).alloc _) (by simp) (by simp), hg.alloc _⟩

end Go.Proofs.Ytcmhalmmaodmhaa
