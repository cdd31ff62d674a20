/-
  DERIVED. The walks of package cell: a slot written.
-/
import Derived.Test.YtcmhalmmaodmhaaCell
import Derived.Test.YtcmhalmmaodmhaaStep
namespace Go.Proofs.Ytcmhalmmaodmhaa
open Go.RowKit
set_option linter.unusedSimpArgs false
set_option linter.unusedVariables false

/-- Where the first went well, the second. -/
def andThen (r : MS × Int) (f : MS → MS × Int) : MS × Int := if r.2 = 0 then f r.1 else r

/-- A slot becomes a word: the six writes, till one fails. -/
def wr6 (s : MS) (k : Nat) (W : Int) : MS × Int :=
  andThen (s.write ((k : Int) * 5) 0) fun s1 => andThen (s1.write ((k : Int) * 5 + 1) (W / 16777216)) fun s2 => andThen (s2.write ((k : Int) * 5 + 1 + 1) (W / 65536 % 256)) fun s3 =>
    andThen (s3.write ((k : Int) * 5 + 1 + 2) (W / 256 % 256)) fun s4 => andThen (s4.write ((k : Int) * 5 + 1 + 3) (W % 256)) fun s5 => s5.write ((k : Int) * 5) 165

theorem andThen_no {r : MS × Int} {f : MS → MS × Int} (h : (r.2 != 0) = true) : andThen r f = r := by
  unfold andThen; rw [if_neg (by simpa using h)]
theorem andThen_yes {r : MS × Int} {f : MS → MS × Int} (h : (r.2 != 0) = false) : andThen r f = f r.1 := by
  unfold andThen; rw [if_pos (by simpa using h)]

theorem andThen_ok {r : MS × Int} {f : MS → MS × Int} {V : Int} (h : r.1.Ok V) (hf : r.1.Ok V → (f r.1).1.Ok (V + 5)) : (andThen r f).1.Ok (V + 5) := by
  unfold andThen; split
  · exact hf h
  · exact ⟨h.l0, h.l1, h.w0, by have := h.w1; omega, h.len⟩

set_option maxRecDepth 1000000 in
set_option maxHeartbeats 1000000 in
theorem cwrite_any (p q k : Nat) (s : MS) (W : Int) (w : World) (h : IsMem w p q s) (hk : k ≤ 1) (hok : s.Ok 100000) (hW : 0 ≤ W ∧ W ≤ 4294967295) :
    Calls Try.prog 45 #[.pointer (some ⟨p, 0, none⟩), .int .i64 k, .int .u32 W] w fun e w' => e = .returned (.int .i64 (wr6 s k W).2) ∧ IsMem w' p q (wr6 s k W).1 ∧ Chg [p, q] w w' := by
  have hg : Chg [p, q] w w := Chg.refl _ _
  obtain ⟨r1, q1⟩ : ∃ r, r = MS.write s ((k : Int) * 5) (0) := ⟨_, rfl⟩
  have Q1 : Hid _ := q1
  have k1 : r1.1.Ok (100000 + 1) := by rw [q1]; have := hok.write ((k : Int) * 5) (0); exact ⟨this.l0, this.l1, this.w0, by have := this.w1; omega, this.len⟩
  obtain ⟨r2, q2⟩ : ∃ r, r = MS.write r1.1 ((k : Int) * 5 + 1) (W / 16777216) := ⟨_, rfl⟩
  have Q2 : Hid _ := q2
  have k2 : r2.1.Ok (100000 + 2) := by rw [q2]; have := k1.write ((k : Int) * 5 + 1) (W / 16777216); exact ⟨this.l0, this.l1, this.w0, by have := this.w1; omega, this.len⟩
  obtain ⟨r3, q3⟩ : ∃ r, r = MS.write r2.1 ((k : Int) * 5 + 1 + 1) (W / 65536 % 256) := ⟨_, rfl⟩
  have Q3 : Hid _ := q3
  have k3 : r3.1.Ok (100000 + 3) := by rw [q3]; have := k2.write ((k : Int) * 5 + 1 + 1) (W / 65536 % 256); exact ⟨this.l0, this.l1, this.w0, by have := this.w1; omega, this.len⟩
  obtain ⟨r4, q4⟩ : ∃ r, r = MS.write r3.1 ((k : Int) * 5 + 1 + 2) (W / 256 % 256) := ⟨_, rfl⟩
  have Q4 : Hid _ := q4
  have k4 : r4.1.Ok (100000 + 4) := by rw [q4]; have := k3.write ((k : Int) * 5 + 1 + 2) (W / 256 % 256); exact ⟨this.l0, this.l1, this.w0, by have := this.w1; omega, this.len⟩
  obtain ⟨r5, q5⟩ : ∃ r, r = MS.write r4.1 ((k : Int) * 5 + 1 + 3) (W % 256) := ⟨_, rfl⟩
  have Q5 : Hid _ := q5
  have k5 : r5.1.Ok (100000 + 5) := by rw [q5]; have := k4.write ((k : Int) * 5 + 1 + 3) (W % 256); exact ⟨this.l0, this.l1, this.w0, by have := this.w1; omega, this.len⟩
  obtain ⟨r6, q6⟩ : ∃ r, r = MS.write r5.1 ((k : Int) * 5) (165) := ⟨_, rfl⟩
  have Q6 : Hid _ := q6
  have k6 : r6.1.Ok (100000 + 6) := by rw [q6]; have := k5.write ((k : Int) * 5) (165); exact ⟨this.l0, this.l1, this.w0, by have := this.w1; omega, this.len⟩
  have K1 : Hid _ := k1
  have K2 : Hid _ := k2
  have K3 : Hid _ := k3
  have K4 : Hid _ := k4
  have K5 : Hid _ := k5
  have K6 : Hid _ := k6
  have K0 : Hid _ := hok
  have HW : Hid (wr6 s k W = andThen r1 fun s1 => andThen (s1.write ((k : Int) * 5 + 1) (W / 16777216)) fun s2 => andThen (s2.write ((k : Int) * 5 + 1 + 1) (W / 65536 % 256)) fun s3 => andThen (s3.write ((k : Int) * 5 + 1 + 2) (W / 256 % 256)) fun s4 => andThen (s4.write ((k : Int) * 5 + 1 + 3) (W % 256)) fun s5 => s5.write ((k : Int) * 5) 165) := by show _ = _; rw [q1]; rfl
  clear q1 q2 q3 q4 q5 q6 k1 k2 k3 k4 k5 k6 hok
  have hm := h
  clear h
  go_enter Try.func45, Try.ntmps45
  go_wp2_with (go_at_call 19; refine (write_any p q s _ _ _ hm K0.out.len K0.out.l0 K0.out.l1 K0.out.w0 ?_).mono ?_; have := K0.out.w1; omega; clear hm; rintro e w2 ⟨he, hm, kk⟩; rw [← Q1.out] at he hm; subst he; replace hg := hg.trans kk; clear kk)
  · have t1 : (r1.2 != 0) = true := by assumption
    have E : wr6 s k W = r1 := by rw [HW.out, andThen_no t1]
    go_ret
    rw [E]
    exact ⟨rfl, hm, hg⟩
  · have t1 : (r1.2 != 0) = false := by assumption
    refine wp_loop_rounds 5 ?_
    rw [rounds_succ]
    go_wp2_with (go_at_call 19; refine (write_any p q r1.1 _ _ _ hm K1.out.len K1.out.l0 K1.out.l1 K1.out.w0 ?_).mono ?_; have := K1.out.w1; omega; clear hm; rintro e w2 ⟨he, hm, kk⟩; rw [← Q2.out] at he hm; subst he; replace hg := hg.trans kk; clear kk)
    · have t2 : (r2.2 != 0) = true := by assumption
      have E : wr6 s k W = r2 := by rw [HW.out, andThen_yes t1, ← Q2.out, andThen_no t2]
      go_ret
      rw [E]
      exact ⟨rfl, hm, hg⟩
    · have t2 : (r2.2 != 0) = false := by assumption
      rw [rounds_succ]
      go_wp2_with (go_at_call 19; refine (write_any p q r2.1 _ _ _ hm K2.out.len K2.out.l0 K2.out.l1 K2.out.w0 ?_).mono ?_; have := K2.out.w1; omega; clear hm; rintro e w2 ⟨he, hm, kk⟩; rw [← Q3.out] at he hm; subst he; replace hg := hg.trans kk; clear kk)
      · have t3 : (r3.2 != 0) = true := by assumption
        have E : wr6 s k W = r3 := by rw [HW.out, andThen_yes t1, ← Q2.out, andThen_yes t2, ← Q3.out, andThen_no t3]
        go_ret
        rw [E]
        exact ⟨rfl, hm, hg⟩
      · have t3 : (r3.2 != 0) = false := by assumption
        rw [rounds_succ]
        go_wp2_with (go_at_call 19; refine (write_any p q r3.1 _ _ _ hm K3.out.len K3.out.l0 K3.out.l1 K3.out.w0 ?_).mono ?_; have := K3.out.w1; omega; clear hm; rintro e w2 ⟨he, hm, kk⟩; rw [← Q4.out] at he hm; subst he; replace hg := hg.trans kk; clear kk)
        · have t4 : (r4.2 != 0) = true := by assumption
          have E : wr6 s k W = r4 := by rw [HW.out, andThen_yes t1, ← Q2.out, andThen_yes t2, ← Q3.out, andThen_yes t3, ← Q4.out, andThen_no t4]
          go_ret
          rw [E]
          exact ⟨rfl, hm, hg⟩
        · have t4 : (r4.2 != 0) = false := by assumption
          rw [rounds_succ]
          go_wp2_with (go_at_call 19; refine (write_any p q r4.1 _ _ _ hm K4.out.len K4.out.l0 K4.out.l1 K4.out.w0 ?_).mono ?_; have := K4.out.w1; omega; clear hm; rintro e w2 ⟨he, hm, kk⟩; rw [← Q5.out] at he hm; subst he; replace hg := hg.trans kk; clear kk)
          · have t5 : (r5.2 != 0) = true := by assumption
            have E : wr6 s k W = r5 := by rw [HW.out, andThen_yes t1, ← Q2.out, andThen_yes t2, ← Q3.out, andThen_yes t3, ← Q4.out, andThen_yes t4, ← Q5.out, andThen_no t5]
            go_ret
            rw [E]
            exact ⟨rfl, hm, hg⟩
          · have t5 : (r5.2 != 0) = false := by assumption
            rw [rounds_succ]
            go_wp2_with (go_at_call 19; refine (write_any p q r5.1 _ _ _ hm K5.out.len K5.out.l0 K5.out.l1 K5.out.w0 ?_).mono ?_; have := K5.out.w1; omega; clear hm; rintro e w2 ⟨he, hm, kk⟩; rw [← Q6.out] at he hm; subst he; replace hg := hg.trans kk; clear kk)
            have E : wr6 s k W = r6 := by rw [HW.out, andThen_yes t1, ← Q2.out, andThen_yes t2, ← Q3.out, andThen_yes t3, ← Q4.out, andThen_yes t4, ← Q5.out, andThen_yes t5, ← Q6.out]
            go_ret
            rw [E]
            exact ⟨rfl, hm, hg⟩

end Go.Proofs.Ytcmhalmmaodmhaa
