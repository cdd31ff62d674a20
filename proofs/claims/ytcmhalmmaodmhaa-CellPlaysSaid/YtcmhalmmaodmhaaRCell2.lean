/-
  DERIVED. The walks of the document's cell, more.
-/
import Derived.Test.YtcmhalmmaodmhaaRCell
import Derived.Deep.RegionHeld
namespace Go.Proofs.Ytcmhalmmaodmhaa
open Go.RowKit
set_option linter.unusedSimpArgs false
set_option linter.unusedVariables false

theorem IsRef.kept {w w1 : World} {n p q : Nat} {s : MS} (h : IsRef w p q s) (k : Chg [] (w.drewN n) w1) : IsRef w1 p q s :=
  IsRef.keep h (((Chg.refl [] w).drewN n).trans k) (by simp) (by simp)

theorem rholds_any (p q k : Nat) (s : MS) (w : World) (h : IsRef w p q s) (hk : k ≤ 1) (hlen2 : 10 ≤ s.B.length) (hlen : s.B.length ≤ 4096) :
    Calls Try.prog 49 #[.pointer (some ⟨p, 0, none⟩), .int .i64 k] w fun e w' => e = .returned (.bool (mk s k == 165)) ∧ w = w' := by
  obtain ⟨a, cap, c0, c1, c2, c3, c4, hf, hb, hl, hr⟩ := h.cells
  obtain ⟨rfl, hrow, hpq⟩ := hr (by omega)
  have hc := hrow.cell (i := 5 * k) (by omega)
  have hi : (5 * (k : Int)).toNat = 5 * k := by omega
  have hlt : 5 * (k : Int) < (s.B.length : Int) := by omega
  have hge : 0 ≤ 5 * (k : Int) := by omega
  rw [show s.B.getD (5 * k) 0 = mk s k from rfl] at hc
  go_enter Try.func49, Try.ntmps49
  go_wp2
  go_ret
  exact ⟨rfl, rfl⟩

set_option maxRecDepth 1000000 in
theorem rword_any (p q k : Nat) (s : MS) (w : World) (h : IsRef w p q s) (hk : k ≤ 1) (hlen2 : 10 ≤ s.B.length) (hlen : s.B.length ≤ 4096) (hb : s.Bytes) :
    Calls Try.prog 51 #[.pointer (some ⟨p, 0, none⟩), .int .i64 k] w fun e w' => e = .returned (.int .u32 (wd s k)) ∧ ∃ n, w' = w.drewN n := by
  obtain ⟨a, cap, c0, c1, c2, c3, c4, hf, hbl, hl, hr⟩ := h.cells
  obtain ⟨rfl, hrow, hpq⟩ := hr (by omega)
  have d0 := hrow.cell (i := 5 * k + 1) (by omega)
  have d1 := hrow.cell (i := 5 * k + 2) (by omega)
  have d2 := hrow.cell (i := 5 * k + 3) (by omega)
  have d3 := hrow.cell (i := 5 * k + 4) (by omega)
  have b0 := hb (5 * k + 1)
  have b1 := hb (5 * k + 2)
  have b2 := hb (5 * k + 3)
  have b3 := hb (5 * k + 4)
  have HH : Hid (∀ n c, 4 ≤ n → n ≤ 100 → Calls Try.prog 55 #[.slice (some ⟨q, 5 * k + 1, none⟩) n c] w fun e w' => e = .returned (.int .u32 (wd s k)) ∧ ∃ n, w' = w.drewN n) :=
    fun n c h4 h5 => word_any q (5 * k + 1) n c _ _ _ _ w h4 h5 d0 d1 d2 d3 b0 b1 b2 b3
  clear d0 d1 d2 d3 b0 b1 b2 b3
  rcases (show k = 0 ∨ k = 1 by omega) with rfl | rfl
  all_goals
    go_enter Try.func51, Try.ntmps51
    go_wp2_with (go_at_call 55; refine (HH.out 4 _ (by omega) (by omega)).mono ?_; rintro e w1 ⟨rfl, nn, rfl⟩)
    go_ret
    exact ⟨rfl, _, rfl⟩

theorem wr6_alt (s : MS) (k : Nat) (W : Int) : wr6 s k W =
  andThen (s.write (5 * (k : Int)) 0) fun s1 => andThen (s1.write (5 * (k : Int) + 1) (W / 16777216)) fun s2 => andThen (s2.write (5 * (k : Int) + 2) (W / 65536 % 256)) fun s3 =>
    andThen (s3.write (5 * (k : Int) + 3) (W / 256 % 256)) fun s4 => andThen (s4.write (5 * (k : Int) + 4) (W % 256)) fun s5 => s5.write (5 * (k : Int)) 165 := by
  unfold wr6
  rw [Int.mul_comm (k : Int) 5]
  rfl

set_option maxRecDepth 1000000 in
set_option maxHeartbeats 2000000 in
theorem rcwrite_any (p q k : Nat) (s : MS) (W : Int) (w : World) (h : IsRef w p q s) (hq : q < w.heap.size) (hk : k ≤ 1) (hok : s.Ok 100000) (hW : 0 ≤ W ∧ W ≤ 4294967295) :
    Calls Try.prog 50 #[.pointer (some ⟨p, 0, none⟩), .int .i64 k, .int .u32 W] w fun e w' => e = .returned (.int .i64 (wr6 s k W).2) ∧ IsRef w' p q (wr6 s k W).1 ∧ Chg [p, q] w w' := by
  have hlp := h.lt
  have hA := Blk.new w #[.int .i64 0, .int .i64 1, .int .i64 2, .int .i64 3, .int .i64 4, .int .i64 0] 3
  have hB := Blk.new (w.alloc (.cells #[.int .i64 0, .int .i64 1, .int .i64 2, .int .i64 3, .int .i64 4, .int .i64 0] 3)) #[.int .u8 0, .int .u8 (W / 16777216), .int .u8 (W / 65536 % 256), .int .u8 (W / 256 % 256), .int .u8 (W % 256), .int .u8 165] 5
  rw [World.size_alloc] at hB
  replace hA := hA.alloc (.cells #[.int .u8 0, .int .u8 (W / 16777216), .int .u8 (W / 65536 % 256), .int .u8 (W / 256 % 256), .int .u8 (W % 256), .int .u8 165] 5)
  have hm := h.keep (((Chg.refl [] w).alloc (.cells #[.int .i64 0, .int .i64 1, .int .i64 2, .int .i64 3, .int .i64 4, .int .i64 0] 3)).alloc (.cells #[.int .u8 0, .int .u8 (W / 16777216), .int .u8 (W / 65536 % 256), .int .u8 (W / 256 % 256), .int .u8 (W % 256), .int .u8 165] 5)) (by simp) (by simp)
  have hg := ((Chg.refl [p, q] w).alloc (.cells #[.int .i64 0, .int .i64 1, .int .i64 2, .int .i64 3, .int .i64 4, .int .i64 0] 3)).alloc (.cells #[.int .u8 0, .int .u8 (W / 16777216), .int .u8 (W / 65536 % 256), .int .u8 (W / 256 % 256), .int .u8 (W % 256), .int .u8 165] 5)
  obtain ⟨r1, q1⟩ : ∃ r, r = MS.write s (5 * (k : Int)) (0) := ⟨_, rfl⟩
  have Q1 : Hid _ := q1
  have k1 : r1.1.Ok (100000 + 1) := by rw [q1]; have := hok.write (5 * (k : Int)) (0); exact ⟨this.l0, this.l1, this.w0, by have := this.w1; omega, this.len⟩
  obtain ⟨r2, q2⟩ : ∃ r, r = MS.write r1.1 (5 * (k : Int) + 1) (W / 16777216) := ⟨_, rfl⟩
  have Q2 : Hid _ := q2
  have k2 : r2.1.Ok (100000 + 2) := by rw [q2]; have := k1.write (5 * (k : Int) + 1) (W / 16777216); exact ⟨this.l0, this.l1, this.w0, by have := this.w1; omega, this.len⟩
  obtain ⟨r3, q3⟩ : ∃ r, r = MS.write r2.1 (5 * (k : Int) + 2) (W / 65536 % 256) := ⟨_, rfl⟩
  have Q3 : Hid _ := q3
  have k3 : r3.1.Ok (100000 + 3) := by rw [q3]; have := k2.write (5 * (k : Int) + 2) (W / 65536 % 256); exact ⟨this.l0, this.l1, this.w0, by have := this.w1; omega, this.len⟩
  obtain ⟨r4, q4⟩ : ∃ r, r = MS.write r3.1 (5 * (k : Int) + 3) (W / 256 % 256) := ⟨_, rfl⟩
  have Q4 : Hid _ := q4
  have k4 : r4.1.Ok (100000 + 4) := by rw [q4]; have := k3.write (5 * (k : Int) + 3) (W / 256 % 256); exact ⟨this.l0, this.l1, this.w0, by have := this.w1; omega, this.len⟩
  obtain ⟨r5, q5⟩ : ∃ r, r = MS.write r4.1 (5 * (k : Int) + 4) (W % 256) := ⟨_, rfl⟩
  have Q5 : Hid _ := q5
  have k5 : r5.1.Ok (100000 + 5) := by rw [q5]; have := k4.write (5 * (k : Int) + 4) (W % 256); exact ⟨this.l0, this.l1, this.w0, by have := this.w1; omega, this.len⟩
  obtain ⟨r6, q6⟩ : ∃ r, r = MS.write r5.1 (5 * (k : Int)) (165) := ⟨_, rfl⟩
  have Q6 : Hid _ := q6
  have k6 : r6.1.Ok (100000 + 6) := by rw [q6]; have := k5.write (5 * (k : Int)) (165); exact ⟨this.l0, this.l1, this.w0, by have := this.w1; omega, this.len⟩
  have K1 : Hid _ := k1
  have K2 : Hid _ := k2
  have K3 : Hid _ := k3
  have K4 : Hid _ := k4
  have K5 : Hid _ := k5
  have K6 : Hid _ := k6
  have K0 : Hid _ := hok
  have HW : Hid (wr6 s k W = andThen r1 fun s1 => andThen (s1.write (5 * (k : Int) + 1) (W / 16777216)) fun s2 => andThen (s2.write (5 * (k : Int) + 2) (W / 65536 % 256)) fun s3 => andThen (s3.write (5 * (k : Int) + 3) (W / 256 % 256)) fun s4 => andThen (s4.write (5 * (k : Int) + 4) (W % 256)) fun s5 => s5.write (5 * (k : Int)) 165) := by show _ = _; rw [wr6_alt, q1]
  have hw0 : IntKind.i64.wrap (5 * (k : Int) + 0) = 5 * (k : Int) := by rw [IntWalk.i64_in _ (by omega)]; omega
  have hw1 : IntKind.i64.wrap (5 * (k : Int) + 1) = 5 * (k : Int) + 1 := by rw [IntWalk.i64_in _ (by omega)]
  have hw2 : IntKind.i64.wrap (5 * (k : Int) + 2) = 5 * (k : Int) + 2 := by rw [IntWalk.i64_in _ (by omega)]
  have hw3 : IntKind.i64.wrap (5 * (k : Int) + 3) = 5 * (k : Int) + 3 := by rw [IntWalk.i64_in _ (by omega)]
  have hw4 : IntKind.i64.wrap (5 * (k : Int) + 4) = 5 * (k : Int) + 4 := by rw [IntWalk.i64_in _ (by omega)]
  have hw5 : IntKind.i64.wrap (5 * (k : Int)) = 5 * (k : Int) := IntWalk.i64_in _ (by omega)
  clear q1 q2 q3 q4 q5 q6 k1 k2 k3 k4 k5 k6 hok h
  go_enter Try.func50, Try.ntmps50
  go_wp2
  refine wp_loop_rounds 7 ?_
  rw [rounds_succ]
  go_wp2_with fail
  have u0 := hA.drew.cell 0
  have v0 := hB.drew.cell 0
  rw [show (#[Value.int .i64 0, .int .i64 1, .int .i64 2, .int .i64 3, .int .i64 4, .int .i64 0] : Array Value)[0]? = some (.int .i64 0) from rfl] at u0
  rw [show (#[Value.int .u8 0, .int .u8 (W / 16777216), .int .u8 (W / 65536 % 256), .int .u8 (W / 256 % 256), .int .u8 (W % 256), .int .u8 165] : Array Value)[0]? = some (.int .u8 (0)) from rfl] at v0
  go_region_held (fun X => X.cell? ⟨w.heap.size, 0, none⟩ = some (.int .i64 0) ∧ X.cell? ⟨w.heap.size + 1, 0, none⟩ = some (.int .u8 (0))) (first | (exact ⟨u0, v0⟩) | (exact ⟨x0, x1⟩)) ((first | (go_at_call 42; refine (rwrite_any p q s _ _ _ (hm.keep (Chg.refl [] _).drew (by simp) (by simp)) K0.out.len K0.out.l0 K0.out.l1 K0.out.w0 ?_).mono ?_; have := K0.out.w1; omega; clear hm; rintro e w2 ⟨he, hm, kk⟩; rw [← Q1.out] at he hm; subst he; replace hg := hg.drew.trans kk; replace hA := kk.blk hA.drew (by simp; omega); replace hB := kk.blk hB.drew (by simp; omega); have x0 := hA.cell 0; have x1 := hB.cell 0; rw [show (#[Value.int .i64 0, .int .i64 1, .int .i64 2, .int .i64 3, .int .i64 4, .int .i64 0] : Array Value)[0]? = some (.int .i64 0) from rfl] at x0; rw [show (#[Value.int .u8 0, .int .u8 (W / 16777216), .int .u8 (W / 65536 % 256), .int .u8 (W / 256 % 256), .int .u8 (W % 256), .int .u8 165] : Array Value)[0]? = some (.int .u8 (0)) from rfl] at x1; clear kk)))
  clear u0 v0 x0 x1
  go_wp2_with fail
  · have t1 : (r1.2 != 0) = true := by assumption
    have E : wr6 s k W = r1 := by rw [HW.out, andThen_no t1]
    go_ret
    rw [E]
    exact ⟨rfl, hm, hg⟩
  · have t1 : (r1.2 != 0) = false := by assumption
    rw [rounds_succ]
    go_wp2_with fail
    have u1 := hA.drew.cell 1
    have v1 := hB.drew.cell 1
    rw [show (#[Value.int .i64 0, .int .i64 1, .int .i64 2, .int .i64 3, .int .i64 4, .int .i64 0] : Array Value)[1]? = some (.int .i64 1) from rfl] at u1
    rw [show (#[Value.int .u8 0, .int .u8 (W / 16777216), .int .u8 (W / 65536 % 256), .int .u8 (W / 256 % 256), .int .u8 (W % 256), .int .u8 165] : Array Value)[1]? = some (.int .u8 (W / 16777216)) from rfl] at v1
    go_region_held (fun X => X.cell? ⟨w.heap.size, 1, none⟩ = some (.int .i64 1) ∧ X.cell? ⟨w.heap.size + 1, 1, none⟩ = some (.int .u8 (W / 16777216))) (first | (exact ⟨u1, v1⟩) | (exact ⟨x0, x1⟩)) ((first | (go_at_call 42; refine (rwrite_any p q r1.1 _ _ _ (hm.keep (Chg.refl [] _).drew (by simp) (by simp)) K1.out.len K1.out.l0 K1.out.l1 K1.out.w0 ?_).mono ?_; have := K1.out.w1; omega; clear hm; rintro e w3 ⟨he, hm, kk⟩; rw [← Q2.out] at he hm; subst he; replace hg := hg.drew.trans kk; replace hA := kk.blk hA.drew (by simp; omega); replace hB := kk.blk hB.drew (by simp; omega); have x0 := hA.cell 1; have x1 := hB.cell 1; rw [show (#[Value.int .i64 0, .int .i64 1, .int .i64 2, .int .i64 3, .int .i64 4, .int .i64 0] : Array Value)[1]? = some (.int .i64 1) from rfl] at x0; rw [show (#[Value.int .u8 0, .int .u8 (W / 16777216), .int .u8 (W / 65536 % 256), .int .u8 (W / 256 % 256), .int .u8 (W % 256), .int .u8 165] : Array Value)[1]? = some (.int .u8 (W / 16777216)) from rfl] at x1; clear kk)))
    clear u1 v1 x0 x1
    go_wp2_with fail
    · have t2 : (r2.2 != 0) = true := by assumption
      have E : wr6 s k W = r2 := by rw [HW.out, andThen_yes t1, ← Q2.out, andThen_no t2]
      go_ret
      rw [E]
      exact ⟨rfl, hm, hg⟩
    · have t2 : (r2.2 != 0) = false := by assumption
      rw [rounds_succ]
      go_wp2_with fail
      have u2 := hA.drew.cell 2
      have v2 := hB.drew.cell 2
      rw [show (#[Value.int .i64 0, .int .i64 1, .int .i64 2, .int .i64 3, .int .i64 4, .int .i64 0] : Array Value)[2]? = some (.int .i64 2) from rfl] at u2
      rw [show (#[Value.int .u8 0, .int .u8 (W / 16777216), .int .u8 (W / 65536 % 256), .int .u8 (W / 256 % 256), .int .u8 (W % 256), .int .u8 165] : Array Value)[2]? = some (.int .u8 (W / 65536 % 256)) from rfl] at v2
      go_region_held (fun X => X.cell? ⟨w.heap.size, 2, none⟩ = some (.int .i64 2) ∧ X.cell? ⟨w.heap.size + 1, 2, none⟩ = some (.int .u8 (W / 65536 % 256))) (first | (exact ⟨u2, v2⟩) | (exact ⟨x0, x1⟩)) ((first | (go_at_call 42; refine (rwrite_any p q r2.1 _ _ _ (hm.keep (Chg.refl [] _).drew (by simp) (by simp)) K2.out.len K2.out.l0 K2.out.l1 K2.out.w0 ?_).mono ?_; have := K2.out.w1; omega; clear hm; rintro e w4 ⟨he, hm, kk⟩; rw [← Q3.out] at he hm; subst he; replace hg := hg.drew.trans kk; replace hA := kk.blk hA.drew (by simp; omega); replace hB := kk.blk hB.drew (by simp; omega); have x0 := hA.cell 2; have x1 := hB.cell 2; rw [show (#[Value.int .i64 0, .int .i64 1, .int .i64 2, .int .i64 3, .int .i64 4, .int .i64 0] : Array Value)[2]? = some (.int .i64 2) from rfl] at x0; rw [show (#[Value.int .u8 0, .int .u8 (W / 16777216), .int .u8 (W / 65536 % 256), .int .u8 (W / 256 % 256), .int .u8 (W % 256), .int .u8 165] : Array Value)[2]? = some (.int .u8 (W / 65536 % 256)) from rfl] at x1; clear kk)))
      clear u2 v2 x0 x1
      go_wp2_with fail
      · have t3 : (r3.2 != 0) = true := by assumption
        have E : wr6 s k W = r3 := by rw [HW.out, andThen_yes t1, ← Q2.out, andThen_yes t2, ← Q3.out, andThen_no t3]
        go_ret
        rw [E]
        exact ⟨rfl, hm, hg⟩
      · have t3 : (r3.2 != 0) = false := by assumption
        rw [rounds_succ]
        go_wp2_with fail
        have u3 := hA.drew.cell 3
        have v3 := hB.drew.cell 3
        rw [show (#[Value.int .i64 0, .int .i64 1, .int .i64 2, .int .i64 3, .int .i64 4, .int .i64 0] : Array Value)[3]? = some (.int .i64 3) from rfl] at u3
        rw [show (#[Value.int .u8 0, .int .u8 (W / 16777216), .int .u8 (W / 65536 % 256), .int .u8 (W / 256 % 256), .int .u8 (W % 256), .int .u8 165] : Array Value)[3]? = some (.int .u8 (W / 256 % 256)) from rfl] at v3
        go_region_held (fun X => X.cell? ⟨w.heap.size, 3, none⟩ = some (.int .i64 3) ∧ X.cell? ⟨w.heap.size + 1, 3, none⟩ = some (.int .u8 (W / 256 % 256))) (first | (exact ⟨u3, v3⟩) | (exact ⟨x0, x1⟩)) ((first | (go_at_call 42; refine (rwrite_any p q r3.1 _ _ _ (hm.keep (Chg.refl [] _).drew (by simp) (by simp)) K3.out.len K3.out.l0 K3.out.l1 K3.out.w0 ?_).mono ?_; have := K3.out.w1; omega; clear hm; rintro e w5 ⟨he, hm, kk⟩; rw [← Q4.out] at he hm; subst he; replace hg := hg.drew.trans kk; replace hA := kk.blk hA.drew (by simp; omega); replace hB := kk.blk hB.drew (by simp; omega); have x0 := hA.cell 3; have x1 := hB.cell 3; rw [show (#[Value.int .i64 0, .int .i64 1, .int .i64 2, .int .i64 3, .int .i64 4, .int .i64 0] : Array Value)[3]? = some (.int .i64 3) from rfl] at x0; rw [show (#[Value.int .u8 0, .int .u8 (W / 16777216), .int .u8 (W / 65536 % 256), .int .u8 (W / 256 % 256), .int .u8 (W % 256), .int .u8 165] : Array Value)[3]? = some (.int .u8 (W / 256 % 256)) from rfl] at x1; clear kk)))
        clear u3 v3 x0 x1
        go_wp2_with fail
        · have t4 : (r4.2 != 0) = true := by assumption
          have E : wr6 s k W = r4 := by rw [HW.out, andThen_yes t1, ← Q2.out, andThen_yes t2, ← Q3.out, andThen_yes t3, ← Q4.out, andThen_no t4]
          go_ret
          rw [E]
          exact ⟨rfl, hm, hg⟩
        · have t4 : (r4.2 != 0) = false := by assumption
          rw [rounds_succ]
          go_wp2_with fail
          have u4 := hA.drew.cell 4
          have v4 := hB.drew.cell 4
          rw [show (#[Value.int .i64 0, .int .i64 1, .int .i64 2, .int .i64 3, .int .i64 4, .int .i64 0] : Array Value)[4]? = some (.int .i64 4) from rfl] at u4
          rw [show (#[Value.int .u8 0, .int .u8 (W / 16777216), .int .u8 (W / 65536 % 256), .int .u8 (W / 256 % 256), .int .u8 (W % 256), .int .u8 165] : Array Value)[4]? = some (.int .u8 (W % 256)) from rfl] at v4
          go_region_held (fun X => X.cell? ⟨w.heap.size, 4, none⟩ = some (.int .i64 4) ∧ X.cell? ⟨w.heap.size + 1, 4, none⟩ = some (.int .u8 (W % 256))) (first | (exact ⟨u4, v4⟩) | (exact ⟨x0, x1⟩)) ((first | (go_at_call 42; refine (rwrite_any p q r4.1 _ _ _ (hm.keep (Chg.refl [] _).drew (by simp) (by simp)) K4.out.len K4.out.l0 K4.out.l1 K4.out.w0 ?_).mono ?_; have := K4.out.w1; omega; clear hm; rintro e w6 ⟨he, hm, kk⟩; rw [← Q5.out] at he hm; subst he; replace hg := hg.drew.trans kk; replace hA := kk.blk hA.drew (by simp; omega); replace hB := kk.blk hB.drew (by simp; omega); have x0 := hA.cell 4; have x1 := hB.cell 4; rw [show (#[Value.int .i64 0, .int .i64 1, .int .i64 2, .int .i64 3, .int .i64 4, .int .i64 0] : Array Value)[4]? = some (.int .i64 4) from rfl] at x0; rw [show (#[Value.int .u8 0, .int .u8 (W / 16777216), .int .u8 (W / 65536 % 256), .int .u8 (W / 256 % 256), .int .u8 (W % 256), .int .u8 165] : Array Value)[4]? = some (.int .u8 (W % 256)) from rfl] at x1; clear kk)))
          clear u4 v4 x0 x1
          go_wp2_with fail
          · have t5 : (r5.2 != 0) = true := by assumption
            have E : wr6 s k W = r5 := by rw [HW.out, andThen_yes t1, ← Q2.out, andThen_yes t2, ← Q3.out, andThen_yes t3, ← Q4.out, andThen_yes t4, ← Q5.out, andThen_no t5]
            go_ret
            rw [E]
            exact ⟨rfl, hm, hg⟩
          · have t5 : (r5.2 != 0) = false := by assumption
            rw [rounds_succ]
            go_wp2_with fail
            have u5 := hA.drew.cell 5
            have v5 := hB.drew.cell 5
            rw [show (#[Value.int .i64 0, .int .i64 1, .int .i64 2, .int .i64 3, .int .i64 4, .int .i64 0] : Array Value)[5]? = some (.int .i64 0) from rfl] at u5
            rw [show (#[Value.int .u8 0, .int .u8 (W / 16777216), .int .u8 (W / 65536 % 256), .int .u8 (W / 256 % 256), .int .u8 (W % 256), .int .u8 165] : Array Value)[5]? = some (.int .u8 (165)) from rfl] at v5
            go_region_held (fun X => X.cell? ⟨w.heap.size, 5, none⟩ = some (.int .i64 0) ∧ X.cell? ⟨w.heap.size + 1, 5, none⟩ = some (.int .u8 (165))) (first | (exact ⟨u5, v5⟩) | (exact ⟨x0, x1⟩)) ((first | (go_at_call 42; refine (rwrite_any p q r5.1 _ _ _ (hm.keep (Chg.refl [] _).drew (by simp) (by simp)) K5.out.len K5.out.l0 K5.out.l1 K5.out.w0 ?_).mono ?_; have := K5.out.w1; omega; clear hm; rintro e w7 ⟨he, hm, kk⟩; rw [← Q6.out] at he hm; subst he; replace hg := hg.drew.trans kk; replace hA := kk.blk hA.drew (by simp; omega); replace hB := kk.blk hB.drew (by simp; omega); have x0 := hA.cell 5; have x1 := hB.cell 5; rw [show (#[Value.int .i64 0, .int .i64 1, .int .i64 2, .int .i64 3, .int .i64 4, .int .i64 0] : Array Value)[5]? = some (.int .i64 0) from rfl] at x0; rw [show (#[Value.int .u8 0, .int .u8 (W / 16777216), .int .u8 (W / 65536 % 256), .int .u8 (W / 256 % 256), .int .u8 (W % 256), .int .u8 165] : Array Value)[5]? = some (.int .u8 (165)) from rfl] at x1; clear kk)))
            clear u5 v5 x0 x1
            go_wp2_with fail
            · have t6 : (r6.2 != 0) = true := by assumption
              have E : wr6 s k W = r6 := by rw [HW.out, andThen_yes t1, ← Q2.out, andThen_yes t2, ← Q3.out, andThen_yes t3, ← Q4.out, andThen_yes t4, ← Q5.out, andThen_yes t5, ← Q6.out]
              go_ret
              rw [E]
              exact ⟨rfl, hm, hg⟩
            · have t6 : (r6.2 != 0) = false := by assumption
              rw [rounds_succ]
              go_wp2
              have E : wr6 s k W = r6 := by rw [HW.out, andThen_yes t1, ← Q2.out, andThen_yes t2, ← Q3.out, andThen_yes t3, ← Q4.out, andThen_yes t4, ← Q5.out, andThen_yes t5, ← Q6.out]
              have t7 : r6.2 = 0 := by simpa using t6
              go_ret
              rw [E, t7]
              exact ⟨rfl, hm, hg⟩

end Go.Proofs.Ytcmhalmmaodmhaa
