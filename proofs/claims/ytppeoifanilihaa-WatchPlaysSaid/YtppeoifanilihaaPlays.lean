/-
  DERIVED. The walk of WatchPlays.
-/
import Derived.Test.YtppeoifanilihaaOnce
namespace Go.Proofs.Ytppeoifanilihaa
open Go.RowKit
set_option linter.unusedSimpArgs false
set_option linter.unusedVariables false

set_option maxRecDepth 100000 in
set_option maxHeartbeats 1000000 in
theorem plays_true (L : Int) (w : World) (hL : 1 ≤ L) (hL' : L ≤ 1048576) (b off len cap : Nat) (ks ns : Nat → Int) (hlen : len ≤ 9223372036854775807)
    (hc0 : ∀ i, i < len → w.cell? ⟨b, off + i * 2, none⟩ = some (.int .i64 (ks i))) (hc1 : ∀ i, i < len → w.cell? ⟨b, off + i * 2 + 1, none⟩ = some (.int .i64 (ns i)))
    (hbd : ∀ i, i < len → -9223372036854775808 ≤ ns i ∧ ns i ≤ 9223372036854775807) :
    Calls Try.prog 5 #[.int .i64 L, .slice (some ⟨b, off, none⟩) len cap] w fun e w' => e = .returned (.bool true) ∧ Chg [] w w' := by
  have HC0 : Hid _ := hc0
  have HC1 : Hid _ := hc1
  have HB : Hid _ := hbd
  clear hc0 hc1 hbd
  go_enter Try.func5, Try.ntmps5
  go_wp2_with (first | (go_at_call 7; refine (awake_any _).mono ?_; rintro e w1 ⟨rfl, hg⟩) | (go_at_call 8; refine (new_any L _ hL hL').mono ?_; rintro e w2 ⟨rfl, hd, k2⟩; have hs := hg.size; have hs2 := hd.lt; replace hg := hg.trans k2; clear k2))
  have hr0 : RDog (w2.alloc (.cells #[.int .i64 L, .int .i64 0] 36)) w2.heap.size L 0 := Blk.new _ _ _
  have hd0 := Blk.alloc hd (.cells #[.int .i64 L, .int .i64 0] 36)
  replace hg := hg.alloc (.cells #[.int .i64 L, .int .i64 0] 36)
  have hne : w1.heap.size ≠ w2.heap.size := by omega
  clear hd
  go_loopw [8] (fun vi wr => ∃ (k : Nat) (c : Int), k ≤ len ∧ vi = .int .i64 k ∧ Dog wr w1.heap.size L c ∧ RDog wr w2.heap.size L c ∧ Chg [] w wr ∧ 0 ≤ c ∧ c ≤ L) (fun i _ => len - (intOf i).toNat)
  case atStart => exact ⟨0, 0, by omega, rfl, hd0, hr0, hg, by omega, by omega⟩
  case round =>
    obtain ⟨k, c, hk, rfl, hd, hr, hch, c1, c2⟩ := hrel
    clear hg hd0 hr0
    by_cases hlt : k < len
    · have z0 := hch.old (HC0.out k hlt) (by simp)
      have z1 := hch.old (HC1.out k hlt) (by simp)
      have bz := HB.out k hlt
      obtain ⟨kd, hkd⟩ : ∃ z, z = ks k := ⟨_, rfl⟩
      obtain ⟨n, hnd⟩ : ∃ z, z = ns k := ⟨_, rfl⟩
      rw [← hkd] at z0
      rw [← hnd] at z1 bz
      clear hkd hnd
      have hcast : (k : Int) < (len : Int) := by omega
      have hl1 := hd.lt
      have hl2 := hr.lt
      have hdA := Blk.alloc hd (.cells #[.int .i64 kd, .int .i64 n] 38)
      have hrA := Blk.alloc hr (.cells #[.int .i64 kd, .int .i64 n] 38)
      have chA := hch.alloc (.cells #[.int .i64 kd, .int .i64 n] 38)
      by_cases h1 : kd = 1
      · subst h1
        go_wp2_with (first | (go_at_call 11; refine (tick_any _ L c _ hdA c1 c2 hL').mono ?_; rintro e w5 ⟨rfl, hd5, k5⟩) | (go_at_call 13; refine (rticks_any _ L c 1 _ (k5.blk hrA (by simp; omega)) c1 c2 hL' (by omega) (by omega)).mono ?_; rintro e w6 ⟨rfl, hr6, k6⟩))
        have hdF : Dog w6 w1.heap.size L (cnt L c 1) := k6.blk hd5 (by simp; omega)
        have hrF := hr6
        have chF : Chg [] w w6 := (chA.more k5 (by simp; omega)).more k6 (by simp; omega)
        have f1 := (cnt_bd c1 c2 (show (0 : Int) ≤ 1 by omega)).1
        have f2 := (cnt_bd c1 c2 (show (0 : Int) ≤ 1 by omega)).2
        clear hdA hrA chA hd5 hr6 hd hr hch k5 k6
        have hsF := hrF.c1
        go_quiet (first | (go_at_call 12; exact Calls.quiet_of_same (since_any _ L _ _ hdF f1 (by omega))) | (go_at_call 10; exact Calls.quiet_of (expired_q _ L _ _ hdF f1 (by omega))) | (go_at_call 15; exact Calls.quiet_of_same (limit_any _ L _ _ hdF)))
        go_wp2
        go_roundw
        case rel => exact ⟨k + 1, _, by omega, by go_num, hdF, hrF, chF.drewN _, f1, f2⟩
        case measure => simp [intOf]; omega
      · by_cases h2 : kd = 2
        · subst h2
          by_cases hn : n < 0
          · go_wp2_with (first | (go_at_call 9; refine (ticks_neg _ n _ hn).mono ?_; rintro e w5 ⟨rfl, rfl⟩))
            have hdF : Dog _ w1.heap.size L c := hdA
            have hrF : RDog _ w2.heap.size L c := hrA
            have chF := chA
            have f1 := c1
            have f2 := c2
            clear hdA hrA chA hd hr hch
            have hsF := hrF.c1
            go_quiet (first | (go_at_call 12; exact Calls.quiet_of_same (since_any _ L _ _ hdF f1 (by omega))) | (go_at_call 10; exact Calls.quiet_of (expired_q _ L _ _ hdF f1 (by omega))) | (go_at_call 15; exact Calls.quiet_of_same (limit_any _ L _ _ hdF)))
            go_wp2
            go_roundw
            case rel => exact ⟨k + 1, _, by omega, by go_num, hdF, hrF, chF.drewN _, f1, f2⟩
            case measure => simp [intOf]; omega
          · have hn0 : 0 ≤ n := by omega
            go_wp2_with (first | (go_at_call 9; refine (ticks_any _ L c n _ hdA c1 c2 hL' hn0 bz.2).mono ?_; rintro e w5 ⟨rfl, hd5, k5⟩; have zz := k5.blk (Blk.new wr #[.int .i64 2, .int .i64 n] 38) (by simp; omega); have z3 := zz.cell 1; simp at z3; clear zz) | (go_at_call 13; refine (rticks_any _ L c n _ (k5.blk hrA (by simp; omega)) c1 c2 hL' hn0 bz.2).mono ?_; rintro e w6 ⟨rfl, hr6, k6⟩; have zz := k6.blk (k5.blk (Blk.new wr #[.int .i64 2, .int .i64 n] 38) (by simp; omega)) (by simp; omega); have z4 := zz.cell 0; simp at z4; clear zz))
            have hdF : Dog w6 w1.heap.size L (cnt L c n) := k6.blk hd5 (by simp; omega)
            have hrF := hr6
            have chF : Chg [] w w6 := (chA.more k5 (by simp; omega)).more k6 (by simp; omega)
            have f1 := (cnt_bd c1 c2 hn0).1
            have f2 := (cnt_bd c1 c2 hn0).2
            clear hdA hrA chA hd5 hr6 hd hr hch k5 k6
            have hsF := hrF.c1
            go_quiet (first | (go_at_call 12; exact Calls.quiet_of_same (since_any _ L _ _ hdF f1 (by omega))) | (go_at_call 10; exact Calls.quiet_of (expired_q _ L _ _ hdF f1 (by omega))) | (go_at_call 15; exact Calls.quiet_of_same (limit_any _ L _ _ hdF)))
            go_wp2
            go_roundw
            case rel => exact ⟨k + 1, _, by omega, by go_num, hdF, hrF, chF.drewN _, f1, f2⟩
            case measure => simp [intOf]; omega
        · by_cases h3 : kd = 3
          · subst h3
            go_wp2_with (first | (go_at_call 14; refine (feed_any _ L c _ hdA).mono ?_; rintro e w5 ⟨rfl, hd5, k5⟩; have hr5 : RDog w5 w2.heap.size L c := k5.blk hrA (by simp; omega); have q1 := hr5.c1; have q2 := hr5.f1))
            have hdF : Dog (w5.setCell ⟨w2.heap.size, 1, none⟩ (.int .i64 0)) w1.heap.size L 0 := Blk.other hd5 _ _ (by simp; omega)
            have hrF := hr5.set 0
            have chF : Chg [] w (w5.setCell ⟨w2.heap.size, 1, none⟩ (.int .i64 0)) := (chA.more k5 (by simp; omega)).setCell (by simp; omega) _
            have f1 : (0 : Int) ≤ 0 := by omega
            have f2 : (0 : Int) ≤ L := by omega
            clear hdA hrA chA hd hr hch q1 q2 hr5 hd5 k5
            have hsF := hrF.c1
            go_quiet (first | (go_at_call 12; exact Calls.quiet_of_same (since_any _ L _ _ hdF f1 (by omega))) | (go_at_call 10; exact Calls.quiet_of (expired_q _ L _ _ hdF f1 (by omega))) | (go_at_call 15; exact Calls.quiet_of_same (limit_any _ L _ _ hdF)))
            go_wp2
            go_roundw
            case rel => exact ⟨k + 1, _, by omega, by go_num, hdF, hrF, chF.drewN _, f1, f2⟩
            case measure => simp [intOf]; omega
          · go_wp2
            have hdF : Dog _ w1.heap.size L c := hdA
            have hrF : RDog _ w2.heap.size L c := hrA
            have chF := chA
            have f1 := c1
            have f2 := c2
            clear hdA hrA chA hd hr hch
            have hsF := hrF.c1
            go_quiet (first | (go_at_call 12; exact Calls.quiet_of_same (since_any _ L _ _ hdF f1 (by omega))) | (go_at_call 10; exact Calls.quiet_of (expired_q _ L _ _ hdF f1 (by omega))) | (go_at_call 15; exact Calls.quiet_of_same (limit_any _ L _ _ hdF)))
            go_wp2
            go_roundw
            case rel => exact ⟨k + 1, _, by omega, by go_num, hdF, hrF, chF.drewN _, f1, f2⟩
            case measure => simp [intOf]; omega
    · have hke : k = len := by omega
      go_wp2
      go_ret
      exact ⟨rfl, hch⟩

theorem plays_empty (L : Int) (w : World) (hL : 1 ≤ L) (hL' : L ≤ 1048576) (a : Option Addr) (cap : Nat) :
    Calls Try.prog 5 #[.int .i64 L, .slice a 0 cap] w fun e w' => e = .returned (.bool true) ∧ Chg [] w w' := by
  go_enter Try.func5, Try.ntmps5
  go_wp2_with (first | (go_at_call 7; refine (awake_any _).mono ?_; rintro e w1 ⟨rfl, hg⟩) | (go_at_call 8; refine (new_any L _ hL hL').mono ?_; rintro e w2 ⟨rfl, hd, k2⟩; have hs := hg.size; have hs2 := hd.lt; replace hg := hg.trans k2; clear k2))
  replace hg := hg.alloc (.cells #[.int .i64 L, .int .i64 0] 36)
  refine wp_loop_rounds 1 ?_
  rw [rounds_succ]
  go_wp2
  go_ret
  exact ⟨rfl, hg⟩

theorem plays_out (L : Int) (v : Value) (w : World) (h : L < 1 ∨ 1048576 < L) :
    Calls Try.prog 5 #[.int .i64 L, v] w fun e w' => e = .returned (.bool true) ∧ Chg [] w w' := by
  by_cases h1 : L < 1
  · go_enter Try.func5, Try.ntmps5
    go_wp2_with (first | (go_at_call 7; refine (awake_any _).mono ?_; rintro e w1 ⟨rfl, hg⟩) | (go_at_call 8; refine (new_bad L _ h).mono ?_; rintro e w' ⟨rfl, rfl⟩))
    go_ret
    exact ⟨rfl, hg⟩
  · have h2 : 1048576 < L := by omega
    go_enter Try.func5, Try.ntmps5
    go_wp2_with (first | (go_at_call 7; refine (awake_any _).mono ?_; rintro e w1 ⟨rfl, hg⟩) | (go_at_call 8; refine (new_bad L _ h).mono ?_; rintro e w' ⟨rfl, rfl⟩))
    go_ret
    exact ⟨rfl, hg⟩

end Go.Proofs.Ytppeoifanilihaa
