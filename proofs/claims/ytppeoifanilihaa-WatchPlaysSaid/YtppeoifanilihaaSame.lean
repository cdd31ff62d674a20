/-
  DERIVED. The walk of WatchSame.
-/
import Derived.Test.YtppeoifanilihaaAwake
namespace Go.Proofs.Ytppeoifanilihaa
open Go.RowKit
set_option linter.unusedSimpArgs false
set_option linter.unusedVariables false

theorem cnt_bd {L s n : Int} (h1 : 0 ≤ s) (h2 : s ≤ L) (hn : 0 ≤ n) : 0 ≤ cnt L s n ∧ cnt L s n ≤ L := by
  unfold cnt; split <;> (try split) <;> omega
theorem cnt_succ (L k : Int) (_hL : 1 ≤ L) (_hk : 0 ≤ k) : cnt L (cnt L 0 k) 1 = cnt L 0 (k + 1) := by
  unfold cnt; (repeat' split) <;> omega
theorem hit_succ (L k : Int) (_hL : 1 ≤ L) (_hk : 0 ≤ k) : hit L 0 (k + 1) = (hit L 0 k || hit L (cnt L 0 k) 1) := by
  have e : cnt L 0 k = if L ≤ k then L else k := by unfold cnt; (repeat' split) <;> omega
  rw [Bool.eq_iff_iff, e]
  simp only [hit, Bool.or_eq_true, Bool.and_eq_true, decide_eq_true_eq]
  split <;> omega

theorem ret_bool' {a b : Bool} (h : a = b) : Value.bool a = .bool b := by rw [h]

theorem same_true (L n : Int) (w : World) (hL : 1 ≤ L) (hL' : L ≤ 1048576) (hn : 0 ≤ n) (hn' : n ≤ 3000) :
    Calls Try.prog 4 #[.int .i64 L, .int .i64 n] w fun e w' => e = .returned (.bool true) ∧ Chg [] w w' := by
  go_enter Try.func4, Try.ntmps4
  go_wp2_with (first | (go_at_call 7; refine (awake_any _).mono ?_; rintro e w1 ⟨rfl, hg⟩) | (go_at_call 8; have _t := hda; refine (new_any L _ hL hL').mono ?_; rintro e w3 ⟨rfl, hdb, k3⟩) | (go_at_call 8; refine (new_any L _ hL hL').mono ?_; rintro e w2 ⟨rfl, hda, k2⟩) | (go_at_call 9; refine (ticks_any w1.heap.size L 0 n _ (k3.blk hda (by simp)) (by omega) (by omega) hL' hn (by omega)).mono ?_; rintro e w4 ⟨rfl, hda', k4⟩))
  have hlt1 := hda.lt
  have hs1 := hg.size
  have hlt2 := hdb.lt
  have hn3 : w1.heap.size ≠ w2.heap.size := by omega
  have hdb' := k4.blk hdb (by simp; omega)
  have ka : Chg [] w w4 := by
    refine (((hg.trans k2).more k3 (by simp)).more k4 ?_)
    have := hg.size
    simp; omega
  clear k2 k3 k4 hg hda hdb
  go_loopw [11, 12] (fun y i wr => ∃ k : Nat, k ≤ n ∧ i = .int .i64 k ∧ y = .bool (hit L 0 k) ∧ Dog wr w2.heap.size L (cnt L 0 k) ∧ Dog wr w1.heap.size L (cnt L 0 n) ∧ Chg [] w wr) (fun _ i _ => (n - intOf i).toNat)
  case atStart => exact ⟨0, by omega, rfl, ret_bool' (by simp [hit]), by rw [show cnt L 0 ((0 : Nat) : Int) = 0 by unfold cnt; (repeat' split) <;> omega]; exact hdb', hda', ka⟩
  case round =>
    obtain ⟨k, hk, rfl, rfl, hb, ha, kr⟩ := hrel
    have bd := cnt_bd (L := L) (s := 0) (n := k) (by omega) (by omega) (by omega)
    by_cases hlt : (k : Int) < n
    · have e1 : Hid (hit L 0 ((k + 1 : Nat) : Int) = (hit L 0 k || hit L (cnt L 0 k) 1)) := hit_succ L k hL (by omega)
      have e2 : Hid (cnt L (cnt L 0 k) 1 = cnt L 0 ((k + 1 : Nat) : Int)) := cnt_succ L k hL (by omega)
      go_wp2_with (go_at_call 11; refine (tick_any w2.heap.size L (cnt L 0 k) _ hb bd.1 bd.2 hL').mono ?_; rintro e w5 ⟨rfl, hb', k5⟩)
      all_goals
        go_roundw
        case rel => exact ⟨k + 1, by omega, by go_num, ret_bool' (by rw [e1.out]; simp [*]), e2.out ▸ hb', k5.blk ha (by simp; omega), kr.more k5 (by simp; omega)⟩
        case measure => simp [intOf]; omega
    · obtain rfl : (k : Int) = n := by omega
      go_wp2_with (first | (go_at_call 12; have _t := ha; refine (since_any w1.heap.size L (cnt L 0 k) _ ha bd.1 (by have := bd.2; omega)).mono ?_; clear ha; rintro e w' ⟨rfl, rfl⟩) | (go_at_call 12; refine (since_any w2.heap.size L (cnt L 0 k) _ hb bd.1 (by have := bd.2; omega)).mono ?_; rintro e w' ⟨rfl, rfl⟩))
      go_ret
      exact ⟨rfl, kr⟩

end Go.Proofs.Ytppeoifanilihaa
