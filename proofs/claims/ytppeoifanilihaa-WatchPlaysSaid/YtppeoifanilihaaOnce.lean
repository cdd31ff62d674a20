/-
  DERIVED. The walk of WatchOnce.
-/
import Derived.Test.YtppeoifanilihaaSame
import Derived.OpenShut
namespace Go.Proofs.Ytppeoifanilihaa
open Go.RowKit
set_option linter.unusedSimpArgs false
set_option linter.unusedVariables false

theorem lt_of_cell? {w : World} {b o : Nat} {v : Value} (h : w.cell? ⟨b, o, none⟩ = some v) : b < w.heap.size := by
  rcases Nat.lt_or_ge b w.heap.size with h' | h'
  · exact h'
  · simp [World.cell?, Array.getElem?_eq_none h'] at h

theorem Chg.old {bs : List Nat} {w w' : World} (h : Chg bs w w') {b o : Nat} {v : Value} (hc : w.cell? ⟨b, o, none⟩ = some v) (hn : b ∉ bs) :
    w'.cell? ⟨b, o, none⟩ = some v := by
  rw [← hc]; exact World.cell?_of_block (w := w) (h.block b (lt_of_cell? hc) hn)

theorem tmod_bd (z : Int) : -5000 < z.tmod 5000 ∧ z.tmod 5000 < 5000 := by
  have h := Int.tmod_lt_of_pos z (show (0 : Int) < 5000 by omega)
  have h' := Int.tmod_lt_of_pos (-z) (show (0 : Int) < 5000 by omega)
  rw [Int.neg_tmod] at h'
  omega

theorem once_true (L : Int) (w : World) (hL : 1 ≤ L) (hL' : L ≤ 1048576) (b off len cap : Nat) (zs : List Int) (hlen : len ≤ 9223372036854775807)
    (hcell : ∀ i, i < len → w.cell? ⟨b, off + i, none⟩ = some (.int .i64 (zs.getD i 0))) (hbd : ∀ i, -9223372036854775808 ≤ zs.getD i 0 ∧ zs.getD i 0 ≤ 9223372036854775807) :
    Calls Try.prog 3 #[.int .i64 L, .slice (some ⟨b, off, none⟩) len cap] w fun e w' => e = .returned (.bool true) ∧ Chg [] w w' := by
  have HC : Hid (∀ i, i < len → w.cell? ⟨b, off + i, none⟩ = some (.int .i64 (zs.getD i 0))) := hcell
  have HB : Hid (∀ i, -9223372036854775808 ≤ zs.getD i 0 ∧ zs.getD i 0 ≤ 9223372036854775807) := hbd
  clear hcell hbd
  go_enter Try.func3, Try.ntmps3
  go_wp2_with (first | (go_at_call 7; refine (awake_any _).mono ?_; rintro e w1 ⟨rfl, hg⟩) | (go_at_call 8; refine (new_any L _ hL hL').mono ?_; rintro e w2 ⟨rfl, hd, k2⟩; have hs := hg.size; replace hg := hg.trans k2; clear k2))
  obtain ⟨db, rfl⟩ : ∃ db, db = w1.heap.size := ⟨_, rfl⟩
  go_loopw [7, 8, 9] (fun vs vt vi wr => ∃ (k : Nat) (s t c : Int), k ≤ len ∧ vi = .int .i64 k ∧ vs = .int .i64 s ∧ vt = .int .i64 t ∧ Dog wr w1.heap.size L c ∧ Chg [] w wr ∧
    ((0 ≤ s ∧ s < L ∧ c = s ∧ t = 0) ∨ (L ≤ s ∧ s ≤ L + 5000 ∧ c = L ∧ t = 1))) (fun _ _ i _ => len - (intOf i).toNat)
  case atStart => exact ⟨0, 0, 0, 0, by omega, rfl, rfl, rfl, hd, hg, by omega⟩
  case round =>
    obtain ⟨k, s, t, c, hk, rfl, rfl, rfl, hc, hr, hst⟩ := hrel
    by_cases hlt : k < len
    · have hz := hr.old (HC.out k hlt) (by simp)
      have bz := HB.out k
      obtain ⟨z, hze⟩ : ∃ z, z = zs.getD k 0 := ⟨_, rfl⟩
      rw [← hze] at hz bz
      clear hze
      obtain ⟨n0, hn0, hn1, hn2⟩ : ∃ n0, z.tmod 5000 = n0 ∧ -5000 < n0 ∧ n0 < 5000 := ⟨_, rfl, (tmod_bd z).1, (tmod_bd z).2⟩
      have hcast : (k : Int) < (len : Int) := by omega
      have key : ∀ m : Int, 0 ≤ m → m < 5000 → ∃ (s' t' c' : Int), hit L c m = (decide (s < L) && decide (L ≤ s + m)) ∧ cnt L c m = c' ∧ (if hit L c m = true then t + 1 else t) = t' ∧ (if s < L then s + m else s) = s' ∧ ((0 ≤ s' ∧ s' < L ∧ c' = s' ∧ t' = 0) ∨ (L ≤ s' ∧ s' ≤ L + 5000 ∧ c' = L ∧ t' = 1)) := by
        intro m h0 h1
        refine ⟨_, _, _, ?_, rfl, rfl, rfl, ?_⟩
        · rw [Bool.eq_iff_iff]; simp only [hit, Bool.and_eq_true, decide_eq_true_eq]; omega
        · simp only [hit, cnt, Bool.and_eq_true, decide_eq_true_eq]; (repeat' split) <;> omega
      have KEY : Hid _ := key
      clear key
      have hb0 : 0 ≤ c ∧ c ≤ L ∧ 0 ≤ s ∧ s ≤ L + 5000 ∧ 0 ≤ t ∧ t ≤ 1 := by omega
      have HST : Hid _ := hst
      clear hst
      obtain ⟨hb1, hb2, hb3, hb4, hb5, hb6⟩ := hb0
      by_cases hneg : n0 < 0
      · obtain ⟨m, hm, hm0, hm1⟩ : ∃ m, -n0 = m ∧ 0 ≤ m ∧ m < 5000 := ⟨_, rfl, by omega, by omega⟩
        obtain ⟨s', t', c', q1, q2, q3, q4, q5⟩ := KEY.out m hm0 hm1
        have Q5 : Hid _ := q5
        have Q2 : Hid _ := q2
        by_cases h1 : s < L
        · by_cases h2 : L ≤ s + m
          · simp only [h1, h2, decide_true, Bool.and_true] at q1
            simp only [q1, if_true] at q3
            simp only [h1, if_true] at q4
            have hd2 : decide (L ≤ s') = true := by simp; omega
            clear q5 q2 HST KEY
            go_wp2_with (first | (go_at_call 9; refine (ticks_any w1.heap.size L c _ _ hc (by omega) (by omega) hL' (by omega) (by omega)).mono ?_; rintro e w5 ⟨rfl, hb', k5⟩))
            go_roundw
            case rel => exact ⟨k + 1, s', t', c', by omega, by go_num, rfl, rfl, Q2.out ▸ hb', hr.more k5 (by simp; omega), Q5.out⟩
            case measure => simp [intOf]; omega
          · simp only [h1, h2, decide_true, decide_false, Bool.and_false] at q1
            simp only [q1, Bool.false_eq_true, if_false] at q3
            simp only [h1, if_true] at q4
            have hd2 : decide (L ≤ s') = false := by simp; omega
            clear q5 q2 HST KEY
            go_wp2_with (first | (go_at_call 9; refine (ticks_any w1.heap.size L c _ _ hc (by omega) (by omega) hL' (by omega) (by omega)).mono ?_; rintro e w5 ⟨rfl, hb', k5⟩))
            go_roundw
            case rel => exact ⟨k + 1, s', t', c', by omega, by go_num, rfl, rfl, Q2.out ▸ hb', hr.more k5 (by simp; omega), Q5.out⟩
            case measure => simp [intOf]; omega
        · simp only [h1, decide_false, Bool.false_and] at q1
          simp only [q1, Bool.false_eq_true, if_false] at q3
          simp only [h1, if_false] at q4
          clear q5 q2 HST KEY
          go_wp2_with (first | (go_at_call 9; refine (ticks_any w1.heap.size L c _ _ hc (by omega) (by omega) hL' (by omega) (by omega)).mono ?_; rintro e w5 ⟨rfl, hb', k5⟩))
          go_roundw
          case rel => exact ⟨k + 1, s', t', c', by omega, by go_num, rfl, rfl, Q2.out ▸ hb', hr.more k5 (by simp; omega), Q5.out⟩
          case measure => simp [intOf]; omega
      · obtain ⟨m, rfl⟩ : ∃ m, m = n0 := ⟨_, rfl⟩
        obtain ⟨s', t', c', q1, q2, q3, q4, q5⟩ := KEY.out m (by omega) hn2
        have Q5 : Hid _ := q5
        have Q2 : Hid _ := q2
        by_cases h1 : s < L
        · by_cases h2 : L ≤ s + m
          · simp only [h1, h2, decide_true, Bool.and_true] at q1
            simp only [q1, if_true] at q3
            simp only [h1, if_true] at q4
            have hd2 : decide (L ≤ s') = true := by simp; omega
            clear q5 q2 HST KEY
            go_wp2_with (first | (go_at_call 9; refine (ticks_any w1.heap.size L c _ _ hc (by omega) (by omega) hL' (by omega) (by omega)).mono ?_; rintro e w5 ⟨rfl, hb', k5⟩))
            go_roundw
            case rel => exact ⟨k + 1, s', t', c', by omega, by go_num, rfl, rfl, Q2.out ▸ hb', hr.more k5 (by simp; omega), Q5.out⟩
            case measure => simp [intOf]; omega
          · simp only [h1, h2, decide_true, decide_false, Bool.and_false] at q1
            simp only [q1, Bool.false_eq_true, if_false] at q3
            simp only [h1, if_true] at q4
            have hd2 : decide (L ≤ s') = false := by simp; omega
            clear q5 q2 HST KEY
            go_wp2_with (first | (go_at_call 9; refine (ticks_any w1.heap.size L c _ _ hc (by omega) (by omega) hL' (by omega) (by omega)).mono ?_; rintro e w5 ⟨rfl, hb', k5⟩))
            go_roundw
            case rel => exact ⟨k + 1, s', t', c', by omega, by go_num, rfl, rfl, Q2.out ▸ hb', hr.more k5 (by simp; omega), Q5.out⟩
            case measure => simp [intOf]; omega
        · simp only [h1, decide_false, Bool.false_and] at q1
          simp only [q1, Bool.false_eq_true, if_false] at q3
          simp only [h1, if_false] at q4
          clear q5 q2 HST KEY
          go_wp2_with (first | (go_at_call 9; refine (ticks_any w1.heap.size L c _ _ hc (by omega) (by omega) hL' (by omega) (by omega)).mono ?_; rintro e w5 ⟨rfl, hb', k5⟩))
          go_roundw
          case rel => exact ⟨k + 1, s', t', c', by omega, by go_num, rfl, rfl, Q2.out ▸ hb', hr.more k5 (by simp; omega), Q5.out⟩
          case measure => simp [intOf]; omega
    · have hke : k = len := by omega
      go_wp2_with (first | (go_at_call 10; refine (expired_any w1.heap.size L c _ hc (by omega) (by omega)).mono ?_; rintro e w5 ⟨rfl, hb', k5⟩; replace hr := hr.trans k5))
      go_ret
      refine ⟨ret_bool ?_, hr⟩
      rw [Bool.eq_iff_iff]; simp only [beq_iff_eq, decide_eq_true_eq]
      have e1 : (t == 1) = decide (L ≤ s) := by rw [Bool.eq_iff_iff]; simp only [beq_iff_eq, decide_eq_true_eq]; omega
      rw [e1]; simp

theorem once_empty (L : Int) (w : World) (hL : 1 ≤ L) (hL' : L ≤ 1048576) (a : Option Addr) (cap : Nat) :
    Calls Try.prog 3 #[.int .i64 L, .slice a 0 cap] w fun e w' => e = .returned (.bool true) ∧ Chg [] w w' := by
  have hd1 : decide (L ≤ 0) = false := by simp; omega
  have hd2 : decide ((0 : Int) < L) = true := by simp; omega
  go_enter Try.func3, Try.ntmps3
  go_wp2_with (first | (go_at_call 7; refine (awake_any _).mono ?_; rintro e w1 ⟨rfl, hg⟩) | (go_at_call 8; refine (new_any L _ hL hL').mono ?_; rintro e w2 ⟨rfl, hd, k2⟩; have hs := hg.size; replace hg := hg.trans k2; clear k2))
  refine wp_loop_rounds 1 ?_
  rw [rounds_succ]
  go_wp2_with (first | (go_at_call 10; refine (expired_any w1.heap.size L 0 _ hd (by omega) (by omega)).mono ?_; rintro e w5 ⟨rfl, hb', k5⟩; replace hg := hg.trans k5))
  go_ret
  exact ⟨rfl, hg⟩

theorem once_out (L : Int) (v : Value) (w : World) (h : L < 1 ∨ 1048576 < L) :
    Calls Try.prog 3 #[.int .i64 L, v] w fun e w' => e = .returned (.bool true) ∧ Chg [] w w' := by
  by_cases h1 : L < 1
  · go_enter Try.func3, Try.ntmps3
    go_wp2_with (first | (go_at_call 7; refine (awake_any _).mono ?_; rintro e w1 ⟨rfl, hg⟩))
    go_ret
    exact ⟨rfl, hg⟩
  · have h2 : 1048576 < L := by omega
    go_enter Try.func3, Try.ntmps3
    go_wp2_with (first | (go_at_call 7; refine (awake_any _).mono ?_; rintro e w1 ⟨rfl, hg⟩))
    go_ret
    exact ⟨rfl, hg⟩

theorem same_out (L n : Int) (w : World) (h : L < 1 ∨ 1048576 < L ∨ n < 0 ∨ 3000 < n) :
    Calls Try.prog 4 #[.int .i64 L, .int .i64 n] w fun e w' => e = .returned (.bool true) ∧ Chg [] w w' := by
  have hd : (decide (L < 1) || decide (1048576 < L) || decide (n < 0) || decide (3000 < n)) = true := by simp; omega
  go_enter Try.func4, Try.ntmps4
  go_wp2_with (first | (go_at_call 7; refine (awake_any _).mono ?_; rintro e w1 ⟨rfl, hg⟩))
  all_goals go_ret
  all_goals exact ⟨rfl, hg⟩

theorem same_all (L n : Int) (w : World) : Calls Try.prog 4 #[.int .i64 L, .int .i64 n] w fun e w' => e = .returned (.bool true) ∧ Chg [] w w' := by
  by_cases h : L < 1 ∨ 1048576 < L ∨ n < 0 ∨ 3000 < n
  · exact same_out L n w h
  · exact same_true L n w (by omega) (by omega) (by omega) (by omega)

/-- What the walk is told of a slice of integers that came in: it is nil; or it leads to a row of 'cap' cells, the numbers 'zs'. -/
def IsRow (k : IntKind) (w : World) (a : Option Addr) (len cap : Nat) (zs : List Int) : Prop :=
  (a = none ∧ len = 0 ∧ cap = 0 ∧ zs = []) ∨
  ∃ x, a = some x ∧ len ≤ cap ∧ cap ≤ maxLen ∧ zs.length = cap ∧ (∀ i, i < zs.length → w.cell? (x.add i) = some (.int k (zs.getD i 0))) ∧ ∀ n ∈ zs, (Lit.int k n).wf = true

theorem wf_i64 {n : Int} (h : (Lit.int .i64 n).wf = true) : -9223372036854775808 ≤ n ∧ n ≤ 9223372036854775807 := by
  have := bounds_i64 h
  omega

theorem once_all (L : Int) (w : World) (a : Option Addr) (len cap : Nat) (zs : List Int) (h : IsRow .i64 w a len cap zs) :
    Calls Try.prog 3 #[.int .i64 L, .slice a len cap] w fun e w' => e = .returned (.bool true) ∧ Chg [] w w' := by
  by_cases hL : L < 1 ∨ 1048576 < L
  · exact once_out L _ w hL
  · rcases h with ⟨rfl, rfl, rfl, rfl⟩ | ⟨x, rfl, hl, hm, hz, hcell, hwz⟩
    · exact once_empty L w (by omega) (by omega) none 0
    · by_cases h0 : len = 0
      · subst h0; exact once_empty L w (by omega) (by omega) _ cap
      · obtain ⟨b, off, spot⟩ := x
        have hc0 := hcell 0 (by omega)
        have hspot : spot = none := by simpa [Addr.add] using World.cell?_spot hc0
        subst hspot
        unfold maxLen at hm
        refine once_true L w (by omega) (by omega) b off len cap zs (by omega) (fun i hi => ?_) (fun i => ?_)
        · have := hcell i (by omega)
          by_cases hi0 : i = 0
          · subst hi0; simpa [Addr.add] using this
          · simpa [Addr.add, hi0] using this
        · by_cases hi : i < zs.length
          · have : zs.getD i 0 = zs[i] := by simp [List.getD, hi]
            rw [this]; exact wf_i64 (hwz _ (List.getElem_mem hi))
          · have : zs.getD i 0 = 0 := by simp [List.getD, Nat.le_of_not_lt hi]
            rw [this]; omega

end Go.Proofs.Ytppeoifanilihaa
