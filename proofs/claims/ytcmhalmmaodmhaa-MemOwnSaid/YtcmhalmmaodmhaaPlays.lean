/-
  DERIVED. The walk of MemPlays, case by case. Printed by plays.py.
-/
import Derived.Test.YtcmhalmmaodmhaaShows
import Derived.Test.YtcmhalmmaodmhaaStep
import Derived.Test.YtcmhalmmaodmhaaMade
namespace Go.Proofs.Ytcmhalmmaodmhaa
open Go.RowKit
set_option linter.unusedSimpArgs false
set_option linter.unusedVariables false

set_option maxRecDepth 1000000 in
set_option maxHeartbeats 2000000 in
theorem plays_00 (n : Int) (hn : n < 0 ∨ 4096 < n) (ab : Option Addr) (lb cb : Nat) (xs : List Int) (as_ : Option Addr) (ls cs : Nat) (ks is cs' : Nat → Int) (w : World) (hxl : xs.length = lb) (hcap : lb ≤ 140737488351232) (hbl : 4096 < lb)
    (hx : 0 < lb → ∃ x, ab = some x ∧ ∀ i, i < xs.length → w.cell? (x.add i) = some (.int .u8 (xs.getD i 0)))
    (hs : 0 < ls → ∃ b off, as_ = some ⟨b, off, none⟩ ∧ ∀ i, i < ls → w.cell? ⟨b, off + i * 3, none⟩ = some (.int .i64 (ks i)) ∧ w.cell? ⟨b, off + i * 3 + 1, none⟩ = some (.int .i64 (is i)) ∧ w.cell? ⟨b, off + i * 3 + 2, none⟩ = some (.int .u8 (cs' i)) ∧ is i ≤ 9223372036854775807) :
    Calls Try.prog 6 #[.int .i64 n, .slice ab lb cb, .slice as_ ls cs] w fun e w' => e = .returned (.bool true) ∧ Chg [] w w' := by
  have HX : Hid _ := hx
  have HS : Hid _ := hs
  have HC : Hid _ := hcap
  clear hx hs hcap
  go_enter Try.func6, Try.ntmps6
  go_wp2_with (first | (go_at_call 12; refine (awake_any _).mono ?_; rintro e w1 ⟨rfl, g1⟩) | (go_at_call 25; refine (new_bad n _ hn).mono ?_; rintro e w' ⟨rfl, rfl⟩) | (go_at_call 26; refine (rnew_bad n _ hn).mono ?_; rintro e w' ⟨rfl, rfl⟩; have hbe := Blk.new w1 #[] 5; have ge := g1.alloc (.cells #[] 5); have hxe : Hid (0 < lb → ∃ x, ab = some x ∧ ∀ i, i < xs.length → (w1.alloc (.cells #[] 5)).cell? (x.add i) = some (.int .u8 (xs.getD i 0))) := fun h0 => let ⟨x, hx, hcell⟩ := HX.out h0; ⟨x, hx, fun i hi => cell_kept _ (keep_cell g1 (hcell i hi))⟩) | (at_builtin; refine wpList_bytes rfl _ _ rfl w1.heap.size rfl hbe ab lb cb rfl xs hxl HC.out hxe.out ?_; intro cap4 w4 q4 hb4 hq4 hql4 k4; have g4 := ge.more k4 (by have := g1.size; simp; omega)) | (go_at_call 14; refine (load_bad _ lb cap4 _ hbl).mono ?_; rintro e w' ⟨rfl, rfl⟩) | (go_at_call 27; refine (rload_bad ab lb cb _ hbl).mono ?_; rintro e w' ⟨rfl, rfl⟩))
  have z1 := g1.size
  go_loopw [15] (fun vi wr => ∃ (k : Nat), k ≤ ls ∧ vi = .int .i64 k ∧ k ≤ 200 ∧ Chg [] w wr ∧ w4.heap.size ≤ wr.heap.size) (fun i _ => ls - (intOf i).toNat)
  case atStart => exact ⟨0, Nat.zero_le _, rfl, by omega, g4, Nat.le_refl _⟩
  case round =>
    obtain ⟨k, hk, rfl, hk2, hch, hsz⟩ := hrel
    try clear g1 z1
    try clear k4
    try clear hbe
    try clear ge
    try clear hxe
    try clear hb4
    try clear hq4
    try clear hql4
    try clear g4
    try clear z4
    by_cases hlt : k < ls ∧ k < 200
    · obtain ⟨hlt, hlt2⟩ := hlt
      obtain ⟨b, off, rfl, hcell⟩ := HS.out (by omega)
      obtain ⟨f1, f2, f3, f4⟩ := hcell k hlt
      have hbl0 := lt_of_cell? f1
      have z1 := hch.old f1 (by simp)
      have z2 := hch.old f2 (by simp)
      have z3 := hch.old f3 (by simp)
      have hcast : (k : Int) < (ls : Int) := by omega
      have hcast2 : (k : Int) < 200 := by omega
      have hd1 : decide ((k : Int) < (ls : Int)) = true := by simpa using hcast
      have hd2 : decide ((k : Int) < 200) = true := by simpa using hcast2
      have HI : Hid _ := f4
      clear f1 f2 f3 f4 hcell
      go_wp2
      go_roundw
      case rel => exact ⟨k + 1, by omega, by go_num, by omega, hch, by omega⟩
      case measure => simp [intOf]; omega
    · have hd : ((k : Int) < (ls : Int) ∧ (k : Int) < 200) = False := by simp; omega
      go_wp2
      all_goals go_ret
      all_goals exact ⟨rfl, hch⟩

set_option maxRecDepth 1000000 in
set_option maxHeartbeats 2000000 in
theorem plays_01 (n : Int) (hn : n < 0 ∨ 4096 < n) (ab : Option Addr) (lb cb : Nat) (xs : List Int) (as_ : Option Addr) (ls cs : Nat) (ks is cs' : Nat → Int) (w : World) (hxl : xs.length = lb) (hcap : lb ≤ 140737488351232) (hbl : lb ≤ 4096)
    (hx : 0 < lb → ∃ x, ab = some x ∧ ∀ i, i < xs.length → w.cell? (x.add i) = some (.int .u8 (xs.getD i 0)))
    (hs : 0 < ls → ∃ b off, as_ = some ⟨b, off, none⟩ ∧ ∀ i, i < ls → w.cell? ⟨b, off + i * 3, none⟩ = some (.int .i64 (ks i)) ∧ w.cell? ⟨b, off + i * 3 + 1, none⟩ = some (.int .i64 (is i)) ∧ w.cell? ⟨b, off + i * 3 + 2, none⟩ = some (.int .u8 (cs' i)) ∧ is i ≤ 9223372036854775807) :
    Calls Try.prog 6 #[.int .i64 n, .slice ab lb cb, .slice as_ ls cs] w fun e w' => e = .returned (.bool true) ∧ Chg [] w w' := by
  have HX : Hid _ := hx
  have HS : Hid _ := hs
  have HC : Hid _ := hcap
  clear hx hs hcap
  go_enter Try.func6, Try.ntmps6
  go_wp2_with (first | (go_at_call 12; refine (awake_any _).mono ?_; rintro e w1 ⟨rfl, g1⟩) | (go_at_call 25; refine (new_bad n _ hn).mono ?_; rintro e w' ⟨rfl, rfl⟩) | (go_at_call 26; refine (rnew_bad n _ hn).mono ?_; rintro e w' ⟨rfl, rfl⟩; have hbe := Blk.new w1 #[] 5; have ge := g1.alloc (.cells #[] 5); have hxe : Hid (0 < lb → ∃ x, ab = some x ∧ ∀ i, i < xs.length → (w1.alloc (.cells #[] 5)).cell? (x.add i) = some (.int .u8 (xs.getD i 0))) := fun h0 => let ⟨x, hx, hcell⟩ := HX.out h0; ⟨x, hx, fun i hi => cell_kept _ (keep_cell g1 (hcell i hi))⟩) | (at_builtin; refine wpList_bytes rfl _ _ rfl w1.heap.size rfl hbe ab lb cb rfl xs hxl HC.out hxe.out ?_; intro cap4 w4 q4 hb4 hq4 hql4 k4; have g4 := ge.more k4 (by have := g1.size; simp; omega)) | (go_at_call 14; refine (loadm _ lb cap4 xs _ hxl hbl (bs_src hxl hb4)).mono ?_; rintro e w5 ⟨p3, q3, rfl, m5, n3, k5⟩; have g5 := g4.trans k5) | (go_at_call 27; refine (loadr ab lb cb xs _ hxl hbl (fun h0 => let ⟨x, hx, hcell⟩ := HX.out h0; ⟨x, hx, fun i hi => keep_cell g5 (hcell i hi)⟩)).mono ?_; rintro e w6 ⟨p4, q4', rfl, r6, n4, k6⟩; have g6 := g5.trans k6; have m6 := m5.keep k6 (by simp) (by simp)))
  obtain ⟨c1, c2, c3, c4⟩ := n3
  obtain ⟨d1, d2, d3, d4⟩ := n4
  have z1 := g1.size
  have z4 := k4.size
  simp only [World.size_alloc] at z4
  have z5 := k5.size
  have z6 := k6.size
  have PL : Hid (w.heap.size ≤ p3 ∧ w.heap.size ≤ q3 ∧ p3 < w5.heap.size ∧ q3 < w5.heap.size ∧ w5.heap.size ≤ p4 ∧ w5.heap.size ≤ q4' ∧ p4 < w6.heap.size ∧ q4' < w6.heap.size ∧ w6.heap.size ≤ w6.heap.size) := by show _ ∧ _; omega
  go_loopw [15] (fun vi wr => ∃ (k : Nat) (t : MS), k ≤ ls ∧ vi = .int .i64 k ∧ k ≤ 200 ∧ IsMem wr p3 q3 t ∧ IsRef wr p4 q4' t ∧ t.Ok k ∧ Chg [] w wr ∧ w6.heap.size ≤ wr.heap.size) (fun i _ => ls - (intOf i).toNat)
  case atStart => exact ⟨0, MS.fresh xs, Nat.zero_le _, rfl, by omega, m6, r6, fresh_ok (by omega), g6, Nat.le_refl _⟩
  case round =>
    obtain ⟨k, t, hk, rfl, hk2, hm2, hr2, ok2, hch, hsz⟩ := hrel
    try clear g1 z1
    try clear k4
    try clear hbe
    try clear ge
    try clear hxe
    try clear hb4
    try clear hq4
    try clear hql4
    try clear g4
    try clear z4
    try clear m5
    try clear k5
    try clear g5
    try clear r6
    try clear k6
    try clear g6
    try clear m6
    try clear c1
    try clear c2
    try clear c3
    try clear c4
    try clear d1
    try clear d2
    try clear d3
    try clear d4
    try clear z5
    try clear z6
    by_cases hlt : k < ls ∧ k < 200
    · obtain ⟨hlt, hlt2⟩ := hlt
      obtain ⟨b, off, rfl, hcell⟩ := HS.out (by omega)
      obtain ⟨f1, f2, f3, f4⟩ := hcell k hlt
      have hbl0 := lt_of_cell? f1
      have z1 := hch.old f1 (by simp)
      have z2 := hch.old f2 (by simp)
      have z3 := hch.old f3 (by simp)
      have hcast : (k : Int) < (ls : Int) := by omega
      have hcast2 : (k : Int) < 200 := by omega
      have hd1 : decide ((k : Int) < (ls : Int)) = true := by simpa using hcast
      have hd2 : decide ((k : Int) < 200) = true := by simpa using hcast2
      have HI : Hid _ := f4
      clear f1 f2 f3 f4 hcell
      go_wp2_with (first | (go_at_call_of 28 p3; refine (step_any p3 q3 p4 q4' t _ _ _ _ hm2 hr2 (ok_le ok2 (by omega)) (by have := PL.out; omega) (by have := PL.out; omega) (by have := PL.out; omega) (by have := PL.out; omega) (by have := PL.out; omega)).mono ?_; rintro e w9 ⟨rfl, hm3, hr3, k9⟩; have ok2' := ok2.step (ks k) (is k) (cs' k) HI.out; have hch9 : Chg [] w w9 := hch.more k9 (by have := PL.out; simp; omega); have s9 := k9.size) | (go_at_call_of 29 p3; refine (shows_any p3 q3 p4 q4' _ _ hm3 hr3 ok2'.len).mono ?_; rintro e w10 ⟨rfl, k10⟩; have hch10 := hch9.trans k10; have s10 := k10.size; have hm4 := hm3.keep k10 (by simp) (by simp); have hr4 := hr3.keep k10 (by simp) (by simp)))
      go_roundw
      case rel => exact ⟨k + 1, stepS t (ks k) (is k) (cs' k), by omega, by go_num, by omega, hm4, hr4, by simpa using ok2', hch10, by omega⟩
      case measure => simp [intOf]; omega
    · have hd : ((k : Int) < (ls : Int) ∧ (k : Int) < 200) = False := by simp; omega
      go_wp2
      all_goals go_ret
      all_goals exact ⟨rfl, hch⟩

set_option maxRecDepth 1000000 in
set_option maxHeartbeats 2000000 in
theorem plays_10 (n : Int) (hn : 0 ≤ n) (hn' : n ≤ 4096) (ab : Option Addr) (lb cb : Nat) (xs : List Int) (as_ : Option Addr) (ls cs : Nat) (ks is cs' : Nat → Int) (w : World) (hxl : xs.length = lb) (hcap : lb ≤ 140737488351232) (hbl : 4096 < lb)
    (hx : 0 < lb → ∃ x, ab = some x ∧ ∀ i, i < xs.length → w.cell? (x.add i) = some (.int .u8 (xs.getD i 0)))
    (hs : 0 < ls → ∃ b off, as_ = some ⟨b, off, none⟩ ∧ ∀ i, i < ls → w.cell? ⟨b, off + i * 3, none⟩ = some (.int .i64 (ks i)) ∧ w.cell? ⟨b, off + i * 3 + 1, none⟩ = some (.int .i64 (is i)) ∧ w.cell? ⟨b, off + i * 3 + 2, none⟩ = some (.int .u8 (cs' i)) ∧ is i ≤ 9223372036854775807) :
    Calls Try.prog 6 #[.int .i64 n, .slice ab lb cb, .slice as_ ls cs] w fun e w' => e = .returned (.bool true) ∧ Chg [] w w' := by
  obtain ⟨m, rfl⟩ : ∃ m : Nat, n = (m : Int) := ⟨n.toNat, by omega⟩
  have hm : m ≤ 4096 := by omega
  have HX : Hid _ := hx
  have HS : Hid _ := hs
  have HC : Hid _ := hcap
  clear hx hs hcap
  go_enter Try.func6, Try.ntmps6
  go_wp2_with (first | (go_at_call 12; refine (awake_any _).mono ?_; rintro e w1 ⟨rfl, g1⟩) | (go_at_call 25; refine (newm m _ hm).mono ?_; rintro e w2 ⟨p1, q1, rfl, m1, n1, k⟩; have g2 := g1.trans k; clear k) | (go_at_call 26; refine (newr m _ hm).mono ?_; rintro e w3 ⟨p2, q2, rfl, r1, n2, k⟩; have m2 := m1.keep k (by simp) (by simp); have g3 := g2.trans k; have hbe := Blk.new w3 #[] 5; have ge := g3.alloc (.cells #[] 5); have hxe : Hid (0 < lb → ∃ x, ab = some x ∧ ∀ i, i < xs.length → (w3.alloc (.cells #[] 5)).cell? (x.add i) = some (.int .u8 (xs.getD i 0))) := fun h0 => let ⟨x, hx, hcell⟩ := HX.out h0; ⟨x, hx, fun i hi => cell_kept _ (keep_cell g3 (hcell i hi))⟩) | (at_builtin; refine wpList_bytes rfl _ _ rfl w3.heap.size rfl hbe ab lb cb rfl xs hxl HC.out hxe.out ?_; intro cap4 w4 q4 hb4 hq4 hql4 k4; have g4 := ge.more k4 (by have := g3.size; simp; omega); have m3 := m2.keep (((Chg.refl [] w3).alloc (.cells #[] 5)).more k4 (by simp)) (by simp) (by simp); have r2 := r1.keep (((Chg.refl [] w3).alloc (.cells #[] 5)).more k4 (by simp)) (by simp) (by simp)) | (go_at_call 14; refine (load_bad _ lb cap4 _ hbl).mono ?_; rintro e w' ⟨rfl, rfl⟩) | (go_at_call 27; refine (rload_bad ab lb cb _ hbl).mono ?_; rintro e w' ⟨rfl, rfl⟩))
  obtain ⟨a1, a2, a3, a4⟩ := n1
  obtain ⟨b1, b2, b3, b4⟩ := n2
  have z1 := g1.size
  have z2 := g2.size
  have z4 := k4.size
  simp only [World.size_alloc] at z4
  have PL : Hid (w.heap.size ≤ p1 ∧ w.heap.size ≤ q1 ∧ p1 < w2.heap.size ∧ q1 < w2.heap.size ∧ w2.heap.size ≤ p2 ∧ w2.heap.size ≤ q2 ∧ p2 < w3.heap.size ∧ q2 < w3.heap.size ∧ w3.heap.size ≤ w4.heap.size) := by show _ ∧ _; omega
  go_loopw [15] (fun vi wr => ∃ (k : Nat) (s : MS), k ≤ ls ∧ vi = .int .i64 k ∧ k ≤ 200 ∧ IsMem wr p1 q1 s ∧ IsRef wr p2 q2 s ∧ s.Ok k ∧ Chg [] w wr ∧ w4.heap.size ≤ wr.heap.size) (fun i _ => ls - (intOf i).toNat)
  case atStart => exact ⟨0, MS.fresh (List.replicate m 0), Nat.zero_le _, rfl, by omega, m3, r2, fresh_ok (by simpa using hm), g4, Nat.le_refl _⟩
  case round =>
    obtain ⟨k, s, hk, rfl, hk2, hm1, hr1, ok1, hch, hsz⟩ := hrel
    try clear g1 z1
    try clear k4
    try clear hbe
    try clear ge
    try clear hxe
    try clear hb4
    try clear hq4
    try clear hql4
    try clear g4
    try clear z4
    try clear m1
    try clear r1
    try clear g2
    try clear g3
    try clear m2
    try clear k
    try clear m3
    try clear r2
    try clear a1
    try clear a2
    try clear a3
    try clear a4
    try clear b1
    try clear b2
    try clear b3
    try clear b4
    try clear z2
    by_cases hlt : k < ls ∧ k < 200
    · obtain ⟨hlt, hlt2⟩ := hlt
      obtain ⟨b, off, rfl, hcell⟩ := HS.out (by omega)
      obtain ⟨f1, f2, f3, f4⟩ := hcell k hlt
      have hbl0 := lt_of_cell? f1
      have z1 := hch.old f1 (by simp)
      have z2 := hch.old f2 (by simp)
      have z3 := hch.old f3 (by simp)
      have hcast : (k : Int) < (ls : Int) := by omega
      have hcast2 : (k : Int) < 200 := by omega
      have hd1 : decide ((k : Int) < (ls : Int)) = true := by simpa using hcast
      have hd2 : decide ((k : Int) < 200) = true := by simpa using hcast2
      have HI : Hid _ := f4
      clear f1 f2 f3 f4 hcell
      go_wp2_with (first | (go_at_call_of 28 p1; refine (step_any p1 q1 p2 q2 s _ _ _ _ hm1 hr1 (ok_le ok1 (by omega)) (by have := PL.out; omega) (by have := PL.out; omega) (by have := PL.out; omega) (by have := PL.out; omega) (by have := PL.out; omega)).mono ?_; clear hm1 hr1; rintro e w7 ⟨rfl, hm1, hr1, k7⟩; have ok1' := ok1.step (ks k) (is k) (cs' k) HI.out; have hch7 : Chg [] w w7 := hch.more k7 (by have := PL.out; simp; omega); have y1 := k7.old z1 (by have := PL.out; simp; omega); have y2 := k7.old z2 (by have := PL.out; simp; omega); have y3 := k7.old z3 (by have := PL.out; simp; omega); have s7 := k7.size) | (go_at_call_of 29 p1; refine (shows_any p1 q1 p2 q2 _ _ hm1 hr1 ok1'.len).mono ?_; rintro e w8 ⟨rfl, k8⟩; have hch8 := hch7.trans k8; have x1 := k8.old y1 (by simp); have x2 := k8.old y2 (by simp); have x3 := k8.old y3 (by simp); have s8 := k8.size; have hm1' := hm1.keep k8 (by simp) (by simp); have hr1' := hr1.keep k8 (by simp) (by simp)))
      go_roundw
      case rel => exact ⟨k + 1, stepS s (ks k) (is k) (cs' k), by omega, by go_num, by omega, hm1', hr1', by simpa using ok1', hch8, by omega⟩
      case measure => simp [intOf]; omega
    · have hd : ((k : Int) < (ls : Int) ∧ (k : Int) < 200) = False := by simp; omega
      go_wp2
      all_goals go_ret
      all_goals exact ⟨rfl, hch⟩

set_option maxRecDepth 1000000 in
set_option maxHeartbeats 2000000 in
theorem plays_11 (n : Int) (hn : 0 ≤ n) (hn' : n ≤ 4096) (ab : Option Addr) (lb cb : Nat) (xs : List Int) (as_ : Option Addr) (ls cs : Nat) (ks is cs' : Nat → Int) (w : World) (hxl : xs.length = lb) (hcap : lb ≤ 140737488351232) (hbl : lb ≤ 4096)
    (hx : 0 < lb → ∃ x, ab = some x ∧ ∀ i, i < xs.length → w.cell? (x.add i) = some (.int .u8 (xs.getD i 0)))
    (hs : 0 < ls → ∃ b off, as_ = some ⟨b, off, none⟩ ∧ ∀ i, i < ls → w.cell? ⟨b, off + i * 3, none⟩ = some (.int .i64 (ks i)) ∧ w.cell? ⟨b, off + i * 3 + 1, none⟩ = some (.int .i64 (is i)) ∧ w.cell? ⟨b, off + i * 3 + 2, none⟩ = some (.int .u8 (cs' i)) ∧ is i ≤ 9223372036854775807) :
    Calls Try.prog 6 #[.int .i64 n, .slice ab lb cb, .slice as_ ls cs] w fun e w' => e = .returned (.bool true) ∧ Chg [] w w' := by
  obtain ⟨m, rfl⟩ : ∃ m : Nat, n = (m : Int) := ⟨n.toNat, by omega⟩
  have hm : m ≤ 4096 := by omega
  have HX : Hid _ := hx
  have HS : Hid _ := hs
  have HC : Hid _ := hcap
  clear hx hs hcap
  go_enter Try.func6, Try.ntmps6
  go_wp2_with (first | (go_at_call 12; refine (awake_any _).mono ?_; rintro e w1 ⟨rfl, g1⟩) | (go_at_call 25; refine (newm m _ hm).mono ?_; rintro e w2 ⟨p1, q1, rfl, m1, n1, k⟩; have g2 := g1.trans k; clear k) | (go_at_call 26; refine (newr m _ hm).mono ?_; rintro e w3 ⟨p2, q2, rfl, r1, n2, k⟩; have m2 := m1.keep k (by simp) (by simp); have g3 := g2.trans k; have hbe := Blk.new w3 #[] 5; have ge := g3.alloc (.cells #[] 5); have hxe : Hid (0 < lb → ∃ x, ab = some x ∧ ∀ i, i < xs.length → (w3.alloc (.cells #[] 5)).cell? (x.add i) = some (.int .u8 (xs.getD i 0))) := fun h0 => let ⟨x, hx, hcell⟩ := HX.out h0; ⟨x, hx, fun i hi => cell_kept _ (keep_cell g3 (hcell i hi))⟩) | (at_builtin; refine wpList_bytes rfl _ _ rfl w3.heap.size rfl hbe ab lb cb rfl xs hxl HC.out hxe.out ?_; intro cap4 w4 q4 hb4 hq4 hql4 k4; have g4 := ge.more k4 (by have := g3.size; simp; omega); have m3 := m2.keep (((Chg.refl [] w3).alloc (.cells #[] 5)).more k4 (by simp)) (by simp) (by simp); have r2 := r1.keep (((Chg.refl [] w3).alloc (.cells #[] 5)).more k4 (by simp)) (by simp) (by simp)) | (go_at_call 14; refine (loadm _ lb cap4 xs _ hxl hbl (bs_src hxl hb4)).mono ?_; rintro e w5 ⟨p3, q3, rfl, m5, n3, k5⟩; have g5 := g4.trans k5; have m4 := m3.keep k5 (by simp) (by simp); have r3 := r2.keep k5 (by simp) (by simp)) | (go_at_call 27; refine (loadr ab lb cb xs _ hxl hbl (fun h0 => let ⟨x, hx, hcell⟩ := HX.out h0; ⟨x, hx, fun i hi => keep_cell g5 (hcell i hi)⟩)).mono ?_; rintro e w6 ⟨p4, q4', rfl, r6, n4, k6⟩; have g6 := g5.trans k6; have m6 := m5.keep k6 (by simp) (by simp); have m4' := m4.keep k6 (by simp) (by simp); have r4 := r3.keep k6 (by simp) (by simp)))
  obtain ⟨a1, a2, a3, a4⟩ := n1
  obtain ⟨b1, b2, b3, b4⟩ := n2
  obtain ⟨c1, c2, c3, c4⟩ := n3
  obtain ⟨d1, d2, d3, d4⟩ := n4
  have z1 := g1.size
  have z2 := g2.size
  have z4 := k4.size
  simp only [World.size_alloc] at z4
  have z5 := k5.size
  have z6 := k6.size
  have PL : Hid (w.heap.size ≤ p1 ∧ w.heap.size ≤ q1 ∧ p1 < w2.heap.size ∧ q1 < w2.heap.size ∧ w2.heap.size ≤ p2 ∧ w2.heap.size ≤ q2 ∧ p2 < w3.heap.size ∧ q2 < w3.heap.size ∧ w3.heap.size ≤ p3 ∧ w3.heap.size ≤ q3 ∧ p3 < w5.heap.size ∧ q3 < w5.heap.size ∧ w5.heap.size ≤ p4 ∧ w5.heap.size ≤ q4' ∧ p4 < w6.heap.size ∧ q4' < w6.heap.size ∧ w6.heap.size ≤ w6.heap.size) := by show _ ∧ _; omega
  go_loopw [15] (fun vi wr => ∃ (k : Nat) (s : MS) (t : MS), k ≤ ls ∧ vi = .int .i64 k ∧ k ≤ 200 ∧ IsMem wr p1 q1 s ∧ IsRef wr p2 q2 s ∧ s.Ok k ∧ IsMem wr p3 q3 t ∧ IsRef wr p4 q4' t ∧ t.Ok k ∧ Chg [] w wr ∧ w6.heap.size ≤ wr.heap.size) (fun i _ => ls - (intOf i).toNat)
  case atStart => exact ⟨0, MS.fresh (List.replicate m 0), MS.fresh xs, Nat.zero_le _, rfl, by omega, m4', r4, fresh_ok (by simpa using hm), m6, r6, fresh_ok (by omega), g6, Nat.le_refl _⟩
  case round =>
    obtain ⟨k, s, t, hk, rfl, hk2, hm1, hr1, ok1, hm2, hr2, ok2, hch, hsz⟩ := hrel
    try clear g1 z1
    try clear k4
    try clear hbe
    try clear ge
    try clear hxe
    try clear hb4
    try clear hq4
    try clear hql4
    try clear g4
    try clear z4
    try clear m1
    try clear r1
    try clear g2
    try clear g3
    try clear m2
    try clear k
    try clear m3
    try clear r2
    try clear a1
    try clear a2
    try clear a3
    try clear a4
    try clear b1
    try clear b2
    try clear b3
    try clear b4
    try clear z2
    try clear m5
    try clear k5
    try clear g5
    try clear r6
    try clear k6
    try clear g6
    try clear m6
    try clear c1
    try clear c2
    try clear c3
    try clear c4
    try clear d1
    try clear d2
    try clear d3
    try clear d4
    try clear z5
    try clear z6
    try clear m4
    try clear r3
    try clear m4'
    try clear r4
    by_cases hlt : k < ls ∧ k < 200
    · obtain ⟨hlt, hlt2⟩ := hlt
      obtain ⟨b, off, rfl, hcell⟩ := HS.out (by omega)
      obtain ⟨f1, f2, f3, f4⟩ := hcell k hlt
      have hbl0 := lt_of_cell? f1
      have z1 := hch.old f1 (by simp)
      have z2 := hch.old f2 (by simp)
      have z3 := hch.old f3 (by simp)
      have hcast : (k : Int) < (ls : Int) := by omega
      have hcast2 : (k : Int) < 200 := by omega
      have hd1 : decide ((k : Int) < (ls : Int)) = true := by simpa using hcast
      have hd2 : decide ((k : Int) < 200) = true := by simpa using hcast2
      have HI : Hid _ := f4
      clear f1 f2 f3 f4 hcell
      go_wp2_with (first | (go_at_call_of 28 p1; refine (step_any p1 q1 p2 q2 s _ _ _ _ hm1 hr1 (ok_le ok1 (by omega)) (by have := PL.out; omega) (by have := PL.out; omega) (by have := PL.out; omega) (by have := PL.out; omega) (by have := PL.out; omega)).mono ?_; clear hm1 hr1; rintro e w7 ⟨rfl, hm1, hr1, k7⟩; have ok1' := ok1.step (ks k) (is k) (cs' k) HI.out; have hch7 : Chg [] w w7 := hch.more k7 (by have := PL.out; simp; omega); have y1 := k7.old z1 (by have := PL.out; simp; omega); have y2 := k7.old z2 (by have := PL.out; simp; omega); have y3 := k7.old z3 (by have := PL.out; simp; omega); have s7 := k7.size; have hm2' := hm2.keep k7 (by have := PL.out; simp; omega) (by have := PL.out; simp; omega); have hr2' := hr2.keep k7 (by have := PL.out; simp; omega) (by have := PL.out; simp; omega)) | (go_at_call_of 29 p1; refine (shows_any p1 q1 p2 q2 _ _ hm1 hr1 ok1'.len).mono ?_; rintro e w8 ⟨rfl, k8⟩; have hch8 := hch7.trans k8; have x1 := k8.old y1 (by simp); have x2 := k8.old y2 (by simp); have x3 := k8.old y3 (by simp); have s8 := k8.size; have hm1' := hm1.keep k8 (by simp) (by simp); have hr1' := hr1.keep k8 (by simp) (by simp); have hm2'' := hm2'.keep k8 (by simp) (by simp); have hr2'' := hr2'.keep k8 (by simp) (by simp)) | (go_at_call_of 28 p3; refine (step_any p3 q3 p4 q4' t _ _ _ _ hm2'' hr2'' (ok_le ok2 (by omega)) (by have := PL.out; omega) (by have := PL.out; omega) (by have := PL.out; omega) (by have := PL.out; omega) (by have := PL.out; omega)).mono ?_; rintro e w9 ⟨rfl, hm3, hr3, k9⟩; have ok2' := ok2.step (ks k) (is k) (cs' k) HI.out; have hch9 : Chg [] w w9 := hch8.more k9 (by have := PL.out; simp; omega); have s9 := k9.size; have hm1'' := hm1'.keep k9 (by have := PL.out; simp; omega) (by have := PL.out; simp; omega); have hr1'' := hr1'.keep k9 (by have := PL.out; simp; omega) (by have := PL.out; simp; omega)) | (go_at_call_of 29 p3; refine (shows_any p3 q3 p4 q4' _ _ hm3 hr3 ok2'.len).mono ?_; rintro e w10 ⟨rfl, k10⟩; have hch10 := hch9.trans k10; have s10 := k10.size; have hm4 := hm3.keep k10 (by simp) (by simp); have hr4 := hr3.keep k10 (by simp) (by simp); have hm1F := hm1''.keep k10 (by simp) (by simp); have hr1F := hr1''.keep k10 (by simp) (by simp)))
      go_roundw
      case rel => exact ⟨k + 1, stepS s (ks k) (is k) (cs' k), stepS t (ks k) (is k) (cs' k), by omega, by go_num, by omega, hm1F, hr1F, by simpa using ok1', hm4, hr4, by simpa using ok2', hch10, by omega⟩
      case measure => simp [intOf]; omega
    · have hd : ((k : Int) < (ls : Int) ∧ (k : Int) < 200) = False := by simp; omega
      go_wp2
      all_goals go_ret
      all_goals exact ⟨rfl, hch⟩

end Go.Proofs.Ytcmhalmmaodmhaa
