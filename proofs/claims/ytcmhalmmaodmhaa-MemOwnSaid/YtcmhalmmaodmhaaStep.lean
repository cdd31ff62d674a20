/-
  DERIVED. The walk of 'step': one call on a memory and on the document's one.
-/
import Derived.Test.YtcmhalmmaodmhaaAwake2
import Derived.Deep.RegionHeld
namespace Go.Proofs.Ytcmhalmmaodmhaa
open Go.RowKit
set_option linter.unusedSimpArgs false
set_option linter.unusedVariables false

def stepS (s : MS) (k i c : Int) : MS := if k = 1 then (s.write i c).1 else if k = 3 then (s.arm i).1 else if k = 4 then s.on else s

theorem MS.Ok.write {s : MS} {W : Int} (h : s.Ok W) (i c : Int) : (s.write i c).1.Ok (W + 1) := by
  obtain ⟨h1, h2, h3, h4, h5⟩ := h
  unfold MS.write
  split
  · exact ⟨h1, h2, h3, by simp only []; omega, h5⟩
  · split
    · exact ⟨h1, h2, h3, by simp only []; omega, h5⟩
    · split
      · exact ⟨h1, h2, h3, by simp; omega, h5⟩
      · rename_i h6
        refine ⟨?_, ?_, by simp; omega, by simp; omega, by simpa using h5⟩
        · simp only []
          split
          · rename_i h7
            have : s.left ≠ 0 := fun h8 => h6 ⟨h7, h8⟩
            omega
          · exact h1
        · simp only []
          split
          · omega
          · exact h2

theorem MS.Ok.step {s : MS} {W : Int} (h : s.Ok W) (k i c : Int) (hi : i ≤ 9223372036854775807) : (stepS s k i c).Ok (W + 1) := by
  have h0 := h
  obtain ⟨h1, h2, h3, h4, h5⟩ := h
  unfold stepS
  split
  · exact h0.write i c
  · split
    · unfold MS.arm
      split
      · exact ⟨h1, h2, h3, by simp only []; omega, h5⟩
      · rename_i h6
        exact ⟨by simp only []; omega, by simp only []; omega, h3, by simp only []; omega, h5⟩
    · split
      · exact ⟨h1, h2, h3, by simp only [MS.on]; omega, h5⟩
      · exact ⟨h1, h2, h3, by omega, h5⟩

set_option maxRecDepth 100000 in
set_option maxHeartbeats 1000000 in
theorem step_write (p q p' q' : Nat) (s : MS) (i c : Int) (w : World) (h : IsMem w p q s) (h' : IsRef w p' q' s) (hok : s.Ok 100000) (h1 : p < w.heap.size) (h2 : q < w.heap.size) (h3 : p' < w.heap.size) (h4 : q' < w.heap.size) (hd : p ≠ p' ∧ p ≠ q' ∧ q ≠ p' ∧ q ≠ q') :
    Calls Try.prog 28 #[.pointer (some ⟨p, 0, none⟩), .pointer (some ⟨p', 0, none⟩), .agg #[.int .i64 1, .int .i64 i, .int .u8 c]] w fun e w' =>
      e = .returned (.bool true) ∧ IsMem w' p q (s.write i c).1 ∧ IsRef w' p' q' (s.write i c).1 ∧ Chg [p, q, p', q'] w w' := by
  obtain ⟨o1, o2, o3, o4, o5⟩ := hok
  have hbx := Blk.new w #[.int .i64 1, .int .i64 i, .int .u8 c] 42
  have hm0 : IsMem (w.alloc (.cells #[.int .i64 1, .int .i64 i, .int .u8 c] 42)).drew p q s := h.keep ((Chg.refl [] w).alloc _).drew (by simp) (by simp)
  have hr0 : IsRef (w.alloc (.cells #[.int .i64 1, .int .i64 i, .int .u8 c] 42)).drew p' q' s := h'.keep ((Chg.refl [] w).alloc _).drew (by simp) (by simp)
  have hch0 : Chg [p, q, p', q'] w (w.alloc (.cells #[.int .i64 1, .int .i64 i, .int .u8 c] 42)).drew := ((Chg.refl _ w).alloc _).drew
  have b1 := hbx.drew.cell 1
  have b2 := hbx.drew.cell 2
  rw [show (#[Value.int .i64 1, .int .i64 i, .int .u8 c] : Array Value)[1]? = some (.int .i64 i) from rfl] at b1
  rw [show (#[Value.int .i64 1, .int .i64 i, .int .u8 c] : Array Value)[2]? = some (.int .u8 c) from rfl] at b2
  clear h h' hbx
  go_enter Try.func28, Try.ntmps28
  go_wp2
  go_region_held (fun W => W.cell? ⟨w.heap.size, 1, none⟩ = some (.int .i64 i) ∧ W.cell? ⟨w.heap.size, 2, none⟩ = some (.int .u8 c)) (first | (exact ⟨b1, b2⟩) | (exact ⟨b3, b4⟩) | (exact ⟨b5, b6⟩))
    ((first
      | (go_at_call 19; refine (write_any p q s i c _ hm0 o5 o1 o2 o3 (by omega)).mono ?_; rintro e w2 ⟨rfl, hm1, k⟩; have hr1 := hr0.keep k (by simp; omega) (by simp; omega); have hch1 := hch0.more k (by simp); have b3 := k.old b1 (by simp; omega); have b4 := k.old b2 (by simp; omega))
      | (go_at_call 42; refine (rwrite_any p' q' s i c _ hr1 o5 o1 o2 o3 (by omega)).mono ?_; rintro e w3 ⟨rfl, hr2, k2⟩; have hm2 := hm1.keep k2 (by simp; omega) (by simp; omega); have hch2 := hch1.more k2 (by simp); have b5 := k2.old b3 (by simp; omega); have b6 := k2.old b4 (by simp; omega))))
  all_goals go_wp2
  all_goals go_ret
  all_goals exact ⟨rfl, hm2, hr2, hch2⟩

set_option maxRecDepth 100000 in
set_option maxHeartbeats 1000000 in
theorem step_arm (p q p' q' : Nat) (s : MS) (i c : Int) (w : World) (h : IsMem w p q s) (h' : IsRef w p' q' s) (hok : s.Ok 100000) (h1 : p < w.heap.size) (h2 : q < w.heap.size) (h3 : p' < w.heap.size) (h4 : q' < w.heap.size) (hd : p ≠ p' ∧ p ≠ q' ∧ q ≠ p' ∧ q ≠ q') :
    Calls Try.prog 28 #[.pointer (some ⟨p, 0, none⟩), .pointer (some ⟨p', 0, none⟩), .agg #[.int .i64 3, .int .i64 i, .int .u8 c]] w fun e w' =>
      e = .returned (.bool true) ∧ IsMem w' p q (s.arm i).1 ∧ IsRef w' p' q' (s.arm i).1 ∧ Chg [p, q, p', q'] w w' := by
  obtain ⟨o1, o2, o3, o4, o5⟩ := hok
  have hbx := Blk.new w #[.int .i64 3, .int .i64 i, .int .u8 c] 42
  have hm0 : IsMem (w.alloc (.cells #[.int .i64 3, .int .i64 i, .int .u8 c] 42)).drew p q s := h.keep ((Chg.refl [] w).alloc _).drew (by simp) (by simp)
  have hr0 : IsRef (w.alloc (.cells #[.int .i64 3, .int .i64 i, .int .u8 c] 42)).drew p' q' s := h'.keep ((Chg.refl [] w).alloc _).drew (by simp) (by simp)
  have hch0 : Chg [p, q, p', q'] w (w.alloc (.cells #[.int .i64 3, .int .i64 i, .int .u8 c] 42)).drew := ((Chg.refl _ w).alloc _).drew
  have b1 := hbx.drew.cell 1
  rw [show (#[Value.int .i64 3, .int .i64 i, .int .u8 c] : Array Value)[1]? = some (.int .i64 i) from rfl] at b1
  clear h h' hbx
  go_enter Try.func28, Try.ntmps28
  go_wp2
  go_region_held (fun W => W.cell? ⟨w.heap.size, 1, none⟩ = some (.int .i64 i)) (first | (exact b1) | (exact b3) | (exact b5))
    ((first
      | (go_at_call 18; refine (arm_any p q s i _ hm0).mono ?_; rintro e w2 ⟨rfl, hm1, k⟩; have hr1 := hr0.keep k (by simp; omega) (by simp; omega); have hch1 := hch0.more k (by simp); have b3 := k.old b1 (by simp; omega))
      | (go_at_call 36; refine (rarm_any p' q' s i _ hr1).mono ?_; rintro e w3 ⟨rfl, hr2, k2⟩; have hm2 := hm1.keep k2 (by simp; omega) (by simp; omega); have hch2 := hch1.more k2 (by simp); have b5 := k2.old b3 (by simp; omega))))
  all_goals go_wp2
  all_goals go_ret
  all_goals exact ⟨rfl, hm2, hr2, hch2⟩

set_option maxRecDepth 100000 in
set_option maxHeartbeats 1000000 in
theorem step_read (p q p' q' : Nat) (s : MS) (i c : Int) (w : World) (h : IsMem w p q s) (h' : IsRef w p' q' s) (hok : s.Ok 100000) (h1 : p < w.heap.size) (h2 : q < w.heap.size) (h3 : p' < w.heap.size) (h4 : q' < w.heap.size) :
    Calls Try.prog 28 #[.pointer (some ⟨p, 0, none⟩), .pointer (some ⟨p', 0, none⟩), .agg #[.int .i64 2, .int .i64 i, .int .u8 c]] w fun e w' =>
      e = .returned (.bool true) ∧ IsMem w' p q s ∧ IsRef w' p' q' s ∧ Chg [p, q, p', q'] w w' := by
  obtain ⟨o1, o2, o3, o4, o5⟩ := hok
  have hbx := Blk.new w #[.int .i64 2, .int .i64 i, .int .u8 c] 42
  have hm0 : IsMem (w.alloc (.cells #[.int .i64 2, .int .i64 i, .int .u8 c] 42)) p q s := h.keep ((Chg.refl [] w).alloc _) (by simp) (by simp)
  have hr0 : IsRef (w.alloc (.cells #[.int .i64 2, .int .i64 i, .int .u8 c] 42)) p' q' s := h'.keep ((Chg.refl [] w).alloc _) (by simp) (by simp)
  have hch0 : Chg [p, q, p', q'] w (w.alloc (.cells #[.int .i64 2, .int .i64 i, .int .u8 c] 42)) := (Chg.refl _ w).alloc _
  have b1 := hbx.cell 1
  rw [show (#[Value.int .i64 2, .int .i64 i, .int .u8 c] : Array Value)[1]? = some (.int .i64 i) from rfl] at b1
  clear h h' hbx
  go_enter Try.func28, Try.ntmps28
  go_wp2_with (first | (go_at_call 23; refine (read_any p q s i _ hm0 o5).mono ?_; rintro e w' ⟨rfl, rfl⟩) | (go_at_call 43; refine (rread_any p' q' s i _ hr0 o5).mono ?_; rintro e w' ⟨rfl, rfl⟩))
  go_ret
  exact ⟨rfl, hm0, hr0, hch0⟩

set_option maxRecDepth 100000 in
set_option maxHeartbeats 1000000 in
theorem step_on (p q p' q' : Nat) (s : MS) (i c : Int) (w : World) (h : IsMem w p q s) (h' : IsRef w p' q' s) (hok : s.Ok 100000) (h1 : p < w.heap.size) (h2 : q < w.heap.size) (h3 : p' < w.heap.size) (h4 : q' < w.heap.size) (hd : p ≠ p' ∧ p ≠ q' ∧ q ≠ p' ∧ q ≠ q') :
    Calls Try.prog 28 #[.pointer (some ⟨p, 0, none⟩), .pointer (some ⟨p', 0, none⟩), .agg #[.int .i64 4, .int .i64 i, .int .u8 c]] w fun e w' =>
      e = .returned (.bool true) ∧ IsMem w' p q s.on ∧ IsRef w' p' q' s.on ∧ Chg [p, q, p', q'] w w' := by
  obtain ⟨o1, o2, o3, o4, o5⟩ := hok
  have hbx := Blk.new w #[.int .i64 4, .int .i64 i, .int .u8 c] 42
  have hm0 : IsMem (w.alloc (.cells #[.int .i64 4, .int .i64 i, .int .u8 c] 42)) p q s := h.keep ((Chg.refl [] w).alloc _) (by simp) (by simp)
  have hr0 : IsRef (w.alloc (.cells #[.int .i64 4, .int .i64 i, .int .u8 c] 42)) p' q' s := h'.keep ((Chg.refl [] w).alloc _) (by simp) (by simp)
  have hch0 : Chg [p, q, p', q'] w (w.alloc (.cells #[.int .i64 4, .int .i64 i, .int .u8 c] 42)) := (Chg.refl _ w).alloc _
  have b1 := hbx.cell 1
  rw [show (#[Value.int .i64 4, .int .i64 i, .int .u8 c] : Array Value)[1]? = some (.int .i64 i) from rfl] at b1
  clear h h' hbx
  go_enter Try.func28, Try.ntmps28
  go_wp2_with (first | (go_at_call 21; refine (on_any p q s _ hm0).mono ?_; rintro e w2 ⟨rfl, hm1, k⟩; have hr1 := hr0.keep k (by simp; omega) (by simp; omega); have hch1 := hch0.more k (by simp)) | (go_at_call 37; refine (ron_any p' q' s _ hr1).mono ?_; rintro e w3 ⟨rfl, hr2, k2⟩; have hm2 := hm1.keep k2 (by simp; omega) (by simp; omega); have hch2 := hch1.more k2 (by simp)))
  go_ret
  exact ⟨rfl, hm2, hr2, hch2⟩

set_option maxRecDepth 100000 in
set_option maxHeartbeats 1000000 in
theorem step_else (p q p' q' : Nat) (s : MS) (kd i c : Int) (w : World) (h : IsMem w p q s) (h' : IsRef w p' q' s) (hok : s.Ok 100000) (h1 : p < w.heap.size) (h2 : q < w.heap.size) (h3 : p' < w.heap.size) (h4 : q' < w.heap.size)
    (e1 : kd ≠ 1) (e2 : kd ≠ 2) (e3 : kd ≠ 3) (e4 : kd ≠ 4) :
    Calls Try.prog 28 #[.pointer (some ⟨p, 0, none⟩), .pointer (some ⟨p', 0, none⟩), .agg #[.int .i64 kd, .int .i64 i, .int .u8 c]] w fun e w' =>
      e = .returned (.bool true) ∧ IsMem w' p q s ∧ IsRef w' p' q' s ∧ Chg [p, q, p', q'] w w' := by
  obtain ⟨o1, o2, o3, o4, o5⟩ := hok
  have hbx := Blk.new w #[.int .i64 kd, .int .i64 i, .int .u8 c] 42
  have hm0 : IsMem (w.alloc (.cells #[.int .i64 kd, .int .i64 i, .int .u8 c] 42)) p q s := h.keep ((Chg.refl [] w).alloc _) (by simp) (by simp)
  have hr0 : IsRef (w.alloc (.cells #[.int .i64 kd, .int .i64 i, .int .u8 c] 42)) p' q' s := h'.keep ((Chg.refl [] w).alloc _) (by simp) (by simp)
  have hch0 : Chg [p, q, p', q'] w (w.alloc (.cells #[.int .i64 kd, .int .i64 i, .int .u8 c] 42)) := (Chg.refl _ w).alloc _
  have b1 := hbx.cell 1
  rw [show (#[Value.int .i64 kd, .int .i64 i, .int .u8 c] : Array Value)[1]? = some (.int .i64 i) from rfl] at b1
  clear h h' hbx
  go_enter Try.func28, Try.ntmps28
  go_wp2
  go_ret
  exact ⟨rfl, hm0, hr0, hch0⟩

theorem step_any (p q p' q' : Nat) (s : MS) (kd i c : Int) (w : World) (h : IsMem w p q s) (h' : IsRef w p' q' s) (hok : s.Ok 100000) (h1 : p < w.heap.size) (h2 : q < w.heap.size) (h3 : p' < w.heap.size) (h4 : q' < w.heap.size) (hd : p ≠ p' ∧ p ≠ q' ∧ q ≠ p' ∧ q ≠ q') :
    Calls Try.prog 28 #[.pointer (some ⟨p, 0, none⟩), .pointer (some ⟨p', 0, none⟩), .agg #[.int .i64 kd, .int .i64 i, .int .u8 c]] w fun e w' =>
      e = .returned (.bool true) ∧ IsMem w' p q (stepS s kd i c) ∧ IsRef w' p' q' (stepS s kd i c) ∧ Chg [p, q, p', q'] w w' := by
  by_cases e1 : kd = 1
  · subst e1; exact step_write p q p' q' s i c w h h' hok h1 h2 h3 h4 hd
  by_cases e2 : kd = 2
  · subst e2; exact step_read p q p' q' s i c w h h' hok h1 h2 h3 h4
  by_cases e3 : kd = 3
  · subst e3; exact step_arm p q p' q' s i c w h h' hok h1 h2 h3 h4 hd
  by_cases e4 : kd = 4
  · subst e4; exact step_on p q p' q' s i c w h h' hok h1 h2 h3 h4 hd
  have : stepS s kd i c = s := by simp [stepS, e1, e3, e4]
  rw [this]
  exact step_else p q p' q' s kd i c w h h' hok h1 h2 h3 h4 e1 e2 e3 e4

end Go.Proofs.Ytcmhalmmaodmhaa
