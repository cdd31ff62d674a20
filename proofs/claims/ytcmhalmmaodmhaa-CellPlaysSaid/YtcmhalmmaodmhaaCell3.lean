/-
  DERIVED. The walks of package cell: repair, spare.
-/
import Derived.Test.YtcmhalmmaodmhaaCell2
import Derived.Deep.RegionHeld
namespace Go.Proofs.Ytcmhalmmaodmhaa
open Go.RowKit
set_option linter.unusedSimpArgs false
set_option linter.unusedVariables false

/-- A slot's marker and word. -/
def mk (s : MS) (k : Nat) : Int := s.B.getD (5 * k) 0
def wd (s : MS) (k : Nat) : Int := s.B.getD (5 * k + 1) 0 * 16777216 + s.B.getD (5 * k + 2) 0 * 65536 + s.B.getD (5 * k + 3) 0 * 256 + s.B.getD (5 * k + 4) 0

/-- All that a memory holds are bytes. -/
def MS.Bytes (s : MS) : Prop := ∀ i, 0 ≤ s.B.getD i 0 ∧ s.B.getD i 0 ≤ 255

theorem wd_bd {s : MS} (h : s.Bytes) (k : Nat) : 0 ≤ wd s k ∧ wd s k ≤ 4294967295 := by
  have h1 := h (5 * k + 1)
  have h2 := h (5 * k + 2)
  have h3 := h (5 * k + 3)
  have h4 := h (5 * k + 4)
  unfold wd
  omega

theorem slot_read (p q k : Nat) (s : MS) (w : World) (h : IsMem w p q s) (hk : k ≤ 1) (hlen : s.B.length ≤ 4096) (hlen2 : 10 ≤ s.B.length) (ho : s.off = false) (hb : s.Bytes) :
    Calls Try.prog 46 #[.pointer (some ⟨p, 0, none⟩), .int .i64 k] w fun e w' => e = .returned (.tuple #[.int .u8 (mk s k), .int .u32 (wd s k), .int .i64 0]) ∧ w = w' :=
  cread_any p q k s w h hk hlen hlen2 ho _ _ _ _ _ rfl rfl rfl rfl rfl (hb _) (hb _) (hb _) (hb _)

set_option maxRecDepth 1000000 in
set_option maxHeartbeats 1000000 in
theorem cread_off (p q k : Nat) (s : MS) (w : World) (h : IsMem w p q s) (hk : k ≤ 1) (hlen : s.B.length ≤ 4096) (ho : s.off = true) :
    Calls Try.prog 46 #[.pointer (some ⟨p, 0, none⟩), .int .i64 k] w fun e w' => e = .returned (.tuple #[.int .u8 0, .int .u32 0, .int .i64 70]) ∧ w = w' := by
  have R : ∀ (i : Int) w, IsMem w p q s → Calls Try.prog 23 #[.pointer (some ⟨p, 0, none⟩), .int .i64 i] w fun e w' => e = .returned (.tuple #[.int .u8 0, .int .i64 70]) ∧ w = w' := by
    intro i w h
    have := read_any p q s i w h hlen
    rw [show s.read i = (0, 70) by unfold MS.read; rw [if_pos (by simp [ho])]] at this
    exact this
  have HR : Hid _ := R
  have e1 := or_zero 0 (by omega) (by omega)
  clear R
  go_enter Try.func46, Try.ntmps46
  go_wp2_with (go_at_call 23; refine (HR.out _ _ h).mono ?_; rintro e w' ⟨rfl, rfl⟩)
  refine wp_loop_rounds 5 ?_
  rw [rounds_succ]
  go_wp2_with (go_at_call 23; refine (HR.out _ _ h).mono ?_; rintro e w' ⟨rfl, rfl⟩)
  rw [rounds_succ]
  go_wp2_with (go_at_call 23; refine (HR.out _ _ h).mono ?_; rintro e w' ⟨rfl, rfl⟩)
  rw [rounds_succ]
  go_wp2_with (go_at_call 23; refine (HR.out _ _ h).mono ?_; rintro e w' ⟨rfl, rfl⟩)
  rw [rounds_succ]
  go_wp2_with (go_at_call 23; refine (HR.out _ _ h).mono ?_; rintro e w' ⟨rfl, rfl⟩)
  rw [rounds_succ]
  go_wp2
  go_ret3
  exact ⟨rfl, rfl⟩

/-- Block c is a cell over the memory at p. -/
def IsCell (w : World) (c p : Nat) (mx v : Int) (dead : Bool) : Prop := Blk w c #[.pointer (some ⟨p, 0, none⟩), .int .u32 mx, .int .u32 v, .bool dead] 92

theorem IsCell.c0 {w : World} {c p : Nat} {mx v : Int} {dead : Bool} (h : IsCell w c p mx v dead) : w.cell? ⟨c, 0, none⟩ = some (.pointer (some ⟨p, 0, none⟩)) := h.cell 0
theorem IsCell.c1 {w : World} {c p : Nat} {mx v : Int} {dead : Bool} (h : IsCell w c p mx v dead) : w.cell? ⟨c, 1, none⟩ = some (.int .u32 mx) := h.cell 1
theorem IsCell.c2 {w : World} {c p : Nat} {mx v : Int} {dead : Bool} (h : IsCell w c p mx v dead) : w.cell? ⟨c, 2, none⟩ = some (.int .u32 v) := h.cell 2
theorem IsCell.c3 {w : World} {c p : Nat} {mx v : Int} {dead : Bool} (h : IsCell w c p mx v dead) : w.cell? ⟨c, 3, none⟩ = some (.bool dead) := h.cell 3

/-- Which slot may be written. -/
def spareP (s : MS) : Int := if mk s 0 = 165 ∧ (mk s 1 ≠ 165 ∨ wd s 1 < wd s 0) then 1 else 0

set_option maxRecDepth 1000000 in
set_option maxHeartbeats 1000000 in
theorem spare_any (c p q : Nat) (s : MS) (mx v : Int) (dead : Bool) (w : World) (hc : IsCell w c p mx v dead) (h : IsMem w p q s) (hlen : s.B.length ≤ 4096) (hlen2 : 10 ≤ s.B.length) (ho : s.off = false) (hb : s.Bytes) :
    Calls Try.prog 44 #[.pointer (some ⟨c, 0, none⟩)] w fun e w' => e = .returned (.tuple #[.int .i64 (spareP s), .int .i64 0]) ∧ Chg [] w w' := by
  have hc0 := hc.c0
  have hcl : c < w.heap.size := hc.lt
  by_cases h0 : mk s 0 = 165
  · by_cases h1 : mk s 1 = 165
    · by_cases h2 : wd s 1 < wd s 0
      · have E : spareP s = 1 := by unfold spareP; rw [if_pos ⟨h0, Or.inr h2⟩]
        rw [E]
        go_enter Try.func44, Try.ntmps44
        go_wp2
        refine wp_loop_rounds 3 ?_
        rw [rounds_succ]
        go_wp2_with (go_at_call 46; refine (slot_read p q 0 s _ (h.keep (((Chg.refl [] w).alloc _).alloc _) (by simp) (by simp)) (by omega) hlen hlen2 ho hb).mono ?_; rintro e w' ⟨rfl, rfl⟩)
        rw [rounds_succ]
        go_wp2_with (go_at_call 46; refine (slot_read p q 1 s _ (h.keep (((Chg.refl [] w).alloc _).alloc _) (by simp) (by simp)) (by omega) hlen hlen2 ho hb).mono ?_; rintro e w' ⟨rfl, rfl⟩)
        rw [rounds_succ]
        go_wp2
        go_ret2
        exact ⟨rfl, ((Chg.refl [] w).alloc _).alloc _⟩
      · have E : spareP s = 0 := by unfold spareP; rw [if_neg (fun h => h.2.elim (fun h => h h1) h2)]
        rw [E]
        go_enter Try.func44, Try.ntmps44
        go_wp2
        refine wp_loop_rounds 3 ?_
        rw [rounds_succ]
        go_wp2_with (go_at_call 46; refine (slot_read p q 0 s _ (h.keep (((Chg.refl [] w).alloc _).alloc _) (by simp) (by simp)) (by omega) hlen hlen2 ho hb).mono ?_; rintro e w' ⟨rfl, rfl⟩)
        rw [rounds_succ]
        go_wp2_with (go_at_call 46; refine (slot_read p q 1 s _ (h.keep (((Chg.refl [] w).alloc _).alloc _) (by simp) (by simp)) (by omega) hlen hlen2 ho hb).mono ?_; rintro e w' ⟨rfl, rfl⟩)
        rw [rounds_succ]
        go_wp2
        go_ret2
        exact ⟨rfl, ((Chg.refl [] w).alloc _).alloc _⟩
    · have E : spareP s = 1 := by unfold spareP; rw [if_pos ⟨h0, Or.inl h1⟩]
      rw [E]
      go_enter Try.func44, Try.ntmps44
      go_wp2
      refine wp_loop_rounds 3 ?_
      rw [rounds_succ]
      go_wp2_with (go_at_call 46; refine (slot_read p q 0 s _ (h.keep (((Chg.refl [] w).alloc _).alloc _) (by simp) (by simp)) (by omega) hlen hlen2 ho hb).mono ?_; rintro e w' ⟨rfl, rfl⟩)
      rw [rounds_succ]
      go_wp2_with (go_at_call 46; refine (slot_read p q 1 s _ (h.keep (((Chg.refl [] w).alloc _).alloc _) (by simp) (by simp)) (by omega) hlen hlen2 ho hb).mono ?_; rintro e w' ⟨rfl, rfl⟩)
      rw [rounds_succ]
      go_wp2
      go_ret2
      exact ⟨rfl, ((Chg.refl [] w).alloc _).alloc _⟩
  · have E : spareP s = 0 := by unfold spareP; rw [if_neg (fun h => h0 h.1)]
    rw [E]
    go_enter Try.func44, Try.ntmps44
    go_wp2
    refine wp_loop_rounds 3 ?_
    rw [rounds_succ]
    go_wp2_with (go_at_call 46; refine (slot_read p q 0 s _ (h.keep (((Chg.refl [] w).alloc _).alloc _) (by simp) (by simp)) (by omega) hlen hlen2 ho hb).mono ?_; rintro e w' ⟨rfl, rfl⟩)
    rw [rounds_succ]
    go_wp2_with (go_at_call 46; refine (slot_read p q 1 s _ (h.keep (((Chg.refl [] w).alloc _).alloc _) (by simp) (by simp)) (by omega) hlen hlen2 ho hb).mono ?_; rintro e w' ⟨rfl, rfl⟩)
    rw [rounds_succ]
    go_wp2
    go_ret2
    exact ⟨rfl, ((Chg.refl [] w).alloc _).alloc _⟩

/-- Where no slot holds a word: each marker that isn't 0 is written 0. -/
def zap (s : MS) (m0 m1 : Int) : MS × Int := andThen (if m0 = 0 then (s, 0) else s.write 0 0) fun s1 => if m1 = 0 then (s1, 0) else s1.write 5 0

/-- What the memory holds is put right. -/
def repairP (s : MS) (m0 m1 w0 w1 : Int) : MS × Int :=
  if m0 = 165 ∧ m1 = 165 then (s, 0) else if m0 = 165 then wr6 s 1 w0 else if m1 = 165 then wr6 s 0 w1 else zap s m0 m1

/-- The value. -/
def valueP (m0 m1 w0 w1 : Int) : Int := if m0 = 165 ∧ m1 = 165 then max w0 w1 else if m0 = 165 then w0 else if m1 = 165 then w1 else 0

set_option maxRecDepth 1000000 in
set_option maxHeartbeats 1000000 in
theorem repair_any (p q : Nat) (s : MS) (m0 m1 w0 w1 : Int) (w : World) (hmem : IsMem w p q s) (hq : q < w.heap.size) (hok : s.Ok 100000) (b0 : 0 ≤ w0 ∧ w0 ≤ 4294967295) (b1 : 0 ≤ w1 ∧ w1 ≤ 4294967295) :
    Calls Try.prog 47 #[.pointer (some ⟨p, 0, none⟩), .agg #[.int .u8 m0, .int .u8 m1], .agg #[.int .u32 w0, .int .u32 w1]] w fun e w' =>
      ∃ v, e = .returned (.tuple #[.int .u32 v, .int .i64 (repairP s m0 m1 w0 w1).2]) ∧ ((repairP s m0 m1 w0 w1).2 = 0 → v = valueP m0 m1 w0 w1) ∧ IsMem w' p q (repairP s m0 m1 w0 w1).1 ∧ Chg [p, q] w w' := by
  have hlp := hmem.lt
  by_cases h0 : m0 = 165
  · by_cases h1 : m1 = 165
    · have E : repairP s m0 m1 w0 w1 = (s, 0) := by unfold repairP; rw [if_pos ⟨h0, h1⟩]
      have F : valueP m0 m1 w0 w1 = max w0 w1 := by unfold valueP; rw [if_pos ⟨h0, h1⟩]
      rw [E, F]
      subst h0 h1
      go_enter Try.func47, Try.ntmps47
      go_wp2
      · go_ret2
        exact ⟨_, rfl, by omega, hmem.keep ((((Chg.refl [] w).alloc _).alloc _).alloc _) (by simp) (by simp), (((Chg.refl _ w).alloc _).alloc _).alloc _⟩
      · go_ret2
        exact ⟨_, rfl, by omega, hmem.keep ((((Chg.refl [] w).alloc _).alloc _).alloc _) (by simp) (by simp), (((Chg.refl _ w).alloc _).alloc _).alloc _⟩
    · have E : repairP s m0 m1 w0 w1 = wr6 s 1 w0 := by unfold repairP; rw [if_neg (fun h => h1 h.2), if_pos h0]
      have F : valueP m0 m1 w0 w1 = w0 := by unfold valueP; rw [if_neg (fun h => h1 h.2), if_pos h0]
      rw [E, F]
      subst h0
      have hb1 : (m1 == 165) = false := by simpa using h1
      clear E F
      have cw : (((w.alloc (.cells #[.int .u8 165, .int .u8 m1] 96)).alloc (.cells #[.int .u32 w0, .int .u32 w1] 97)).alloc (.cells #[.bool true, .bool false] 110)).drew.cell? ⟨w.heap.size + 1, 0, none⟩ = some (.int .u32 w0) := by
        have := (Blk.new (w.alloc (.cells #[.int .u8 165, .int .u8 m1] 96)) #[.int .u32 w0, .int .u32 w1] 97).alloc (.cells #[.bool true, .bool false] 110)
        rw [World.size_alloc] at this
        exact this.drew.cell 0
      have hm : IsMem (((w.alloc (.cells #[.int .u8 165, .int .u8 m1] 96)).alloc (.cells #[.int .u32 w0, .int .u32 w1] 97)).alloc (.cells #[.bool true, .bool false] 110)).drew p q s := hmem.keep ((((Chg.refl [] w).alloc _).alloc _).alloc _).drew (by simp) (by simp)
      have hg : Chg [p, q] w (((w.alloc (.cells #[.int .u8 165, .int .u8 m1] 96)).alloc (.cells #[.int .u32 w0, .int .u32 w1] 97)).alloc (.cells #[.bool true, .bool false] 110)).drew := ((((Chg.refl _ w).alloc _).alloc _).alloc _).drew
      clear hmem
      go_enter Try.func47, Try.ntmps47
      go_wp2
      go_region_held (fun W => W.cell? ⟨w.heap.size + 1, 0, none⟩ = some (.int .u32 w0)) (first | (exact cw) | (exact cw2)) ((first | (go_at_call 45; refine (cwrite_any p q 1 s w0 _ hm (by omega) hok b0).mono ?_; rintro e w2 ⟨rfl, hm2, kk⟩; have cw2 := kk.old cw (by simp; omega); have hg2 := hg.trans kk)))
      all_goals go_wp2
      all_goals go_ret2
      all_goals exact ⟨_, rfl, fun _ => rfl, hm2, hg2⟩
  · by_cases h1 : m1 = 165
    · have E : repairP s m0 m1 w0 w1 = wr6 s 0 w1 := by unfold repairP; rw [if_neg (fun h => h0 h.1), if_neg h0, if_pos h1]
      have F : valueP m0 m1 w0 w1 = w1 := by unfold valueP; rw [if_neg (fun h => h0 h.1), if_neg h0, if_pos h1]
      rw [E, F]
      subst h1
      have hb0 : (m0 == 165) = false := by simpa using h0
      clear E F
      have cw : (((w.alloc (.cells #[.int .u8 m0, .int .u8 165] 96)).alloc (.cells #[.int .u32 w0, .int .u32 w1] 97)).alloc (.cells #[.bool false, .bool true] 110)).drew.cell? ⟨w.heap.size + 1, 1, none⟩ = some (.int .u32 w1) := by
        have := (Blk.new (w.alloc (.cells #[.int .u8 m0, .int .u8 165] 96)) #[.int .u32 w0, .int .u32 w1] 97).alloc (.cells #[.bool false, .bool true] 110)
        rw [World.size_alloc] at this
        exact this.drew.cell 1
      have hm : IsMem (((w.alloc (.cells #[.int .u8 m0, .int .u8 165] 96)).alloc (.cells #[.int .u32 w0, .int .u32 w1] 97)).alloc (.cells #[.bool false, .bool true] 110)).drew p q s := hmem.keep ((((Chg.refl [] w).alloc _).alloc _).alloc _).drew (by simp) (by simp)
      have hg : Chg [p, q] w (((w.alloc (.cells #[.int .u8 m0, .int .u8 165] 96)).alloc (.cells #[.int .u32 w0, .int .u32 w1] 97)).alloc (.cells #[.bool false, .bool true] 110)).drew := ((((Chg.refl _ w).alloc _).alloc _).alloc _).drew
      clear hmem
      go_enter Try.func47, Try.ntmps47
      go_wp2
      go_region_held (fun W => W.cell? ⟨w.heap.size + 1, 1, none⟩ = some (.int .u32 w1)) (first | (exact cw) | (exact cw2)) ((first | (go_at_call 45; refine (cwrite_any p q 0 s w1 _ hm (by omega) hok b1).mono ?_; rintro e w2 ⟨rfl, hm2, kk⟩; have cw2 := kk.old cw (by simp; omega); have hg2 := hg.trans kk)))
      all_goals go_wp2
      all_goals go_ret2
      all_goals exact ⟨_, rfl, fun _ => rfl, hm2, hg2⟩
    · have E : repairP s m0 m1 w0 w1 = zap s m0 m1 := by unfold repairP; rw [if_neg (fun h => h0 h.1), if_neg h0, if_neg h1]
      have F : valueP m0 m1 w0 w1 = 0 := by unfold valueP; rw [if_neg (fun h => h0 h.1), if_neg h0, if_neg h1]
      rw [E, F]
      have hb0 : (m0 == 165) = false := by simpa using h0
      have hb1 : (m1 == 165) = false := by simpa using h1
      have hm : IsMem (((w.alloc (.cells #[.int .u8 m0, .int .u8 m1] 96)).alloc (.cells #[.int .u32 w0, .int .u32 w1] 97)).alloc (.cells #[.bool false, .bool false] 110)) p q s := hmem.keep ((((Chg.refl [] w).alloc _).alloc _).alloc _) (by simp) (by simp)
      have hg : Chg [p, q] w (((w.alloc (.cells #[.int .u8 m0, .int .u8 m1] 96)).alloc (.cells #[.int .u32 w0, .int .u32 w1] 97)).alloc (.cells #[.bool false, .bool false] 110)) := (((Chg.refl _ w).alloc _).alloc _).alloc _
      clear hmem E F
      by_cases z0 : m0 = 0
      · subst z0
        by_cases z1 : m1 = 0
        · subst z1
          have E : zap s 0 0 = (s, 0) := by unfold zap andThen; simp
          rw [E]
          go_enter Try.func47, Try.ntmps47
          go_wp2
          refine wp_loop_rounds 3 ?_
          rw [rounds_succ]
          go_wp2
          rw [rounds_succ]
          go_wp2
          rw [rounds_succ]
          go_wp2
          go_ret2
          exact ⟨_, rfl, fun _ => rfl, hm, hg⟩
        · have hz1 : (m1 == 0) = false := by simpa using z1
          have E : zap s 0 m1 = s.write 5 0 := by unfold zap andThen; simp [z1]
          rw [E]
          clear E
          obtain ⟨r, hr⟩ : ∃ r, r = s.write 5 0 := ⟨_, rfl⟩
          have Q : Hid _ := hr
          rw [← hr]
          clear hr
          go_enter Try.func47, Try.ntmps47
          go_wp2
          refine wp_loop_rounds 3 ?_
          rw [rounds_succ]
          go_wp2
          rw [rounds_succ]
          go_wp2_with (go_at_call 19; refine (write_any p q s 5 0 _ hm hok.len hok.l0 hok.l1 hok.w0 ?_).mono ?_; have := hok.w1; omega; rintro e w2 ⟨he, hm2, kk⟩; rw [← Q.out] at he hm2; subst he; have hg2 := hg.trans kk)
          · have hx : (r.2 != 0) = true := by assumption
            go_ret2
            exact ⟨_, rfl, fun h => (by simp [h] at hx), hm2, hg2⟩
          · have hx : (r.2 != 0) = false := by assumption
            have hx' : r.2 = 0 := by simpa using hx
            rw [rounds_succ]
            go_wp2
            go_ret2
            exact ⟨_, by rw [hx']; rfl, fun _ => rfl, hm2, hg2⟩
      · have hz0 : (m0 == 0) = false := by simpa using z0
        obtain ⟨r, hr⟩ : ∃ r, r = s.write 0 0 := ⟨_, rfl⟩
        have Q : Hid _ := hr
        have hk1 : r.1.Ok 100001 := by rw [hr]; exact hok.write 0 0
        by_cases z1 : m1 = 0
        · subst z1
          have E : zap s m0 0 = andThen r fun s1 => (s1, 0) := by unfold zap; rw [if_neg z0, hr]; simp
          rw [E]
          clear hr E
          go_enter Try.func47, Try.ntmps47
          go_wp2
          refine wp_loop_rounds 3 ?_
          rw [rounds_succ]
          go_wp2_with (go_at_call 19; refine (write_any p q s 0 0 _ hm hok.len hok.l0 hok.l1 hok.w0 ?_).mono ?_; have := hok.w1; omega; rintro e w2 ⟨he, hm2, kk⟩; rw [← Q.out] at he hm2; subst he; have hg2 := hg.trans kk; have cm2 := kk.old (o := 1) (v := .int .u8 0) ((((Blk.new w #[.int .u8 m0, .int .u8 0] 96).alloc _).alloc _).cell 1) (by simp; omega))
          · have hx : (r.2 != 0) = true := by assumption
            go_ret2
            rw [andThen_no hx]
            exact ⟨_, rfl, fun h => (by simp [h] at hx), hm2, hg2⟩
          · have hx : (r.2 != 0) = false := by assumption
            rw [rounds_succ]
            go_wp2
            rw [rounds_succ]
            go_wp2
            go_ret2
            rw [andThen_yes hx]
            exact ⟨_, rfl, fun _ => rfl, hm2, hg2⟩
        · have hz1 : (m1 == 0) = false := by simpa using z1
          obtain ⟨r2, hr2⟩ : ∃ r2, r2 = r.1.write 5 0 := ⟨_, rfl⟩
          have Q2 : Hid _ := hr2
          have E : zap s m0 m1 = andThen r fun s1 => s1.write 5 0 := by unfold zap; rw [if_neg z0, hr]; simp [z1]
          rw [E]
          clear hr E hr2
          go_enter Try.func47, Try.ntmps47
          go_wp2
          refine wp_loop_rounds 3 ?_
          rw [rounds_succ]
          go_wp2_with (go_at_call 19; refine (write_any p q s 0 0 _ hm hok.len hok.l0 hok.l1 hok.w0 ?_).mono ?_; have := hok.w1; omega; rintro e w2 ⟨he, hm2, kk⟩; rw [← Q.out] at he hm2; subst he; have hg2 := hg.trans kk; have cm2 := kk.old (o := 1) (v := .int .u8 m1) ((((Blk.new w #[.int .u8 m0, .int .u8 m1] 96).alloc _).alloc _).cell 1) (by simp; omega))
          · have hx : (r.2 != 0) = true := by assumption
            go_ret2
            rw [andThen_no hx]
            exact ⟨_, rfl, fun h => (by simp [h] at hx), hm2, hg2⟩
          · have hx : (r.2 != 0) = false := by assumption
            rw [rounds_succ]
            go_wp2_with (go_at_call 19; refine (write_any p q r.1 5 0 _ hm2 hk1.len hk1.l0 hk1.l1 hk1.w0 ?_).mono ?_; have := hk1.w1; omega; rintro e w3 ⟨he, hm3, kk⟩; rw [← Q2.out] at he hm3; subst he; have hg3 := hg2.trans kk)
            · have hy : (r2.2 != 0) = true := by assumption
              go_ret2
              rw [andThen_yes hx, ← Q2.out]
              exact ⟨_, rfl, fun h => (by simp [h] at hy), hm3, hg3⟩
            · have hy : (r2.2 != 0) = false := by assumption
              have hy' : r2.2 = 0 := by simpa using hy
              rw [rounds_succ]
              go_wp2
              go_ret2
              rw [andThen_yes hx, ← Q2.out]
              exact ⟨_, by rw [hy']; rfl, fun _ => rfl, hm3, hg3⟩

end Go.Proofs.Ytcmhalmmaodmhaa
