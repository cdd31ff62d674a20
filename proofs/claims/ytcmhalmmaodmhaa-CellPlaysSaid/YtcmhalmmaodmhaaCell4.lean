/-
  DERIVED. The walks of package cell: Open, Value, Next.
-/
import Derived.Test.YtcmhalmmaodmhaaCell3
namespace Go.Proofs.Ytcmhalmmaodmhaa
open Go.RowKit
set_option linter.unusedSimpArgs false
set_option linter.unusedVariables false

/-- What Open does to the memory, and its error. -/
def openR (s : MS) (mx : Int) : MS × Int :=
  if mx = 0 ∨ s.B.length < 10 then (s, 2) else if s.off = true then (s, 70) else repairP s (mk s 0) (mk s 1) (wd s 0) (wd s 1)
/-- The value of what was opened. -/
def openV (s : MS) : Int := valueP (mk s 0) (mk s 1) (wd s 0) (wd s 1)

/-- What Open answers. -/
def Opened (w w' : World) (p : Nat) (s : MS) (mx : Int) (e : Ending) : Prop :=
  ((openR s mx).2 = 0 ∧ ∃ c, e = .returned (.tuple #[.pointer (some ⟨c, 0, none⟩), .int .i64 0]) ∧ IsCell w' c p mx (openV s) false ∧ w.heap.size ≤ c) ∨
  ((openR s mx).2 ≠ 0 ∧ e = .returned (.tuple #[.pointer none, .int .i64 (openR s mx).2]))

set_option maxRecDepth 1000000 in
set_option maxHeartbeats 1000000 in
theorem open_any (p q : Nat) (s : MS) (mx : Int) (w : World) (hmem : IsMem w p q s) (hq : q < w.heap.size) (hok : s.Ok 100000) (hb : s.Bytes) :
    Calls Try.prog 32 #[.pointer (some ⟨p, 0, none⟩), .int .u32 mx] w fun e w' => Opened w w' p s mx e ∧ IsMem w' p q (openR s mx).1 ∧ Chg [p, q] w w' := by
  have hlp := hmem.lt
  have hlen := hok.len
  by_cases h0 : mx = 0
  · have E : openR s mx = (s, 2) := by unfold openR; rw [if_pos (Or.inl h0)]
    unfold Opened
    rw [E]
    subst h0
    clear E
    go_enter Try.func32, Try.ntmps32
    go_wp2
    go_ret2
    exact ⟨.inr ⟨by simp, rfl⟩, hmem, Chg.refl _ _⟩
  · have hz : (mx == 0) = false := by simpa using h0
    by_cases h1 : s.B.length < 10
    · have E : openR s mx = (s, 2) := by unfold openR; rw [if_pos (Or.inr h1)]
      unfold Opened
      rw [E]
      clear E
      go_enter Try.func32, Try.ntmps32
      go_wp2_with (go_at_call 24; refine (size_any p q s _ hmem).mono ?_; rintro e w' ⟨rfl, rfl⟩)
      go_ret2
      exact ⟨.inr ⟨by simp, rfl⟩, hmem, Chg.refl _ _⟩
    · have h1' : ¬ ((s.B.length : Int) < 10) := by omega
      by_cases h2 : s.off = true
      · have E : openR s mx = (s, 70) := by unfold openR; rw [if_neg (by omega), if_pos h2]
        unfold Opened
        rw [E]
        clear E
        have hm : IsMem ((w.alloc (.cells #[.int .u8 0, .int .u8 0] 96)).alloc (.cells #[.int .u32 0, .int .u32 0] 97)) p q s := hmem.keep (((Chg.refl [] w).alloc _).alloc _) (by simp) (by simp)
        go_enter Try.func32, Try.ntmps32
        go_wp2_with (go_at_call 24; refine (size_any p q s _ hmem).mono ?_; rintro e w' ⟨rfl, rfl⟩)
        refine wp_loop_rounds 3 ?_
        rw [rounds_succ]
        go_wp2_with (go_at_call 46; refine (cread_off p q 0 s _ hm (by omega) hlen h2).mono ?_; rintro e w' ⟨rfl, rfl⟩)
        go_ret2
        exact ⟨.inr ⟨by simp, rfl⟩, hm, ((Chg.refl _ _).alloc _).alloc _⟩
      · have h2' : s.off = false := by simpa using h2
        have E : openR s mx = repairP s (mk s 0) (mk s 1) (wd s 0) (wd s 1) := by unfold openR; rw [if_neg (by omega), if_neg h2]
        have F : openV s = valueP (mk s 0) (mk s 1) (wd s 0) (wd s 1) := rfl
        unfold Opened
        rw [E, F]
        have hm1 : IsMem ((w.alloc (.cells #[.int .u8 0, .int .u8 0] 96)).alloc (.cells #[.int .u32 0, .int .u32 0] 97)) p q s := hmem.keep (((Chg.refl [] w).alloc _).alloc _) (by simp) (by simp)
        have hm2 : IsMem ((w.alloc (.cells #[.int .u8 (mk s 0), .int .u8 0] 96)).alloc (.cells #[.int .u32 (wd s 0), .int .u32 0] 97)) p q s := hmem.keep (((Chg.refl [] w).alloc _).alloc _) (by simp) (by simp)
        have hm3 : IsMem ((w.alloc (.cells #[.int .u8 (mk s 0), .int .u8 (mk s 1)] 96)).alloc (.cells #[.int .u32 (wd s 0), .int .u32 (wd s 1)] 97)) p q s := hmem.keep (((Chg.refl [] w).alloc _).alloc _) (by simp) (by simp)
        have hg3 : Chg [p, q] w ((w.alloc (.cells #[.int .u8 (mk s 0), .int .u8 (mk s 1)] 96)).alloc (.cells #[.int .u32 (wd s 0), .int .u32 (wd s 1)] 97)) := ((Chg.refl _ _).alloc _).alloc _
        have bw0 := wd_bd hb 0
        have bw1 := wd_bd hb 1
        obtain ⟨r, hr⟩ : ∃ r, r = repairP s (mk s 0) (mk s 1) (wd s 0) (wd s 1) := ⟨_, rfl⟩
        obtain ⟨V, hV⟩ : ∃ V, V = valueP (mk s 0) (mk s 1) (wd s 0) (wd s 1) := ⟨_, rfl⟩
        rw [← hr, ← hV]
        have Q : Hid _ := hr
        have QV : Hid _ := hV
        clear E F hr hV h2
        go_enter Try.func32, Try.ntmps32
        go_wp2_with (go_at_call 24; refine (size_any p q s _ hmem).mono ?_; rintro e w' ⟨rfl, rfl⟩)
        refine wp_loop_rounds 3 ?_
        rw [rounds_succ]
        go_wp2_with (go_at_call 46; refine (slot_read p q 0 s _ hm1 (by omega) hlen (by omega) h2' hb).mono ?_; rintro e w' ⟨rfl, rfl⟩)
        rw [rounds_succ]
        go_wp2_with (go_at_call 46; refine (slot_read p q 1 s _ hm2 (by omega) hlen (by omega) h2' hb).mono ?_; rintro e w' ⟨rfl, rfl⟩)
        rw [rounds_succ]
        go_wp2_with (go_at_call 47; refine (repair_any p q s (mk s 0) (mk s 1) (wd s 0) (wd s 1) _ hm3 (by simp; omega) hok bw0 bw1).mono ?_; rintro e w2 ⟨v, he, hv, hmF, kk⟩; rw [← Q.out] at he hv hmF; rw [← QV.out] at hv; subst he; have hgF := hg3.trans kk)
        · have hx : (r.2 != 0) = true := by assumption
          go_ret2
          exact ⟨.inr ⟨by simpa using hx, rfl⟩, hmF, hgF⟩
        · have hx : (r.2 != 0) = false := by assumption
          have hx' : r.2 = 0 := by simpa using hx
          have hvv := hv hx'
          subst hvv
          go_ret2
          exact ⟨.inl ⟨hx', _, rfl, Blk.new _ _ _, by have := hgF.size; omega⟩, hmF.keep ((Chg.refl [] _).alloc _) (by simp) (by simp), hgF.alloc _⟩

theorem value_any (c p : Nat) (mx v : Int) (dead : Bool) (w : World) (hc : IsCell w c p mx v dead) :
    Calls Try.prog 33 #[.pointer (some ⟨c, 0, none⟩)] w fun e w' => e = .returned (.int .u32 v) ∧ w = w' := by
  have c2 := hc.c2
  go_enter Try.func33, Try.ntmps33
  go_wp2
  go_ret
  exact ⟨rfl, rfl⟩

/-- What Next does to the memory; its error. -/
def nextR (s : MS) (v : Int) : MS × Int := wr6 s (spareP s).toNat (v + 1)

theorem spareP_or (s : MS) : spareP s = 0 ∨ spareP s = 1 := by unfold spareP; split <;> simp

set_option maxRecDepth 1000000 in
set_option maxHeartbeats 1000000 in
/-- Next where the cell is dead or the power is off. -/
theorem next_cut (c p q : Nat) (s : MS) (mx v : Int) (dead : Bool) (w : World) (hc : IsCell w c p mx v dead) (hmem : IsMem w p q s) (hd : dead = true ∨ s.off = true) :
    Calls Try.prog 31 #[.pointer (some ⟨c, 0, none⟩)] w fun e w' => e = .returned (.tuple #[.int .u32 0, .int .i64 70]) ∧ w = w' := by
  have c0 := hc.c0
  have c3 := hc.c3
  cases dead with
  | true =>
    go_enter Try.func31, Try.ntmps31
    go_wp2
    go_ret2
    exact ⟨rfl, rfl⟩
  | false =>
    have ho : s.off = true := by simpa using hd
    go_enter Try.func31, Try.ntmps31
    go_wp2_with (go_at_call 20; refine (off_any p q s _ hmem).mono ?_; rintro e w' ⟨rfl, rfl⟩)
    go_ret2
    exact ⟨rfl, rfl⟩

set_option maxRecDepth 1000000 in
set_option maxHeartbeats 1000000 in
/-- Next where no number is left. -/
theorem next_full (c p q : Nat) (s : MS) (mx v : Int) (w : World) (hc : IsCell w c p mx v false) (hmem : IsMem w p q s) (ho : s.off = false) (hv : mx ≤ v) :
    Calls Try.prog 31 #[.pointer (some ⟨c, 0, none⟩)] w fun e w' => e = .returned (.tuple #[.int .u32 0, .int .i64 80]) ∧ ∃ n, w' = w.drewN n := by
  have c0 := hc.c0
  have c1 := hc.c1
  have c2 := hc.c2
  have c3 := hc.c3
  have hd : decide (mx ≤ v) = true := by simpa using hv
  go_enter Try.func31, Try.ntmps31
  go_wp2_with (go_at_call 20; refine (off_any p q s _ hmem).mono ?_; rintro e w' ⟨rfl, rfl⟩)
  go_quiet (fail)
  go_wp2
  go_ret2
  exact ⟨rfl, _, rfl⟩

end Go.Proofs.Ytcmhalmmaodmhaa
