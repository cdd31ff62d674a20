/-
  DERIVED. Ticks of a watchdog, and of the document's one; what a nil watchdog does.
-/
import Derived.Test.YtppeoifanilihaaDog2
namespace Go.Proofs.Ytppeoifanilihaa
open Go.RowKit
set_option linter.unusedSimpArgs false
set_option linter.unusedVariables false

theorem ticks_any (b : Nat) (L s n : Int) (w : World) (h : Dog w b L s) (h1 : 0 ≤ s) (h2 : s ≤ L) (h3 : L ≤ 1048576) (hn : 0 ≤ n) (hn' : n ≤ 9223372036854775807) :
    Calls Try.prog 9 #[.pointer (some ⟨b, 0, none⟩), .int .i64 n] w fun e w' =>
      e = .returned (.tuple #[.bool (hit L s n), .int .i64 0]) ∧ Dog w' b L (cnt L s n) ∧ Chg [b] w w' := by
  have c0 := h.c0
  by_cases hx : L ≤ s
  · have e1 : hit L s n = false := by simp [hit]; omega
    have e2 : cnt L s n = s := by simp [cnt, hx]
    rw [e1, e2]
    have hd : decide (L ≤ s) = true := by simpa using hx
    go_enter Try.func9, Try.ntmps9
    go_wp2_with (go_at_call 10; refine (expired_any b L s _ h h1 (by omega)).mono ?_; rintro e w1 ⟨rfl, h', g'⟩; have c0' := h'.c0)
    go_ret2
    exact ⟨rfl, h', g'.wide (by simp)⟩
  · have hd : decide (L ≤ s) = false := by simpa using hx
    rcases Int.lt_trichotomy n (L - s) with hy | hy | hy
    · have e1 : hit L s n = false := by simp [hit]; omega
      have e2 : cnt L s n = s + n := by simp only [cnt]; split <;> (try split) <;> omega
      have e3 : decide (L - s ≤ n) = false := by simp; omega
      rw [e1, e2]
      go_enter Try.func9, Try.ntmps9
      go_wp2_with (go_at_call 10; refine (expired_any b L s _ h h1 (by omega)).mono ?_; rintro e w1 ⟨rfl, h', g'⟩; have c0' := h'.c0)
      go_quiet ((go_at_call 12; exact Calls.quiet_of_same (since_any b L s _ h' h1 (by omega))))
      go_wp2_with (go_at_call 16; refine (add_any b L s _ _ ?_ h1 (by omega) (by omega)).mono ?_; exact h'; rintro e w' ⟨rfl, rfl⟩)
      go_ret2
      exact ⟨rfl, Dog.set h' _, ((g'.wide (by simp)).drewN _).setCell (by simp) _⟩
    · have e1 : hit L s n = true := by simp [hit]; omega
      have e2 : cnt L s n = s + (L - s) := by simp only [cnt]; split <;> (try split) <;> omega
      rw [e1, e2]
      subst hy
      have e3 : decide (L - s ≤ L - s) = true := by simp
      go_enter Try.func9, Try.ntmps9
      go_wp2_with (go_at_call 10; refine (expired_any b L s _ h h1 (by omega)).mono ?_; rintro e w1 ⟨rfl, h', g'⟩; have c0' := h'.c0)
      go_quiet ((go_at_call 12; exact Calls.quiet_of_same (since_any b L s _ h' h1 (by omega))))
      go_wp2_with (go_at_call 16; refine (add_any b L s _ _ ?_ h1 (by omega) (by omega)).mono ?_; exact h'; rintro e w' ⟨rfl, rfl⟩)
      go_ret2
      exact ⟨rfl, Dog.set h' _, ((g'.wide (by simp)).drewN _).setCell (by simp) _⟩
    · have e1 : hit L s n = true := by simp [hit]; omega
      have e2 : cnt L s n = s + (L - s) := by simp only [cnt]; split <;> (try split) <;> omega
      have e3 : decide (L - s ≤ n) = true := by simp; omega
      rw [e1, e2]
      go_enter Try.func9, Try.ntmps9
      go_wp2_with (go_at_call 10; refine (expired_any b L s _ h h1 (by omega)).mono ?_; rintro e w1 ⟨rfl, h', g'⟩; have c0' := h'.c0)
      go_quiet ((go_at_call 12; exact Calls.quiet_of_same (since_any b L s _ h' h1 (by omega))))
      go_wp2_with (go_at_call 16; refine (add_any b L s _ _ ?_ h1 (by omega) (by omega)).mono ?_; exact h'; rintro e w' ⟨rfl, rfl⟩)
      go_ret2
      exact ⟨rfl, Dog.set h' _, ((g'.wide (by simp)).drewN _).setCell (by simp) _⟩

theorem ticks_neg (b : Nat) (n : Int) (w : World) (hn : n < 0) :
    Calls Try.prog 9 #[.pointer (some ⟨b, 0, none⟩), .int .i64 n] w fun e w' => e = .returned (.tuple #[.bool false, .int .i64 2]) ∧ w' = w := by
  go_enter Try.func9, Try.ntmps9
  go_wp2
  go_ret2
  exact ⟨rfl, rfl⟩

theorem ticks_nil (n : Int) (w : World) :
    Calls Try.prog 9 #[.pointer none, .int .i64 n] w fun e w' => e = .returned (.tuple #[.bool false, .int .i64 1]) ∧ w' = w := by
  go_enter Try.func9, Try.ntmps9
  go_wp2
  go_ret2
  exact ⟨rfl, rfl⟩

theorem feed_nil (w : World) : Calls Try.prog 14 #[.pointer none] w fun e w' => e = .returned (.tuple #[]) ∧ w' = w := by
  go_enter Try.func14, Try.ntmps14
  go_wp2
  go_end0
  exact ⟨rfl, rfl⟩

theorem tick_nil (w : World) : Calls Try.prog 11 #[.pointer none] w fun e w' => e = .returned (.bool false) ∧ w' = w := by
  go_enter Try.func11, Try.ntmps11
  go_wp2
  go_ret
  exact ⟨rfl, rfl⟩

theorem expired_nil (w : World) : Calls Try.prog 10 #[.pointer none] w fun e w' => e = .returned (.bool false) ∧ Chg [] w w' := by
  go_enter Try.func10, Try.ntmps10
  go_wp2
  go_quiet (fail)
  go_wp2
  go_ret
  exact ⟨rfl, (Chg.refl _ _).drewN _⟩

theorem since_nil (w : World) : Calls Try.prog 12 #[.pointer none] w fun e w' => e = .returned (.int .i64 0) ∧ w' = w := by
  go_enter Try.func12, Try.ntmps12
  go_wp2
  go_ret
  exact ⟨rfl, rfl⟩

theorem limit_nil (w : World) : Calls Try.prog 15 #[.pointer none] w fun e w' => e = .returned (.int .i64 0) ∧ w' = w := by
  go_enter Try.func15, Try.ntmps15
  go_wp2
  go_ret
  exact ⟨rfl, rfl⟩

/-- Block b is the document's watchdog. -/
def RDog (w : World) (b : Nat) (L s : Int) : Prop := Blk w b #[.int .i64 L, .int .i64 s] 36

theorem RDog.c0 {w : World} {b : Nat} {L s : Int} (h : RDog w b L s) : w.cell? ⟨b, 0, none⟩ = some (.int .i64 L) := h.cell 0
theorem RDog.c1 {w : World} {b : Nat} {L s : Int} (h : RDog w b L s) : w.cell? ⟨b, 1, none⟩ = some (.int .i64 s) := h.cell 1
theorem RDog.f1 {w : World} {b : Nat} {L s : Int} (h : RDog w b L s) : w.frozen? ⟨b, 1, none⟩ = false := h.free 1
theorem RDog.set {w : World} {b : Nat} {L s : Int} (h : RDog w b L s) (s' : Int) : RDog (w.setCell ⟨b, 1, none⟩ (.int .i64 s')) b L s' := by
  have := Blk.set h 1 (.int .i64 s')
  simpa [RDog] using this

theorem rticks_any (b : Nat) (L s n : Int) (w : World) (h : RDog w b L s) (h1 : 0 ≤ s) (h2 : s ≤ L) (h3 : L ≤ 1048576) (hn : 0 ≤ n) (hn' : n ≤ 9223372036854775807) :
    Calls Try.prog 13 #[.pointer (some ⟨b, 0, none⟩), .int .i64 n] w fun e w' =>
      e = .returned (.bool (hit L s n)) ∧ RDog w' b L (cnt L s n) ∧ Chg [b] w w' := by
  have c0 := h.c0
  have c1 := h.c1
  have f1 := h.f1
  by_cases hx : L ≤ s
  · have e1 : hit L s n = false := by simp [hit]; omega
    have e2 : cnt L s n = s := by simp [cnt, hx]
    rw [e1, e2]
    go_enter Try.func13, Try.ntmps13
    go_wp2
    go_quiet (fail)
    go_wp2
    go_ret
    exact ⟨rfl, h, (Chg.refl _ _).drewN _⟩
  · by_cases hy : L - s ≤ n
    · have e1 : hit L s n = true := by simp [hit]; omega
      have e2 : cnt L s n = L := by simp only [cnt]; split <;> (try split) <;> omega
      rw [e1, e2]
      go_enter Try.func13, Try.ntmps13
      go_wp2
      go_quiet (fail)
      go_wp2
      go_quiet (fail)
      go_wp2
      go_ret
      refine ⟨rfl, RDog.set h _, ?_⟩
      repeat' (first | (with_reducible exact Chg.refl _ _) | (with_reducible refine Chg.drewN ?_ _) | (with_reducible refine Chg.setCell ?_ ?_ _) | (simp; done))
    · have e1 : hit L s n = false := by simp [hit]; omega
      have e2 : cnt L s n = s + n := by simp only [cnt]; split <;> (try split) <;> omega
      rw [e1, e2]
      go_enter Try.func13, Try.ntmps13
      go_wp2
      go_quiet (fail)
      go_wp2
      go_quiet (fail)
      go_wp2
      go_ret
      refine ⟨rfl, RDog.set h _, ?_⟩
      repeat' (first | (with_reducible exact Chg.refl _ _) | (with_reducible refine Chg.drewN ?_ _) | (with_reducible refine Chg.setCell ?_ ?_ _) | (simp; done))

end Go.Proofs.Ytppeoifanilihaa
