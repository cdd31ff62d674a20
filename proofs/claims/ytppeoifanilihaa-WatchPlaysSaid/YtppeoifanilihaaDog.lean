/-
  DERIVED. The walks of package watch: what each call does to a watchdog's block.
-/
import Derived.Test.YtppeoifanilihaaBase
namespace Go.Proofs.Ytppeoifanilihaa
open Go.RowKit
set_option linter.unusedSimpArgs false
set_option linter.unusedVariables false

/-- Block b is a watchdog with this limit and this count. -/
def Dog (w : World) (b : Nat) (L s : Int) : Prop := Blk w b #[.int .i64 L, .int .i32 s] 46

theorem Dog.c0 {w : World} {b : Nat} {L s : Int} (h : Dog w b L s) : w.cell? ⟨b, 0, none⟩ = some (.int .i64 L) := h.cell 0
theorem Dog.c1 {w : World} {b : Nat} {L s : Int} (h : Dog w b L s) : w.cell? ⟨b, 1, none⟩ = some (.int .i32 s) := h.cell 1
theorem Dog.f1 {w : World} {b : Nat} {L s : Int} (h : Dog w b L s) : w.frozen? ⟨b, 1, none⟩ = false := h.free 1
theorem Dog.set {w : World} {b : Nat} {L s : Int} (h : Dog w b L s) (s' : Int) : Dog (w.setCell ⟨b, 1, none⟩ (.int .i32 s')) b L s' := by
  have := Blk.set h 1 (.int .i32 s')
  simpa [Dog] using this

theorem load_any (b : Nat) (L s : Int) (w : World) (h : Dog w b L s) :
    Calls Try.prog 17 #[.pointer (some ⟨b, 1, none⟩)] w fun e w' => e = .returned (.int .i32 s) ∧ w' = w := by
  have hl := run_call_load (P := Try.prog) Try.func20 (by kernel_rfl) (by kernel_rfl) (by kernel_rfl) .i32 (by kernel_rfl) h.c1
  go_enter Try.func17, Try.ntmps17
  go_wp2
  go_ret
  exact ⟨rfl, rfl⟩

theorem store_any (b : Nat) (L s y : Int) (w : World) (h : Dog w b L s) :
    Calls Try.prog 18 #[.pointer (some ⟨b, 1, none⟩), .int .i32 y] w fun e w' => e = .returned (.tuple #[]) ∧ w' = w.setCell ⟨b, 1, none⟩ (.int .i32 y) := by
  have hl := run_call_store (P := Try.prog) Try.func21 (by kernel_rfl) (by kernel_rfl) (by kernel_rfl) (by kernel_rfl) (k := .i32) (y := y) h.c1 h.f1
  go_enter Try.func18, Try.ntmps18
  go_wp2
  go_end0
  exact ⟨rfl, rfl⟩

theorem add_any (b : Nat) (L s y : Int) (w : World) (h : Dog w b L s) (h1 : 0 ≤ s) (h2 : 0 ≤ y) (h3 : s + y ≤ 1048576) :
    Calls Try.prog 16 #[.pointer (some ⟨b, 1, none⟩), .int .i32 y] w fun e w' => e = .returned (.int .i32 (s + y)) ∧ w' = w.setCell ⟨b, 1, none⟩ (.int .i32 (s + y)) := by
  have hl := run_call_add (P := Try.prog) Try.func19 (by kernel_rfl) (by kernel_rfl) (by kernel_rfl) .i32 (by kernel_rfl) (y := y) (s := s + y) h.c1 h.f1
    (by simp [go_sem, IntWalk.i32_in (s + y) ⟨by omega, by omega⟩])
  go_enter Try.func16, Try.ntmps16
  go_wp2
  go_ret
  exact ⟨rfl, rfl⟩

theorem expired_q (b : Nat) (L s : Int) (w : World) (h : Dog w b L s) (h1 : 0 ≤ s) (h3 : s ≤ 1048576) :
    Calls Try.prog 10 #[.pointer (some ⟨b, 0, none⟩)] w fun e w' => e = .returned (.bool (decide (L ≤ s))) ∧ ∃ n, w' = w.drewN n := by
  have c0 := h.c0
  go_enter Try.func10, Try.ntmps10
  go_wp2_with (go_at_call 17; refine (load_any b L s _ h).mono ?_; rintro e w' ⟨rfl, rfl⟩)
  go_quiet ((go_at_call 17; exact Calls.quiet_of_same (load_any b L s _ h)))
  go_wp2
  go_ret
  exact ⟨rfl, _, rfl⟩

theorem expired_any (b : Nat) (L s : Int) (w : World) (h : Dog w b L s) (h1 : 0 ≤ s) (h3 : s ≤ 1048576) :
    Calls Try.prog 10 #[.pointer (some ⟨b, 0, none⟩)] w fun e w' => e = .returned (.bool (decide (L ≤ s))) ∧ Dog w' b L s ∧ Chg [] w w' := by
  refine (expired_q b L s w h h1 h3).mono ?_
  rintro e w' ⟨rfl, n, rfl⟩
  exact ⟨rfl, h, (Chg.refl _ _).drewN _⟩

theorem since_any (b : Nat) (L s : Int) (w : World) (h : Dog w b L s) (h1 : 0 ≤ s) (h3 : s ≤ 1048576) :
    Calls Try.prog 12 #[.pointer (some ⟨b, 0, none⟩)] w fun e w' => e = .returned (.int .i64 s) ∧ w' = w := by
  go_enter Try.func12, Try.ntmps12
  go_wp2_with (go_at_call 17; refine (load_any b L s _ h).mono ?_; rintro e w' ⟨rfl, rfl⟩)
  go_ret
  exact ⟨rfl, rfl⟩

theorem limit_any (b : Nat) (L s : Int) (w : World) (h : Dog w b L s) :
    Calls Try.prog 15 #[.pointer (some ⟨b, 0, none⟩)] w fun e w' => e = .returned (.int .i64 L) ∧ w' = w := by
  have c0 := h.c0
  go_enter Try.func15, Try.ntmps15
  go_wp2
  go_ret
  exact ⟨rfl, rfl⟩

theorem feed_any (b : Nat) (L s : Int) (w : World) (h : Dog w b L s) :
    Calls Try.prog 14 #[.pointer (some ⟨b, 0, none⟩)] w fun e w' => e = .returned (.tuple #[]) ∧ Dog w' b L 0 ∧ Chg [b] w w' := by
  go_enter Try.func14, Try.ntmps14
  go_wp2_with (go_at_call 18; refine (store_any b L s _ _ h).mono ?_; rintro e w' ⟨rfl, rfl⟩)
  go_end0
  exact ⟨rfl, h.set 0, (Chg.refl [b] w).setCell (by simp) _⟩

theorem new_any (L : Int) (w : World) (h1 : 1 ≤ L) (h2 : L ≤ 1048576) :
    Calls Try.prog 8 #[.int .i64 L] w fun e w' => e = .returned (.tuple #[.pointer (some ⟨w.heap.size, 0, none⟩), .int .i64 0]) ∧ Dog w' w.heap.size L 0 ∧ Chg [] w w' := by
  go_enter Try.func8, Try.ntmps8
  go_wp2
  go_ret2
  exact ⟨rfl, Blk.new _ _ _, (Chg.refl _ _).alloc _⟩

theorem new_bad (L : Int) (w : World) (h : L < 1 ∨ 1048576 < L) :
    Calls Try.prog 8 #[.int .i64 L] w fun e w' => e = .returned (.tuple #[.pointer none, .int .i64 2]) ∧ w' = w := by
  go_enter Try.func8, Try.ntmps8
  by_cases h1 : L < 1
  · go_wp2
    go_ret2
    exact ⟨rfl, rfl⟩
  · have h2 : 1048576 < L := by omega
    go_wp2
    go_ret2
    exact ⟨rfl, rfl⟩

end Go.Proofs.Ytppeoifanilihaa
