/-
  DERIVED. The fixed fact of layer 7; the law of a nil memory.
-/
import Derived.Test.YtcmhalmmaodmhaaAwake
namespace Go.Proofs.Ytcmhalmmaodmhaa
open Go.RowKit
set_option linter.unusedSimpArgs false
set_option linter.unusedVariables false

theorem str700 : mkStr [7, 0, 0] = { data := #[7, 0, 0] } := by rfl

theorem awake_t0 (w : World) : Calls Try.prog 25 #[.int .i64 3] w fun e w' => ∃ p q, e = .returned (.tuple #[.pointer (some ⟨p, 0, none⟩), .int .i64 0]) ∧ IsMem w' p q ⟨[0, 0, 0], false, false, 0, 0⟩ ∧ w.heap.size ≤ p ∧ w.heap.size ≤ q ∧ Chg [] w w' :=
  new_any 3 w (by omega)
theorem awake_t1 (p q : Nat) (w : World) (h : IsMem w p q ⟨[0, 0, 0], false, false, 0, 0⟩) : Calls Try.prog 18 #[.pointer (some ⟨p, 0, none⟩), .int .i64 1] w fun e w' => e = .returned (.int .i64 0) ∧ IsMem w' p q ⟨[0, 0, 0], false, true, 1, 0⟩ ∧ Chg [p, q] w w' :=
  arm_any p q _ 1 w h
theorem awake_t2 (p q : Nat) (w : World) (h : IsMem w p q ⟨[0, 0, 0], false, true, 1, 0⟩) : Calls Try.prog 19 #[.pointer (some ⟨p, 0, none⟩), .int .i64 0, .int .u8 7] w fun e w' => e = .returned (.int .i64 0) ∧ IsMem w' p q ⟨[7, 0, 0], false, true, 0, 1⟩ ∧ Chg [p, q] w w' :=
  write_any p q _ 0 7 w h (by simp) (by simp) (by simp) (by simp) (by simp)
theorem awake_t3 (p q : Nat) (w : World) (h : IsMem w p q ⟨[7, 0, 0], false, true, 0, 1⟩) : Calls Try.prog 19 #[.pointer (some ⟨p, 0, none⟩), .int .i64 1, .int .u8 8] w fun e w' => e = .returned (.int .i64 70) ∧ IsMem w' p q ⟨[7, 0, 0], true, true, 0, 1⟩ ∧ Chg [p, q] w w' :=
  write_any p q _ 1 8 w h (by simp) (by simp) (by simp) (by simp) (by simp)

attribute [local irreducible] IsMem in
theorem awake_any (w : World) : Calls Try.prog 12 #[] w fun e w' => e = .returned (.bool true) ∧ Chg [] w w' := by
  go_enter Try.func12, Try.ntmps12
  go_wp2_with (first | (go_at_call 25; refine (awake_t0 _).mono ?_; rintro e w1 ⟨p, q, rfl, hm, hp, hq, hg⟩) | (go_at_call 18; refine (awake_t1 p q _ hm).mono ?_; clear hm; rintro e w2 ⟨rfl, hm, k⟩; replace hg := hg.more k (by simp; omega); clear k) | (go_at_call_of 19 (Value.int .u8 7); refine (awake_t2 p q _ hm).mono ?_; clear hm; rintro e w2 ⟨rfl, hm, k⟩; replace hg := hg.more k (by simp; omega); clear k) | (go_at_call_of 19 (Value.int .u8 8); refine (awake_t3 p q _ hm).mono ?_; clear hm; rintro e w2 ⟨rfl, hm, k⟩; replace hg := hg.more k (by simp; omega); clear k) | (go_at_call 20; refine (off_any p q _ _ hm).mono ?_; rintro e w' ⟨rfl, rfl⟩) | (go_at_call 16; refine (bytes_any p q _ _ hm (by simp)).mono ?_; rintro e w2 ⟨v, rfl, ⟨r, hb, hr⟩, k⟩; have hcv := conv_run hb; rw [str700] at hcv; replace hg := hg.trans k; clear k))
  go_ret
  exact ⟨rfl, hg⟩

end Go.Proofs.Ytcmhalmmaodmhaa
