/-
  DERIVED. The fixed fact Awake; and the law of a nil watchdog.
-/
import Derived.Test.YtppeoifanilihaaDog3
namespace Go.Proofs.Ytppeoifanilihaa
open Go.RowKit
set_option linter.unusedSimpArgs false
set_option linter.unusedVariables false

theorem awake_any (w : World) : Calls Try.prog 7 #[] w fun e w' => e = .returned (.bool true) ∧ Chg [] w w' := by
  have t0 : ∀ b w, Dog w b 2 0 → Calls Try.prog 11 #[.pointer (some ⟨b, 0, none⟩)] w fun e w' => e = .returned (.bool false) ∧ Dog w' b 2 1 ∧ Chg [b] w w' :=
    fun b w h => tick_any b 2 0 w h (by omega) (by omega) (by omega)
  have t1 : ∀ b w, Dog w b 2 1 → Calls Try.prog 11 #[.pointer (some ⟨b, 0, none⟩)] w fun e w' => e = .returned (.bool true) ∧ Dog w' b 2 2 ∧ Chg [b] w w' :=
    fun b w h => tick_any b 2 1 w h (by omega) (by omega) (by omega)
  have t2 : ∀ b w, Dog w b 2 2 → Calls Try.prog 11 #[.pointer (some ⟨b, 0, none⟩)] w fun e w' => e = .returned (.bool false) ∧ Dog w' b 2 2 ∧ Chg [b] w w' :=
    fun b w h => tick_any b 2 2 w h (by omega) (by omega) (by omega)
  have x2 : ∀ b w, Dog w b 2 2 → Calls Try.prog 10 #[.pointer (some ⟨b, 0, none⟩)] w fun e w' => e = .returned (.bool true) ∧ Dog w' b 2 2 ∧ Chg [] w w' :=
    fun b w h => expired_any b 2 2 w h (by omega) (by omega)
  go_enter Try.func7, Try.ntmps7
  go_wp2_with (first | (go_at_call 8; refine (new_any 2 _ (by omega) (by omega)).mono ?_; rintro e w1 ⟨rfl, hd, hg⟩) | (go_at_call 11; refine (t0 _ _ hd).mono ?_; clear hd; rintro e w1 ⟨rfl, hd, k⟩; replace hg := hg.more k (by simp); clear k) | (go_at_call 11; refine (t1 _ _ hd).mono ?_; clear hd; rintro e w1 ⟨rfl, hd, k⟩; replace hg := hg.more k (by simp); clear k) | (go_at_call 11; refine (t2 _ _ hd).mono ?_; clear hd; rintro e w1 ⟨rfl, hd, k⟩; replace hg := hg.more k (by simp); clear k) | (go_at_call 12; refine (since_any _ 2 2 _ hd (by omega) (by omega)).mono ?_; rintro e w' ⟨rfl, rfl⟩) | (go_at_call 10; refine (x2 _ _ hd).mono ?_; clear hd; rintro e w1 ⟨rfl, hd, k⟩; replace hg := hg.more k (by simp); clear k))
  go_ret
  exact ⟨rfl, hg⟩

theorem nil_any (n : Int) (w : World) : Calls Try.prog 6 #[.int .i64 n] w fun e w' => e = .returned (.bool true) ∧ Chg [] w w' := by
  go_enter Try.func6, Try.ntmps6
  go_wp2_with (first | (go_at_call 7; refine (awake_any _).mono ?_; rintro e w1 ⟨rfl, hg⟩) | (go_at_call 9; refine (ticks_nil _ _).mono ?_; rintro e w' ⟨rfl, rfl⟩) | (go_at_call 14; refine (feed_nil _).mono ?_; rintro e w' ⟨rfl, rfl⟩) | (go_at_call 11; refine (tick_nil _).mono ?_; rintro e w' ⟨rfl, rfl⟩) | (go_at_call 10; refine (expired_nil _).mono ?_; rintro e w1 ⟨rfl, k⟩; replace hg := hg.trans k; clear k) | (go_at_call 12; refine (since_nil _).mono ?_; rintro e w' ⟨rfl, rfl⟩) | (go_at_call 15; refine (limit_nil _).mono ?_; rintro e w' ⟨rfl, rfl⟩))
  go_ret
  exact ⟨rfl, hg⟩

end Go.Proofs.Ytppeoifanilihaa
