/-
  DERIVED. The walk of MemNil.
-/
import Derived.Test.YtcmhalmmaodmhaaAwake2
import Derived.Lib.SmallJoins
import Derived.ProofKit
import Derived.OpenShut
namespace Go.Proofs.Ytcmhalmmaodmhaa
open Go.RowKit Go.ChangeShapes Go.WideShapes Go.ChangeAt
set_option linter.unusedSimpArgs false
set_option linter.unusedVariables false

theorem nil_law (k i c : Int) (w : World) : Calls Try.prog 5 #[.agg #[.int .i64 k, .int .i64 i, .int .u8 c]] w fun e w' => e = .returned (.bool true) ∧ Chg [] w w' := by
  go_enter Try.func5, Try.ntmps5
  have hk := (Chg.refl [] w).alloc (.cells #[.int .i64 k, .int .i64 i, .int .u8 c] 42)
  have hbk := Blk.new w #[.int .i64 k, .int .i64 i, .int .u8 c] 42
  go_wp2_with (first | (go_at_call 12; refine (awake_any _).mono ?_; rintro e w1 ⟨rfl, hg⟩; replace hk := hk.trans hg; replace hbk := hg.blk hbk (by simp); clear hg; have c1 := hbk.cell 1; have c2 := hbk.cell 2; simp at c1 c2) | (go_at_call 23; refine (nil_all _ i c).2.1.mono ?_; rintro e w' ⟨rfl, rfl⟩) | (go_at_call 21; refine (nil_all _ i c).2.2.2.1.mono ?_; rintro e w' ⟨rfl, rfl⟩) | (go_at_call 19; refine (nil_all _ i c).1.mono ?_; rintro e w' ⟨rfl, rfl⟩) | (go_at_call 18; refine (nil_all _ i c).2.2.1.mono ?_; rintro e w' ⟨rfl, rfl⟩) | (go_at_call 20; refine (nil_all _ i c).2.2.2.2.1.mono ?_; rintro e w' ⟨rfl, rfl⟩) | (go_at_call 22; refine (nil_all _ i c).2.2.2.2.2.1.mono ?_; rintro e w' ⟨rfl, rfl⟩) | (go_at_call 24; refine (nil_all _ i c).2.2.2.2.2.2.1.mono ?_; rintro e w' ⟨rfl, rfl⟩) | (go_at_call 16; refine (nil_all _ i c).2.2.2.2.2.2.2.mono ?_; rintro e w' ⟨rfl, rfl⟩))
  go_ret
  exact ⟨rfl, hk⟩

set_option maxRecDepth 100000 in
theorem nil_all_law {H : Type} {enc : TypeId × Value → H} {W : World} {v : Value} {d : DataW H} {p : List MemPlace}
    {r : Reach} {b0 : Nat} (hv : Value.okWide Try.prog W r b0 42 v) (h : DataW.Trod enc Try.prog W 0 (fun _ => true) true 42 v d p) : Calls Try.prog 5 #[v] W fun e w' => e = .returned (.bool true) ∧ Chg [] W w' := by
  obtain ⟨c0, c1, c2, y0, y1, y2, m, rfl, rfl, rfl, hy0, hy1, hy2⟩ := Joins.open_agg3 Try.underlying42 (by kernel_rfl) (show Try.prog.cellsOf 42 = 3 by kernel_rfl) hv h
  obtain ⟨k0, e0, _, g0⟩ := DataW.trod_int Try.underlying3 hy0
  obtain ⟨k1, e1, _, g1⟩ := DataW.trod_int Try.underlying3 hy1
  obtain ⟨k2, e2, _, g2⟩ := DataW.trod_int Try.underlying5 hy2
  simp at e0 e1 e2
  subst e0 e1 e2
  exact nil_law k0 k1 k2 W

end Go.Proofs.Ytcmhalmmaodmhaa
