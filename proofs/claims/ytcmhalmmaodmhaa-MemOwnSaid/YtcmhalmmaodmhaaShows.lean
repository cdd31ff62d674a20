/-
  DERIVED. The walks of 'shows' and 'step'.
-/
import Derived.Test.YtcmhalmmaodmhaaAwake2
import Derived.Deep.RegionHeld3
namespace Go.Proofs.Ytcmhalmmaodmhaa
open Go.RowKit
set_option linter.unusedSimpArgs false
set_option linter.unusedVariables false

set_option maxRecDepth 100000 in
set_option maxHeartbeats 1000000 in
theorem shows_any (p q p' q' : Nat) (s : MS) (w : World) (h : IsMem w p q s) (h' : IsRef w p' q' s) (hlen : s.B.length ≤ 4096) :
    Calls Try.prog 29 #[.pointer (some ⟨p, 0, none⟩), .pointer (some ⟨p', 0, none⟩)] w fun e w' => e = .returned (.bool true) ∧ Chg [] w w' := by
  obtain ⟨a, cap, c0, c1, c2, c3, c4, hf, hb, hl, hr⟩ := h'.cells
  have hbs : Bs w (.slice a s.B.length cap) q' s.B := ⟨a, cap, rfl, hl, fun h0 => ⟨(hr h0).1, (hr h0).2.1⟩⟩
  have K : ∀ W, Chg [] w W → W.cell? ⟨p', 0, none⟩ = some (.slice a s.B.length cap) ∧ W.cell? ⟨p', 1, none⟩ = some (.bool s.off) ∧ W.cell? ⟨p', 4, none⟩ = some (.int .i64 s.writes) ∧
      (convert 22 9 (.slice a s.B.length cap)).run Try.prog W = .ok (.string (mkStr s.B)) W ∧ IsMem W p q s ∧ Chg [] w W :=
    fun W k => ⟨k.old c0 (by simp), k.old c1 (by simp), k.old c4 (by simp), conv_run (hbs.keep k (by simp)), h.keep k (by simp) (by simp), k⟩
  have HK : Hid _ := K
  clear hb hr K hbs c0 c1 c2 c3 c4 hf
  go_enter Try.func29, Try.ntmps29
  go_wp2
  go_region_held (fun W => W.cell? ⟨p', 0, none⟩ = some (.slice a s.B.length cap) ∧ W.cell? ⟨p', 1, none⟩ = some (.bool s.off) ∧ W.cell? ⟨p', 4, none⟩ = some (.int .i64 s.writes) ∧
      (convert 22 9 (.slice a s.B.length cap)).run Try.prog W = .ok (.string (mkStr s.B)) W ∧ IsMem W p q s ∧ Chg [] w W)
    (first | assumption | exact HK.out _ (Chg.refl [] w).drew | (refine HK.out _ ?_; assumption) | (refine HK.out _ (Chg.trans ?_ k); assumption))
    ((first | (go_at_call 24; refine (size_any p q s _ ?_).mono ?_; simp only [*]; rintro e w' ⟨rfl, rfl⟩) | (go_at_call 16; refine (bytes_any p q s _ ?_ hlen).mono ?_; simp only [*]; rintro e w2 ⟨v, rfl, ⟨r, hb2, hr2⟩, k⟩; have cv1 := conv_run hb2; have k2 : Chg [] w w2 := by { refine Chg.trans ?_ k; simp only [*] }) | (go_at_call 20; refine (off_any p q s _ ?_).mono ?_; simp only [*]; rintro e w' ⟨rfl, rfl⟩) | (go_at_call 22; refine (writes_any p q s _ ?_).mono ?_; simp only [*]; rintro e w' ⟨rfl, rfl⟩)))
  all_goals go_wp2
  all_goals go_ret
  all_goals exact ⟨rfl, by simp only [*]⟩

end Go.Proofs.Ytcmhalmmaodmhaa
