/-
  DERIVED. The plain law of the cell: what is kept by a run of writes: the arming, the power of one that isn't armed, the count.
-/
import Derived.Test.YtcmhalmmaodmhaaCPure2
import Derived.Test.YtcmhalmmaodmhaaStep
import Derived.Test.YtcmhalmmaodmhaaMade
namespace Go.Proofs.Ytcmhalmmaodmhaa
set_option linter.unusedSimpArgs false
set_option linter.unusedVariables false

/-- At most n writes lie between s and t; with no error just n. -/
structure Kp (s t : MS) (n e : Int) : Prop where
  armed : t.armed = s.armed
  pow : s.armed = false → t.off = s.off
  lo : s.writes ≤ t.writes
  hi : t.writes ≤ s.writes + n
  eq : e = 0 → t.writes = s.writes + n
  ok : ∀ V, s.Ok V → t.Ok (V + n)

theorem kp_write (s : MS) (i c : Int) : Kp s (s.write i c).1 1 (s.write i c).2 := by
  refine ⟨?_, ?_, ?_, ?_, ?_, fun V h => h.write i c⟩
  all_goals
    unfold MS.write
    split
    · first | (simp; done) | (simp; omega)
    · split
      · first | (simp; done) | (simp; omega)
      · split
        · rename_i h; first | (simp [h.1]; done) | (simp [h.1]; omega)
        · first | (simp; done) | (simp; omega)

theorem kp_then {s : MS} {r : MS × Int} {f : MS → MS × Int} {n m : Int} (hm : 0 ≤ m) (h : Kp s r.1 n r.2) (hf : Kp r.1 (f r.1).1 m (f r.1).2) : Kp s (andThen r f).1 (n + m) (andThen r f).2 := by
  unfold andThen
  split
  · rename_i h0
    refine ⟨hf.armed.trans h.armed, fun ha => (hf.pow (h.armed.trans ha)).trans (h.pow ha), ?_, ?_, fun he => ?_, fun V hV => ?_⟩
    · have := h.lo; have := hf.lo; omega
    · have := h.hi; have := hf.hi; omega
    · have := h.eq h0; have := hf.eq he; omega
    · have := hf.ok _ (h.ok V hV)
      rwa [Int.add_assoc] at this
  · rename_i h0
    refine ⟨h.armed, h.pow, h.lo, ?_, fun he => absurd he h0, fun V hV => ?_⟩
    · have := h.hi; omega
    · have := h.ok V hV
      exact ok_le this (by omega)

theorem kp_wr6 (s : MS) (k : Nat) (W : Int) : Kp s (wr6 s k W).1 6 (wr6 s k W).2 := by
  unfold wr6
  refine kp_then (n := 1) (m := 5) (by omega) (kp_write _ _ _) ?_
  refine kp_then (n := 1) (m := 4) (by omega) (kp_write _ _ _) ?_
  refine kp_then (n := 1) (m := 3) (by omega) (kp_write _ _ _) ?_
  refine kp_then (n := 1) (m := 2) (by omega) (kp_write _ _ _) ?_
  refine kp_then (n := 1) (m := 1) (by omega) (kp_write _ _ _) ?_
  exact kp_write _ _ _

/-- At most n writes, whatever the error. -/
structure Kl (s t : MS) (n : Int) : Prop where
  armed : t.armed = s.armed
  pow : s.armed = false → t.off = s.off
  lo : s.writes ≤ t.writes
  hi : t.writes ≤ s.writes + n
  ok : ∀ V, s.Ok V → t.Ok (V + n)

theorem Kp.kl {s t : MS} {n m e : Int} (h : Kp s t n e) (hm : n ≤ m) : Kl s t m :=
  ⟨h.armed, h.pow, h.lo, by have := h.hi; omega, fun V hV => ok_le (h.ok V hV) (by omega)⟩
theorem kl_refl (s : MS) {n : Int} (h : 0 ≤ n) : Kl s s n := ⟨rfl, fun _ => rfl, Int.le_refl _, by omega, fun V hV => ok_le hV (by omega)⟩

theorem kl_zap (s : MS) (m0 m1 : Int) : Kl s (zap s m0 m1).1 6 := by
  unfold zap andThen
  have h1 : Kl s (if m0 = 0 then (s, 0) else s.write 0 0).1 1 := by
    split
    · exact kl_refl s (by omega)
    · exact (kp_write _ _ _).kl (by omega)
  generalize (if m0 = 0 then (s, (0 : Int)) else s.write 0 0) = r at h1 ⊢
  split
  · have h2 : Kl r.1 (if m1 = 0 then (r.1, 0) else r.1.write 5 0).1 1 := by
      split
      · exact kl_refl _ (by omega)
      · exact (kp_write _ _ _).kl (by omega)
    refine ⟨h2.armed.trans h1.armed, fun ha => (h2.pow (h1.armed.trans ha)).trans (h1.pow ha), ?_, ?_, fun V hV => ?_⟩
    · have a := h1.lo; have b := h2.lo; exact Int.le_trans a b
    · have a := h1.hi; have b := h2.hi; exact Int.le_trans b (by omega)
    · exact ok_le (h2.ok _ (h1.ok V hV)) (by omega)
  · exact ⟨h1.armed, h1.pow, h1.lo, by have := h1.hi; omega, fun V hV => ok_le (h1.ok V hV) (by omega)⟩

theorem kl_open (s : MS) (mx : Int) : Kl s (openR s mx).1 6 := by
  unfold openR
  split
  · exact kl_refl s (by omega)
  · split
    · exact kl_refl s (by omega)
    · unfold repairP
      split
      · exact kl_refl s (by omega)
      · split
        · exact (kp_wr6 _ _ _).kl (by omega)
        · split
          · exact (kp_wr6 _ _ _).kl (by omega)
          · exact kl_zap _ _ _

theorem kp_next (s : MS) (v : Int) : Kp s (nextR s v).1 6 (nextR s v).2 := kp_wr6 _ _ _

end Go.Proofs.Ytcmhalmmaodmhaa
