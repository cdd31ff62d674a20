/-
  DERIVED. The plain law of the judge: beginnings, and histories of two connections.
-/
import Derived.Test.YtmggfdhlbjlpjaaPure2
namespace Go.Proofs.Ytmggfdhlbjlpjaa
set_option linter.unusedVariables false

theorem sees_append (j : JP) (a b : List FactP) : j.sees (a ++ b) = (j.sees a).sees b := by unfold JP.sees; rw [List.foldl_append]
theorem sees_nil (j : JP) : j.sees [] = j := rfl
theorem sees_cons (j : JP) (f : FactP) (l : List FactP) : j.sees (f :: l) = (j.see f).sees l := rfl

theorem see_stuck (j : JP) (f : FactP) (h : j.rule ≠ 0) : (j.see f).rule = j.rule ∧ (j.see f).rat = j.rat := by
  unfold JP.see; rw [if_neg h]; exact ⟨rfl, rfl⟩
theorem sees_stuck (l : List FactP) : ∀ j : JP, j.rule ≠ 0 → (j.sees l).rule = j.rule ∧ (j.sees l).rat = j.rat := by
  induction l with
  | nil => intro j h; exact ⟨rfl, rfl⟩
  | cons f r ih =>
    intro j h
    obtain ⟨h1, h2⟩ := see_stuck j f h
    obtain ⟨h3, h4⟩ := ih (j.see f) (by rw [h1]; exact h)
    exact ⟨h3.trans h1, h4.trans h2⟩
theorem judge_same (st : JP) (f : FactP) : (st.judge f).1.at_ = st.at_ ∧ (st.judge f).1.rule = st.rule ∧ (st.judge f).1.rat = st.rat := by
  unfold JP.judge; split <;> exact ⟨rfl, rfl, rfl⟩
theorem see_free (j : JP) (f : FactP) (h : j.rule = 0) (h2 : (j.see f).rule = 0) : (j.see f).rat = j.rat ∧ (j.judge f).2 = 0 := by
  unfold JP.see at *
  rw [if_pos h] at *
  by_cases h0 : (j.judge f).2 = 0
  · rw [if_pos h0]
    exact ⟨(judge_same j f).2.2, h0⟩
  · rw [if_neg h0] at h2
    exact absurd h2 h0
theorem see_hit (j : JP) (f : FactP) (h : j.rule = 0) (h2 : (j.see f).rule ≠ 0) : (j.see f).rat = j.at_ := by
  unfold JP.see at *
  rw [if_pos h] at *
  by_cases h0 : (j.judge f).2 = 0
  · rw [if_pos h0] at h2
    exact absurd ((judge_same j f).2.1.trans h) h2
  · rw [if_neg h0]
theorem see_at' (st : JP) (f : FactP) : (st.see f).at_ = st.at_ + 1 := JP.see_at st f

/-- Good, or the first fact that breaks a rule. -/
theorem sees_first (l : List FactP) : ∀ j : JP, j.rule = 0 → (j.sees l).rule = 0 ∧ (∀ k, (j.sees (l.take k)).rule = 0 ∧ (j.sees (l.take k)).rat = j.rat) ∨
    ∃ p, p < l.length ∧ (j.sees l).rat = j.at_ + p ∧ (j.sees l).rule ≠ 0 ∧ ((j.sees (l.take p)).rule = 0 ∧ (j.sees (l.take p)).rat = j.rat) ∧ (j.sees (l.take (p + 1))).rule = (j.sees l).rule ∧ (j.sees (l.take (p + 1))).rat = (j.sees l).rat := by
  induction l with
  | nil => intro j h; exact .inl ⟨h, fun k => by simp [sees_nil, h]⟩
  | cons f r ih =>
    intro j h
    by_cases h2 : (j.see f).rule = 0
    · obtain ⟨hr, _⟩ := see_free j f h h2
      rcases ih (j.see f) h2 with ⟨h3, h4⟩ | ⟨p, hp, h3, h4, h5, h6, h7⟩
      · refine .inl ⟨h3, fun k => ?_⟩
        cases k with
        | zero => exact ⟨h, rfl⟩
        | succ k =>
          rw [List.take_succ_cons, sees_cons]
          exact ⟨(h4 k).1, (h4 k).2.trans hr⟩
      · refine .inr ⟨p + 1, by simp; omega, ?_, h4, ?_, ?_, ?_⟩
        · rw [sees_cons, h3, see_at']; omega
        · rw [List.take_succ_cons, sees_cons]; exact ⟨h5.1, h5.2.trans hr⟩
        · rw [List.take_succ_cons, sees_cons, sees_cons]; exact h6
        · rw [List.take_succ_cons, sees_cons, sees_cons]; exact h7
    · obtain ⟨h3, h4⟩ := sees_stuck r (j.see f) h2
      refine .inr ⟨0, by simp, ?_, ?_, ⟨h, rfl⟩, ?_, ?_⟩
      · rw [sees_cons, h4, see_hit j f h h2]; omega
      · rw [sees_cons, h3]; exact h2
      · rw [List.take_succ_cons, sees_cons, List.take_zero, sees_nil, sees_cons, h3]
      · rw [List.take_succ_cons, sees_cons, List.take_zero, sees_nil, sees_cons, h4]

theorem check_starts (net : List (Int × Int)) (l more : List FactP) :
    (check net l = (0, 0) ∧ ∀ k, check net (l.take k) = (0, 0)) ∨
    ∃ (r : Int) (p : Nat), r ≠ 0 ∧ p < l.length ∧ check net l = (r, (p : Int)) ∧ check net (l ++ more) = (r, (p : Int)) ∧ check net (l.take p) = (0, 0) ∧ check net (l.take (p + 1)) = (r, (p : Int)) := by
  rcases sees_first l (JP.new net) rfl with ⟨h1, h2⟩ | ⟨p, hp, h1, h2, h3, h4, h5⟩
  · refine .inl ⟨?_, fun k => ?_⟩
    · have := h2 l.length
      rw [List.take_length] at this
      exact Prod.ext this.1 this.2
    · exact Prod.ext (h2 k).1 (h2 k).2
  · have h1' : ((JP.new net).sees l).rat = (p : Int) := by rw [h1]; show (0 : Int) + p = p; omega
    refine .inr ⟨_, p, h2, hp, Prod.ext rfl h1', ?_, Prod.ext h3.1 h3.2, Prod.ext h4 (h5.trans h1')⟩
    obtain ⟨h6, h7⟩ := sees_stuck more _ h2
    refine Prod.ext ?_ ?_
    · show ((JP.new net).sees (l ++ more)).rule = _
      rw [sees_append]; exact h6
    · show ((JP.new net).sees (l ++ more)).rat = _
      rw [sees_append]; exact h7.trans h1'

end Go.Proofs.Ytmggfdhlbjlpjaa
