/-
  DERIVED. The plain law of the judge: a history of two connections.
-/
import Derived.Test.YtmggfdhlbjlpjaaPure3
namespace Go.Proofs.Ytmggfdhlbjlpjaa
set_option linter.unusedVariables false

/-- One line's facts break no rule. -/
def G1 : LineP → List FactP → Prop
  | _, [] => True
  | x, f :: r => f.In 2 ∧ (x.see f).2 = 0 ∧ G1 (x.see f).1 r

theorem see_rule (j : JP) (f : FactP) (h : j.rule = 0) : (j.see f).rule = (j.judge f).2 := by
  unfold JP.see
  rw [if_pos h]
  split
  · rename_i h0; rw [h0]; exact (judge_same j f).2.1.trans h
  · rfl
theorem see_lines (j : JP) (f : FactP) (h : (j.judge f).2 = 0) (hr : j.rule = 0) : (j.see f).lines = (j.judge f).1.lines := by
  unfold JP.see; rw [if_pos hr, if_pos h]

theorem not_in {f : FactP} {n : Nat} (h : ¬ f.In n) (j : JP) (hl : j.lines.length = n) : (j.judge f).2 = 1 := by
  unfold JP.judge
  rw [hl, if_neg h]

theorem two_lines (l : List FactP) : ∀ (j : JP) (a b : LineP), j.rule = 0 → j.lines = [a, b] → (∀ f ∈ l, f.conn = 0 ∨ f.conn = 1) →
    ((j.sees l).rule = 0 ↔ G1 a (l.filter fun f => f.conn == 0) ∧ G1 b (l.filter fun f => f.conn == 1)) := by
  induction l with
  | nil => intro j a b h _ _; exact ⟨fun _ => ⟨trivial, trivial⟩, fun _ => h⟩
  | cons f r ih =>
    intro j a b h hl hc
    have hcr : ∀ g ∈ r, g.conn = 0 ∨ g.conn = 1 := fun g hg => hc g (List.mem_cons_of_mem _ hg)
    have hlen : j.lines.length = 2 := by rw [hl]; rfl
    rw [sees_cons]
    by_cases hin : f.In 2
    · have hj : j.judge f = ({ j with lines := j.lines.set f.conn.toNat ((j.line f.conn.toNat).see f).1 }, ((j.line f.conn.toNat).see f).2) := by unfold JP.judge; rw [hlen, if_pos hin]
      have hrule := see_rule j f h
      rcases hc f (List.mem_cons_self ..) with hf | hf
      · have e0 : (f.conn == 0) = true := by simp [hf]
        have e1 : (f.conn == 1) = false := by simp [hf]
        have hline : j.line f.conn.toNat = a := by rw [hf]; simp [JP.line, hl]
        rw [List.filter_cons_of_pos (by simpa using e0), List.filter_cons_of_neg (by simp [hf])]
        by_cases h0 : (a.see f).2 = 0
        · have hj2 : (j.judge f).2 = 0 := by rw [hj]; simpa [hline] using h0
          have hl2 : (j.see f).lines = [(a.see f).1, b] := by
            rw [see_lines j f hj2 h, hj, hline]
            simp [hl, hf]
          rw [ih (j.see f) _ b (hrule.trans hj2) hl2 hcr]
          exact ⟨fun ⟨p, q⟩ => ⟨⟨hin, h0, p⟩, q⟩, fun ⟨⟨_, _, p⟩, q⟩ => ⟨p, q⟩⟩
        · have hj2 : (j.see f).rule ≠ 0 := by rw [hrule, hj]; simpa [hline] using h0
          constructor
          · intro e
            rw [(sees_stuck r _ hj2).1] at e
            exact absurd e hj2
          · rintro ⟨⟨_, h1, _⟩, _⟩
            exact absurd h1 h0
      · have e0 : (f.conn == 0) = false := by simp [hf]
        have e1 : (f.conn == 1) = true := by simp [hf]
        have hline : j.line f.conn.toNat = b := by rw [hf]; simp [JP.line, hl]
        rw [List.filter_cons_of_neg (by simp [hf]), List.filter_cons_of_pos (by simpa using e1)]
        by_cases h0 : (b.see f).2 = 0
        · have hj2 : (j.judge f).2 = 0 := by rw [hj]; simpa [hline] using h0
          have hl2 : (j.see f).lines = [a, (b.see f).1] := by
            rw [see_lines j f hj2 h, hj, hline]
            simp [hl, hf]
          rw [ih (j.see f) a _ (hrule.trans hj2) hl2 hcr]
          exact ⟨fun ⟨p, q⟩ => ⟨p, hin, h0, q⟩, fun ⟨p, _, _, q⟩ => ⟨p, q⟩⟩
        · have hj2 : (j.see f).rule ≠ 0 := by rw [hrule, hj]; simpa [hline] using h0
          constructor
          · intro e
            rw [(sees_stuck r _ hj2).1] at e
            exact absurd e hj2
          · rintro ⟨_, _, h1, _⟩
            exact absurd h1 h0
    · have hj2 : (j.see f).rule ≠ 0 := by rw [see_rule j f h, not_in hin j hlen]; decide
      constructor
      · intro e
        rw [(sees_stuck r _ hj2).1] at e
        exact absurd e hj2
      · rintro ⟨p, q⟩
        rcases hc f (List.mem_cons_self ..) with hf | hf
        · rw [List.filter_cons_of_pos (by simp [hf])] at p
          exact absurd p.1 hin
        · rw [List.filter_cons_of_pos (by simp [hf])] at q
          exact absurd q.1 hin

theorem filter_all {l : List FactP} {c : Int} (h : ∀ f ∈ l, f.conn = c) : (l.filter fun f => f.conn == c) = l := List.filter_eq_self.2 fun f hf => by simp [h f hf]
theorem filter_none {l : List FactP} {c d : Int} (h : ∀ f ∈ l, f.conn = c) (hd : c ≠ d) : (l.filter fun f => f.conn == d) = [] := List.filter_eq_nil_iff.2 fun f hf => by simp [h f hf, hd]

/-- Good just if each one's facts are good by themselves. -/
theorem check_conns (p q : Int × Int) (l : List FactP) (h : ∀ f ∈ l, f.conn = 0 ∨ f.conn = 1) :
    (check [p, q] l).1 = 0 ↔ (check [p, q] (l.filter fun f => f.conn == 0)).1 = 0 ∧ (check [p, q] (l.filter fun f => f.conn == 1)).1 = 0 := by
  have h0 : ∀ f ∈ l.filter (fun f => f.conn == 0), f.conn = 0 := fun f hf => by simpa using (List.mem_filter.1 hf).2
  have h1 : ∀ f ∈ l.filter (fun f => f.conn == 1), f.conn = 1 := fun f hf => by simpa using (List.mem_filter.1 hf).2
  have e := two_lines l (JP.new [p, q]) _ _ rfl rfl h
  have e0 := two_lines (l.filter fun f => f.conn == 0) (JP.new [p, q]) _ _ rfl rfl fun f hf => .inl (h0 f hf)
  have e1 := two_lines (l.filter fun f => f.conn == 1) (JP.new [p, q]) _ _ rfl rfl fun f hf => .inr (h1 f hf)
  rw [filter_all h0, filter_none h0 (by decide)] at e0
  rw [filter_all h1, filter_none h1 (by decide)] at e1
  show ((JP.new [p, q]).sees l).rule = 0 ↔ ((JP.new [p, q]).sees _).rule = 0 ∧ ((JP.new [p, q]).sees _).rule = 0
  rw [e, e0, e1]
  exact ⟨fun ⟨a, b⟩ => ⟨⟨a, trivial⟩, ⟨trivial, b⟩⟩, fun ⟨⟨a, _⟩, ⟨_, b⟩⟩ => ⟨a, b⟩⟩

/-- A fact of no connection breaks a rule. -/
theorem check_stranger (p q : Int × Int) (l : List FactP) {f : FactP} (hf : f ∈ l) (h : f.conn < 0 ∨ 1 < f.conn) : (check [p, q] l).1 ≠ 0 := by
  show ((JP.new [p, q]).sees l).rule ≠ 0
  have key : ∀ (l : List FactP) (j : JP), j.lines.length = 2 → f ∈ l → (j.sees l).rule ≠ 0 := by
    intro l
    induction l with
    | nil => intro j _ h; cases h
    | cons g r ih =>
      intro j hl hm
      rw [sees_cons]
      by_cases h0 : (j.see g).rule = 0
      · have hr0 : j.rule = 0 := by
          by_cases hr : j.rule = 0
          · exact hr
          · rw [(see_stuck j g hr).1] at h0; exact absurd h0 hr
        have hj0 := (see_free j g hr0 h0).2
        rcases List.mem_cons.1 hm with rfl | hm
        · have hnin : ¬ f.In 2 := by unfold FactP.In; omega
          rw [not_in hnin j hl] at hj0
          cases hj0
        · refine ih _ ?_ hm
          rw [see_lines j g hj0 hr0]
          unfold JP.judge
          split
          · simp [hl]
          · exact hl
      · rw [(sees_stuck r _ h0).1]; exact h0
  exact key l (JP.new [p, q]) rfl hf

end Go.Proofs.Ytmggfdhlbjlpjaa
