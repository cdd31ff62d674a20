/-
  DERIVED. The plain law of the judge: no counter wraps.
-/
import Derived.Test.YtmggfdhlbjlpjaaRuleC
namespace Go.Proofs.Ytmggfdhlbjlpjaa
set_option linter.unusedVariables false

/-- A fact as memory holds it, its data not too long. -/
structure FactP.Good (f : FactP) : Prop where
  ok : f.Ok
  len : f.data.length ≤ 140737488351232

theorem EndP.Ok.mono {e : EndP} {N : Int} (h : e.Ok N) : e.Ok (N + 1) := ⟨h.w0, h.w1, h.s, by have := h.n; omega, h.lat⟩
theorem EndP.Ok.new {x : Int} (h : -9223372036854775808 ≤ x ∧ x ≤ 9223372036854775807) : (EndP.new x).Ok 0 := ⟨h.1, h.2, .inr ⟨Int.le_refl _, .inl rfl⟩, by show (0 : Int) ≤ _; omega, by show _ ≤ (0 : Int) ∧ (0 : Int) ≤ _; omega⟩

theorem EndP.Ok.tick {e : EndP} {N : Int} (h : e.Ok N) (hN : 0 ≤ N) {n : Int} (hn : 0 ≤ n ∧ n ≤ 4294967295) : (e.tick n).Ok (N + 1) := by
  have hs := h.s
  have h1 := h.n
  refine ⟨h.w0, h.w1, ?_, ?_, h.lat⟩
  · show min e.watch (e.since + n) = e.watch ∨ (0 ≤ min e.watch (e.since + n) ∧ (min e.watch (e.since + n) = 0 ∨ min e.watch (e.since + n) ≤ e.watch))
    rcases Int.le_total e.watch (e.since + n) with h' | h'
    · rw [Int.min_eq_left h']; exact .inl rfl
    · rw [Int.min_eq_right h']; omega
  · show min e.watch (e.since + n) ≤ _
    rcases Int.le_total e.watch (e.since + n) with h' | h'
    · rw [Int.min_eq_left h']; omega
    · rw [Int.min_eq_right h']; omega

theorem EndP.Ok.anew {e : EndP} {N : Int} (h : e.Ok N) (hN : 0 ≤ N) (d : Bool) : (e.anew d).Ok (N + 1) :=
  ⟨h.w0, h.w1, .inr ⟨Int.le_refl _, .inl rfl⟩, by show (0 : Int) ≤ _; omega, by show _ ≤ (0 : Int) ∧ (0 : Int) ≤ _; omega⟩

def EndP.Fine (e : EndP) (N : Int) : Prop := e.Ok N ∧ e.value.length ≤ 140737488351232
def LineP.Fine (l : LineP) (N : Int) : Prop := l.e0.Fine N ∧ l.e1.Fine N

theorem LineP.Fine.mono {l : LineP} {N : Int} (h : l.Fine N) : l.Fine (N + 1) := ⟨⟨h.1.1.mono, h.1.2⟩, ⟨h.2.1.mono, h.2.2⟩⟩
theorem LineP.Fine.end_ {l : LineP} {N : Int} (h : l.Fine N) (s : Int) : (l.end_ s).Fine N := by unfold LineP.end_; split; exact h.1; exact h.2
theorem LineP.Fine.setEnd {l : LineP} {N : Int} (h : l.Fine N) (s : Int) {e : EndP} (he : e.Fine N) : (l.setEnd s e).Fine N := by unfold LineP.setEnd; split; exact ⟨he, h.2⟩; exact ⟨h.1, he⟩

theorem LineP.Fine.see {l : LineP} {N : Int} (h : l.Fine N) (hN : 0 ≤ N) {f : FactP} (hf : f.Good) : (l.see f).1.Fine (N + 1) := by
  have hm := h.mono
  have he := hm.end_ f.side
  have he0 := h.end_ f.side
  unfold LineP.see
  dsimp only
  split
  · exact ⟨hm.1, hm.2⟩
  split
  · dsimp only
    split
    · exact hm.setEnd _ ⟨⟨he.1.w0, he.1.w1, he.1.s, he.1.n, he.1.lat⟩, hf.len⟩
    · exact hm
  split
  · exact ⟨hm.1, hm.2⟩
  split
  · exact hm.setEnd _ ⟨⟨he.1.w0, he.1.w1, .inr ⟨Int.le_refl _, .inl rfl⟩, by show (0 : Int) ≤ _; omega, he.1.lat⟩, he.2⟩
  split
  · exact hm.setEnd _ ⟨he0.1.tick hN hf.ok.number, he0.2⟩
  split
  · exact hm.setEnd _ ⟨⟨he.1.w0, he.1.w1, he.1.s, he.1.n, he.1.lat⟩, he.2⟩
  split
  · exact hm.setEnd _ ⟨he0.1.anew hN _, by show (0 : Nat) ≤ _; omega⟩
  · dsimp only
    split
    · exact hm.setEnd _ ⟨⟨he.1.w0, he.1.w1, he.1.s, he.1.n, hf.ok.code⟩, he.2⟩
    · exact hm

theorem JP.ok_iff {st : JP} {N : Int} : st.Ok N ↔ ∀ l ∈ st.lines, l.Fine N := by
  constructor
  · intro h l hl
    obtain ⟨i, hi, rfl⟩ := List.getElem_of_mem hl
    exact h i hi
  · intro h i hi
    exact h _ (List.getElem_mem hi)

theorem JP.Ok.mono {st : JP} {N : Int} (h : st.Ok N) : st.Ok (N + 1) := JP.ok_iff.2 fun l hl => (JP.ok_iff.1 h l hl).mono
theorem JP.Ok.judge {st : JP} {N : Int} (h : st.Ok N) (hN : 0 ≤ N) {f : FactP} (hf : f.Good) : (st.judge f).1.Ok (N + 1) := by
  unfold JP.judge
  split
  · rename_i hin
    have hlt : f.conn.toNat < st.lines.length := by obtain ⟨_, _, _, _, _⟩ := hin; omega
    refine JP.ok_iff.2 fun l hl => ?_
    rcases List.mem_or_eq_of_mem_set hl with hl | rfl
    · exact (JP.ok_iff.1 h l hl).mono
    · refine LineP.Fine.see (JP.ok_iff.1 h _ ?_) hN hf
      simp [JP.line, hlt]
  · exact h.mono
theorem JP.Ok.see {st : JP} {N : Int} (h : st.Ok N) (hN : 0 ≤ N) {f : FactP} (hf : f.Good) : (st.see f).Ok (N + 1) := by
  unfold JP.see
  split
  · split
    · exact h.judge hN hf
    · exact h.mono
  · exact h.mono
theorem JP.see_at (st : JP) (f : FactP) : (st.see f).at_ = st.at_ + 1 := by
  unfold JP.see; split; split; all_goals rfl

theorem JP.sees_succ (st : JP) (l : List FactP) (k : Nat) (hk : k < l.length) : st.sees (l.take (k + 1)) = (st.sees (l.take k)).see l[k] := by
  unfold JP.sees
  rw [List.take_succ_eq_append_getElem hk, List.foldl_append]
  rfl
theorem JP.sees_at (st : JP) (l : List FactP) : (st.sees l).at_ = st.at_ + l.length := by
  unfold JP.sees
  induction l generalizing st with
  | nil => simp
  | cons f r ih => rw [List.foldl_cons, ih, JP.see_at]; simp; omega
theorem JP.Ok.sees {st : JP} {N : Int} (h : st.Ok N) (hN : 0 ≤ N) {l : List FactP} (hl : ∀ f ∈ l, f.Good) : (st.sees l).Ok (N + l.length) := by
  unfold JP.sees
  induction l generalizing st N with
  | nil => simpa using h
  | cons f r ih =>
    rw [List.foldl_cons]
    have := ih (h.see hN (hl f (List.mem_cons_self ..))) (by omega) fun g hg => hl g (List.mem_cons_of_mem _ hg)
    rw [List.length_cons]
    have e : N + ((r.length + 1 : Nat) : Int) = N + 1 + r.length := by omega
    rw [e]; exact this

/-- The watches of a net. -/
def NetOk (net : List (Int × Int)) : Prop := ∀ p ∈ net, (-9223372036854775808 ≤ p.1 ∧ p.1 ≤ 9223372036854775807) ∧ (-9223372036854775808 ≤ p.2 ∧ p.2 ≤ 9223372036854775807)
theorem JP.Ok.new {net : List (Int × Int)} (h : NetOk net) : (JP.new net).Ok 0 := by
  refine JP.ok_iff.2 fun l hl => ?_
  simp only [JP.new, List.mem_map] at hl
  obtain ⟨p, hp, rfl⟩ := hl
  obtain ⟨h1, h2⟩ := h p hp
  exact ⟨⟨EndP.Ok.new h1, by show (0 : Nat) ≤ _; omega⟩, ⟨EndP.Ok.new h2, by show (0 : Nat) ≤ _; omega⟩⟩

theorem sees_good {net : List (Int × Int)} (h : NetOk net) {l : List FactP} (hl : ∀ f ∈ l, f.Good) (k : Nat) : ((JP.new net).sees (l.take k)).Ok 2000 ∨ 2000 < k := by
  rcases Nat.lt_or_ge 2000 k with hk | hk
  · exact .inr hk
  · left
    have h1 := (JP.Ok.new h).sees (l := l.take k) (Int.le_refl 0) fun f hf => hl f (List.mem_of_mem_take hf)
    have h2 : (l.take k).length ≤ 2000 := by rw [List.length_take]; omega
    have hmono : ∀ (d : Nat) (st : JP) (N : Int), st.Ok N → st.Ok (N + d) := by
      intro d
      induction d with
      | zero => intro st N h; simpa using h
      | succ d ih => intro st N h; have := (ih st N h).mono; rw [Int.add_assoc] at this; exact this
    have := hmono (2000 - (l.take k).length) _ _ h1
    have e : (0 : Int) + ((l.take k).length : Int) + ((2000 - (l.take k).length : Nat) : Int) = 2000 := by omega
    rw [e] at this
    exact this

end Go.Proofs.Ytmggfdhlbjlpjaa
