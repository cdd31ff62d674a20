/-
  DERIVED. The plain law of the cell, more: the value through Open and Next.
-/
import Derived.Test.YtcmhalmmaodmhaaCPure
namespace Go.Proofs.Ytcmhalmmaodmhaa
set_option linter.unusedSimpArgs false
set_option linter.unusedVariables false

theorem mk_of_wr {s t : MS} {k j : Nat} {W e : Int} (h : Wr s t k W e) (hj : j ≠ k) : mk t j = mk s j := by
  unfold mk; exact h.other _ (by omega)
theorem wd_of_wr {s t : MS} {k j : Nat} {W e : Int} (h : Wr s t k W e) (hj : j ≠ k) : wd t j = wd s j := by
  unfold wd
  rw [h.other (5 * j + 1) (by omega), h.other (5 * j + 2) (by omega), h.other (5 * j + 3) (by omega), h.other (5 * j + 4) (by omega)]

theorem same_all {s t : MS} (h : ∀ j, t.B.getD j 0 = s.B.getD j 0) (k : Nat) : mk t k = mk s k ∧ wd t k = wd s k := by
  unfold mk wd; simp only [h, and_self]

/-- What a step leaves: sizes and bytes; its error tells whether the power is off. -/
structure Left (s t : MS) (e : Int) : Prop where
  len : t.B.length = s.B.length
  bytes : t.Bytes
  pow : (e = 0 ∧ t.off = false) ∨ (e = 70 ∧ t.off = true)

theorem Wr.left {s t : MS} {k : Nat} {W e : Int} (h : Wr s t k W e) : Left s t e :=
  ⟨h.len, h.bytes, by rcases h.slot with ⟨a, b, _⟩ | ⟨a, b, _⟩; exact .inl ⟨a, b⟩; exact .inr ⟨a, b⟩⟩

/-- A slot that holds nothing is written like the other one: the value stays. -/
theorem like_other {s : MS} (hl : 10 ≤ s.B.length) (hb : s.Bytes) (h0 : mk s 0 = 165) (h1 : mk s 1 ≠ 165) :
    Left s (wr6 s 1 (wd s 0)).1 (wr6 s 1 (wd s 0)).2 ∧ openV (wr6 s 1 (wd s 0)).1 = wd s 0 := by
  have hw := wr6_wr s 1 (wd s 0) (by omega) hl hb (wd_bd hb 0)
  generalize wr6 s 1 (wd s 0) = r at hw ⊢
  refine ⟨hw.left, ?_⟩
  have m0 := mk_of_wr hw (j := 0) (by omega)
  have d0 := wd_of_wr hw (j := 0) (by omega)
  unfold openV valueP
  rw [m0, d0, h0]
  rcases hw.slot with ⟨_, _, m1, d1⟩ | ⟨_, _, m1 | m1⟩
  · rw [m1, d1]; simp
  · rw [(same_all m1 1).1]; simp [h1]
  · rw [m1]; simp

theorem like_other' {s : MS} (hl : 10 ≤ s.B.length) (hb : s.Bytes) (h0 : mk s 0 ≠ 165) (h1 : mk s 1 = 165) :
    Left s (wr6 s 0 (wd s 1)).1 (wr6 s 0 (wd s 1)).2 ∧ openV (wr6 s 0 (wd s 1)).1 = wd s 1 := by
  have hw := wr6_wr s 0 (wd s 1) (by omega) hl hb (wd_bd hb 1)
  generalize wr6 s 0 (wd s 1) = r at hw ⊢
  refine ⟨hw.left, ?_⟩
  have m0 := mk_of_wr hw (j := 1) (by omega)
  have d0 := wd_of_wr hw (j := 1) (by omega)
  unfold openV valueP
  rw [m0, d0, h1]
  rcases hw.slot with ⟨_, _, m1, d1⟩ | ⟨_, _, m1 | m1⟩
  · rw [m1, d1]; simp
  · rw [(same_all m1 0).1]; simp [h0]
  · rw [m1]; simp

theorem zap_left {s : MS} (hl : 10 ≤ s.B.length) (hb : s.Bytes) (ho : s.off = false) (h0 : mk s 0 ≠ 165) (h1 : mk s 1 ≠ 165) :
    Left s (zap s (mk s 0) (mk s 1)).1 (zap s (mk s 0) (mk s 1)).2 ∧ openV (zap s (mk s 0) (mk s 1)).1 = 0 := by
  have hv : ∀ t : MS, mk t 0 ≠ 165 → mk t 1 ≠ 165 → openV t = 0 := fun t a b => by
    unfold openV valueP; rw [if_neg (fun h => a h.1), if_neg a, if_neg b]
  unfold zap
  have first : ∃ r : MS × Int, (if mk s 0 = 0 then (s, 0) else s.write 0 0) = r ∧ Left s r.1 r.2 ∧ mk r.1 0 ≠ 165 ∧ mk r.1 1 = mk s 1 := by
    refine ⟨_, rfl, ?_⟩
    split
    · exact ⟨⟨rfl, hb, .inl ⟨rfl, ho⟩⟩, h0, rfl⟩
    · have := write_cases s 0 0 (by omega)
      simp only [Int.natCast_zero] at this
      rcases this with ⟨e, b, _, o⟩ | ⟨e, b, o⟩
      · refine ⟨⟨by rw [b]; simp, set_bytes hb (by omega) (by omega) b, .inl ⟨e, o⟩⟩, ?_, ?_⟩
        · unfold mk; rw [b, getD_set _ _ _ _ (by omega)]; simp
        · unfold mk; rw [b, getD_set _ _ _ _ (by omega)]; simp
      · refine ⟨⟨by rw [b], fun j => by rw [b]; exact hb j, .inr ⟨e, o⟩⟩, ?_, ?_⟩
        · unfold mk at h0 ⊢; rw [b]; exact h0
        · unfold mk; rw [b]
  obtain ⟨r, hr, l, m0, m1⟩ := first
  rw [hr]
  rcases l.pow with ⟨e, o⟩ | ⟨e, o⟩
  · rw [andThen_yes (by simp [e])]
    split
    · exact ⟨⟨l.len, l.bytes, .inl ⟨rfl, o⟩⟩, hv _ m0 (by rw [m1]; exact h1)⟩
    · have hl' : 5 < r.1.B.length := by have := l.len; omega
      have := write_cases r.1 5 0 hl'
      rcases this with ⟨e2, b, _, o2⟩ | ⟨e2, b, o2⟩
      · refine ⟨⟨by rw [show ((5 : Nat) : Int) = 5 from rfl] at b; rw [b]; simp [l.len], set_bytes l.bytes hl' (by omega) b, .inl ⟨e2, o2⟩⟩, hv _ ?_ ?_⟩
        · rw [show ((5 : Nat) : Int) = 5 from rfl] at b
          unfold mk at m0 ⊢; rw [b, getD_set _ _ _ _ hl']; simpa using m0
        · rw [show ((5 : Nat) : Int) = 5 from rfl] at b
          unfold mk; rw [b, getD_set _ _ _ _ hl']; simp
      · rw [show ((5 : Nat) : Int) = 5 from rfl] at b
        refine ⟨⟨by rw [b, l.len], fun j => by rw [b]; exact l.bytes j, .inr ⟨e2, o2⟩⟩, hv _ ?_ ?_⟩
        · unfold mk at m0 ⊢; rw [b]; exact m0
        · unfold mk at m1 h1 ⊢; rw [b, m1]; exact h1
  · rw [andThen_no (by simp [e])]
    exact ⟨l, hv _ m0 (by rw [m1]; exact h1)⟩

/-- Open keeps the value. -/
theorem open_left {s : MS} {mx : Int} (hl : 10 ≤ s.B.length) (hb : s.Bytes) (hm : mx ≠ 0) : Left s (openR s mx).1 (openR s mx).2 ∧ openV (openR s mx).1 = openV s := by
  unfold openR
  rw [if_neg (by omega)]
  by_cases ho : s.off = true
  · rw [if_pos ho]; exact ⟨⟨rfl, hb, .inr ⟨rfl, ho⟩⟩, rfl⟩
  · rw [if_neg ho]
    have ho' : s.off = false := by simpa using ho
    unfold repairP
    by_cases h0 : mk s 0 = 165
    · by_cases h1 : mk s 1 = 165
      · rw [if_pos ⟨h0, h1⟩]; exact ⟨⟨rfl, hb, .inl ⟨rfl, ho'⟩⟩, rfl⟩
      · rw [if_neg (fun h => h1 h.2), if_pos h0]
        have := like_other hl hb h0 h1
        refine ⟨this.1, this.2.trans ?_⟩
        unfold openV valueP; rw [if_neg (fun h => h1 h.2), if_pos h0]
    · rw [if_neg (fun h => h0 h.1), if_neg h0]
      by_cases h1 : mk s 1 = 165
      · rw [if_pos h1]
        have := like_other' hl hb h0 h1
        refine ⟨this.1, this.2.trans ?_⟩
        unfold openV valueP; rw [if_neg (fun h => h0 h.1), if_neg h0, if_pos h1]
      · rw [if_neg h1]
        have := zap_left hl hb ho' h0 h1
        refine ⟨this.1, this.2.trans ?_⟩
        unfold openV valueP; rw [if_neg (fun h => h0 h.1), if_neg h0, if_neg h1]

theorem openV_bd {s : MS} (hb : s.Bytes) : 0 ≤ openV s ∧ openV s ≤ 4294967295 := by
  have h0 := wd_bd hb 0
  have h1 := wd_bd hb 1
  unfold openV valueP
  split
  · omega
  · split
    · omega
    · split <;> omega

/-- Next: where it goes well the value is one more; else it stays. -/
theorem next_left {s : MS} (hl : 10 ≤ s.B.length) (hb : s.Bytes) (hv : openV s < 4294967295) :
    Left s (nextR s (openV s)).1 (nextR s (openV s)).2 ∧ (((nextR s (openV s)).2 = 0 ∧ openV (nextR s (openV s)).1 = openV s + 1) ∨ ((nextR s (openV s)).2 = 70 ∧ openV (nextR s (openV s)).1 = openV s)) := by
  have bd := openV_bd hb
  have w0 := wd_bd hb 0
  have w1 := wd_bd hb 1
  unfold nextR
  by_cases hc : mk s 0 = 165 ∧ (mk s 1 ≠ 165 ∨ wd s 1 < wd s 0)
  · have hs : spareP s = 1 := by unfold spareP; rw [if_pos hc]
    rw [hs, show (1 : Int).toNat = 1 from rfl]
    have hw := wr6_wr s 1 (openV s + 1) (by omega) hl hb (by omega)
    have ev : openV s = wd s 0 := by
      unfold openV valueP
      split
      · rename_i h
        rcases hc.2 with h2 | h2
        · exact absurd h.2 h2
        · omega
      · rw [if_pos hc.1]
    generalize wr6 s 1 (openV s + 1) = r at hw ⊢
    refine ⟨hw.left, ?_⟩
    have m0 := mk_of_wr hw (j := 0) (by omega)
    have d0 := wd_of_wr hw (j := 0) (by omega)
    rcases hw.slot with ⟨e, _, m1, d1⟩ | ⟨e, _, m1 | m1⟩
    · refine .inl ⟨e, ?_⟩
      show valueP _ _ _ _ = _
      unfold valueP
      rw [m0, d0, m1, d1, if_pos ⟨hc.1, rfl⟩]
      omega
    · refine .inr ⟨e, ?_⟩
      show valueP _ _ _ _ = valueP _ _ _ _
      rw [(same_all m1 0).1, (same_all m1 0).2, (same_all m1 1).1, (same_all m1 1).2]
    · refine .inr ⟨e, ?_⟩
      rw [ev]
      show valueP _ _ _ _ = _
      unfold valueP
      rw [m0, d0, m1, if_neg (by omega), if_pos hc.1]
  · have hs : spareP s = 0 := by unfold spareP; rw [if_neg hc]
    rw [hs, show (0 : Int).toNat = 0 from rfl]
    have hw := wr6_wr s 0 (openV s + 1) (by omega) hl hb (by omega)
    generalize hr : wr6 s 0 (openV s + 1) = r at hw ⊢
    refine ⟨hw.left, ?_⟩
    have m1 := mk_of_wr hw (j := 1) (by omega)
    have d1 := wd_of_wr hw (j := 1) (by omega)
    have le1 : mk s 1 = 165 → wd s 1 ≤ openV s := by
      intro h
      unfold openV valueP
      split
      · omega
      · rename_i h2
        have h0 : mk s 0 ≠ 165 := fun h3 => h2 ⟨h3, h⟩
        simp [h0, h]
    rcases hw.slot with ⟨e, _, m0, d0⟩ | ⟨e, _, m0 | m0⟩
    · refine .inl ⟨e, ?_⟩
      show valueP _ _ _ _ = _
      unfold valueP
      rw [m0, d0, m1, d1]
      split
      · rename_i h
        have := le1 h.2
        omega
      · simp
    · refine .inr ⟨e, ?_⟩
      show valueP _ _ _ _ = valueP _ _ _ _
      rw [(same_all m0 0).1, (same_all m0 0).2, (same_all m0 1).1, (same_all m0 1).2]
    · refine .inr ⟨e, ?_⟩
      show valueP _ _ _ _ = valueP _ _ _ _
      rw [m0, m1, d1]
      unfold valueP
      rw [if_neg (by omega), if_neg (by omega)]
      by_cases h1 : mk s 1 = 165
      · rw [if_pos h1]
        by_cases h0 : mk s 0 = 165
        · rw [if_pos ⟨h0, h1⟩]
          have : ¬ wd s 1 < wd s 0 := fun h => hc ⟨h0, .inr h⟩
          omega
        · simp [h0]
      · have h0 : mk s 0 ≠ 165 := fun h => hc ⟨h, .inl h1⟩
        simp [h0, h1]

end Go.Proofs.Ytcmhalmmaodmhaa
