/-
  DERIVED. The plain law of the cell: what a write, a slot's writing, Open and Next do to the greatest word that a memory holds.
-/
import Derived.Test.YtcmhalmmaodmhaaCell4
namespace Go.Proofs.Ytcmhalmmaodmhaa
set_option linter.unusedSimpArgs false
set_option linter.unusedVariables false

/-- A write at a place that there is: it is done, or the power is off behind it. -/
theorem write_cases (s : MS) (i : Nat) (c : Int) (hi : i < s.B.length) :
    ((s.write i c).2 = 0 ∧ (s.write i c).1.B = s.B.set i c ∧ s.off = false ∧ (s.write i c).1.off = false) ∨ ((s.write i c).2 = 70 ∧ (s.write i c).1.B = s.B ∧ (s.write i c).1.off = true) := by
  unfold MS.write
  by_cases h1 : s.off = true
  · rw [if_pos h1]; exact .inr ⟨rfl, rfl, h1⟩
  · rw [if_neg h1, if_neg (by omega)]
    by_cases h2 : s.armed = true ∧ s.left = 0
    · rw [if_pos h2]; exact .inr ⟨rfl, rfl, rfl⟩
    · rw [if_neg h2]; exact .inl ⟨rfl, by simp, by simpa using h1, by simpa using h1⟩

theorem getD_set (l : List Int) (i j : Nat) (c : Int) (hi : i < l.length) : (l.set i c).getD j 0 = if i = j then c else l.getD j 0 := by
  by_cases h : i = j
  · subst h; simp [List.getD, hi]
  · simp [List.getD, List.getElem?_set_ne h, h]

theorem set_bytes {s t : MS} {i : Nat} {c : Int} (h : s.Bytes) (hi : i < s.B.length) (hc : 0 ≤ c ∧ c ≤ 255) (ht : t.B = s.B.set i c) : t.Bytes := by
  intro j
  rw [ht, getD_set _ _ _ _ hi]
  split
  · exact hc
  · exact h j

/-- What a slot's writing leaves. -/
structure Wr (s t : MS) (k : Nat) (W e : Int) : Prop where
  len : t.B.length = s.B.length
  other : ∀ j, j < 5 * k ∨ 5 * k + 5 ≤ j → t.B.getD j 0 = s.B.getD j 0
  bytes : t.Bytes
  slot : (e = 0 ∧ t.off = false ∧ mk t k = 165 ∧ wd t k = W) ∨ (e = 70 ∧ t.off = true ∧ ((∀ j, t.B.getD j 0 = s.B.getD j 0) ∨ mk t k = 0))

theorem wr6_wr (s : MS) (k : Nat) (W : Int) (hk : k ≤ 1) (hl : 10 ≤ s.B.length) (hb : s.Bytes) (hW : 0 ≤ W ∧ W ≤ 4294967295) : Wr s (wr6 s k W).1 k W (wr6 s k W).2 := by
  have i0 : (k : Int) * 5 = ((5 * k : Nat) : Int) := by omega
  have i1 : (k : Int) * 5 + 1 = ((5 * k + 1 : Nat) : Int) := by omega
  have i2 : (k : Int) * 5 + 1 + 1 = ((5 * k + 2 : Nat) : Int) := by omega
  have i3 : (k : Int) * 5 + 1 + 2 = ((5 * k + 3 : Nat) : Int) := by omega
  have i4 : (k : Int) * 5 + 1 + 3 = ((5 * k + 4 : Nat) : Int) := by omega
  unfold wr6
  rw [i2, i3, i4, i1, i0]
  rcases write_cases s (5 * k) 0 (by omega) with ⟨e1, b1, o0, o1⟩ | ⟨e1, b1, o1⟩
  · generalize s.write ((5 * k : Nat) : Int) 0 = r1 at *
    have y1 : r1.1.Bytes := set_bytes hb (by omega) (by omega) b1
    rw [andThen_yes (by simp [e1])]
    rcases write_cases r1.1 (5 * k + 1) (W / 16777216) (by rw [b1]; simp; omega) with ⟨e2, b2, _, o2⟩ | ⟨e2, b2, o2⟩
    · generalize r1.1.write ((5 * k + 1 : Nat) : Int) (W / 16777216) = r2 at *
      have y2 : r2.1.Bytes := set_bytes y1 (by rw [b1]; simp; omega) (by omega) b2
      rw [andThen_yes (by simp [e2])]
      rcases write_cases r2.1 (5 * k + 2) (W / 65536 % 256) (by rw [b2, b1]; simp; omega) with ⟨e3, b3, _, o3⟩ | ⟨e3, b3, o3⟩
      · generalize r2.1.write ((5 * k + 2 : Nat) : Int) (W / 65536 % 256) = r3 at *
        have y3 : r3.1.Bytes := set_bytes y2 (by rw [b2, b1]; simp; omega) (by omega) b3
        rw [andThen_yes (by simp [e3])]
        rcases write_cases r3.1 (5 * k + 3) (W / 256 % 256) (by rw [b3, b2, b1]; simp; omega) with ⟨e4, b4, _, o4⟩ | ⟨e4, b4, o4⟩
        · generalize r3.1.write ((5 * k + 3 : Nat) : Int) (W / 256 % 256) = r4 at *
          have y4 : r4.1.Bytes := set_bytes y3 (by rw [b3, b2, b1]; simp; omega) (by omega) b4
          rw [andThen_yes (by simp [e4])]
          rcases write_cases r4.1 (5 * k + 4) (W % 256) (by rw [b4, b3, b2, b1]; simp; omega) with ⟨e5, b5, _, o5⟩ | ⟨e5, b5, o5⟩
          · generalize r4.1.write ((5 * k + 4 : Nat) : Int) (W % 256) = r5 at *
            have y5 : r5.1.Bytes := set_bytes y4 (by rw [b4, b3, b2, b1]; simp; omega) (by omega) b5
            rw [andThen_yes (by simp [e5])]
            rcases write_cases r5.1 (5 * k) 165 (by rw [b5, b4, b3, b2, b1]; simp; omega) with ⟨e6, b6, _, o6⟩ | ⟨e6, b6, o6⟩
            · generalize r5.1.write ((5 * k : Nat) : Int) 165 = r6 at *
              have y6 : r6.1.Bytes := set_bytes y5 (by rw [b5, b4, b3, b2, b1]; simp; omega) (by omega) b6
              rw [b5, b4, b3, b2, b1] at b6
              refine ⟨by rw [b6]; simp, fun j hj => ?_, y6, .inl ⟨e6, o6, ?_, ?_⟩⟩
              · rw [b6]; repeat rw [getD_set _ _ _ _ (by first | omega | (simp only [List.length_set]; omega))]
                repeat rw [if_neg (by omega)]
              · unfold mk; rw [b6, getD_set _ _ _ _ (by first | omega | (simp only [List.length_set]; omega)), if_pos rfl]
              · unfold wd; rw [b6]
                have g1 : ∀ (c : Int), ((((((s.B.set (5 * k) 0).set (5 * k + 1) (W / 16777216)).set (5 * k + 2) (W / 65536 % 256)).set (5 * k + 3) (W / 256 % 256)).set (5 * k + 4) (W % 256)).set (5 * k) c).getD (5 * k + 1) 0 = W / 16777216 := fun c => by
                  repeat rw [getD_set _ _ _ _ (by first | omega | (simp only [List.length_set]; omega))]
                  simp
                have g2 : ∀ (c : Int), ((((((s.B.set (5 * k) 0).set (5 * k + 1) (W / 16777216)).set (5 * k + 2) (W / 65536 % 256)).set (5 * k + 3) (W / 256 % 256)).set (5 * k + 4) (W % 256)).set (5 * k) c).getD (5 * k + 2) 0 = W / 65536 % 256 := fun c => by
                  repeat rw [getD_set _ _ _ _ (by first | omega | (simp only [List.length_set]; omega))]
                  simp
                have g3 : ∀ (c : Int), ((((((s.B.set (5 * k) 0).set (5 * k + 1) (W / 16777216)).set (5 * k + 2) (W / 65536 % 256)).set (5 * k + 3) (W / 256 % 256)).set (5 * k + 4) (W % 256)).set (5 * k) c).getD (5 * k + 3) 0 = W / 256 % 256 := fun c => by
                  repeat rw [getD_set _ _ _ _ (by first | omega | (simp only [List.length_set]; omega))]
                  simp
                have g4 : ∀ (c : Int), ((((((s.B.set (5 * k) 0).set (5 * k + 1) (W / 16777216)).set (5 * k + 2) (W / 65536 % 256)).set (5 * k + 3) (W / 256 % 256)).set (5 * k + 4) (W % 256)).set (5 * k) c).getD (5 * k + 4) 0 = W % 256 := fun c => by
                  repeat rw [getD_set _ _ _ _ (by first | omega | (simp only [List.length_set]; omega))]
                  simp
                rw [g1, g2, g3, g4]
                omega
            · generalize r5.1.write ((5 * k : Nat) : Int) 165 = r6 at *
              rw [b5, b4, b3, b2, b1] at b6
              refine ⟨by rw [b6]; simp, fun j hj => ?_, fun j => by rw [b6]; have := y5 j; rwa [b5, b4, b3, b2, b1] at this, .inr ⟨e6, o6, .inr ?_⟩⟩
              · rw [b6]; repeat rw [getD_set _ _ _ _ (by first | omega | (simp only [List.length_set]; omega))]
                repeat rw [if_neg (by omega)]
              · unfold mk; rw [b6]; repeat rw [getD_set _ _ _ _ (by first | omega | (simp only [List.length_set]; omega))]
                simp
          · generalize r4.1.write ((5 * k + 4 : Nat) : Int) (W % 256) = r5 at *
            rw [andThen_no (by simp [e5])]
            rw [b4, b3, b2, b1] at b5
            refine ⟨by rw [b5]; simp, fun j hj => ?_, fun j => by rw [b5]; have := y4 j; rwa [b4, b3, b2, b1] at this, .inr ⟨e5, o5, .inr ?_⟩⟩
            · rw [b5]; repeat rw [getD_set _ _ _ _ (by first | omega | (simp only [List.length_set]; omega))]
              repeat rw [if_neg (by omega)]
            · unfold mk; rw [b5]; repeat rw [getD_set _ _ _ _ (by first | omega | (simp only [List.length_set]; omega))]
              simp
        · generalize r3.1.write ((5 * k + 3 : Nat) : Int) (W / 256 % 256) = r4 at *
          rw [andThen_no (by simp [e4])]
          rw [b3, b2, b1] at b4
          refine ⟨by rw [b4]; simp, fun j hj => ?_, fun j => by rw [b4]; have := y3 j; rwa [b3, b2, b1] at this, .inr ⟨e4, o4, .inr ?_⟩⟩
          · rw [b4]; repeat rw [getD_set _ _ _ _ (by first | omega | (simp only [List.length_set]; omega))]
            repeat rw [if_neg (by omega)]
          · unfold mk; rw [b4]; repeat rw [getD_set _ _ _ _ (by first | omega | (simp only [List.length_set]; omega))]
            simp
      · generalize r2.1.write ((5 * k + 2 : Nat) : Int) (W / 65536 % 256) = r3 at *
        rw [andThen_no (by simp [e3])]
        rw [b2, b1] at b3
        refine ⟨by rw [b3]; simp, fun j hj => ?_, fun j => by rw [b3]; have := y2 j; rwa [b2, b1] at this, .inr ⟨e3, o3, .inr ?_⟩⟩
        · rw [b3]; repeat rw [getD_set _ _ _ _ (by first | omega | (simp only [List.length_set]; omega))]
          repeat rw [if_neg (by omega)]
        · unfold mk; rw [b3]; repeat rw [getD_set _ _ _ _ (by first | omega | (simp only [List.length_set]; omega))]
          simp
    · generalize r1.1.write ((5 * k + 1 : Nat) : Int) (W / 16777216) = r2 at *
      rw [andThen_no (by simp [e2])]
      rw [b1] at b2
      refine ⟨by rw [b2]; simp, fun j hj => ?_, fun j => by rw [b2]; have := y1 j; rwa [b1] at this, .inr ⟨e2, o2, .inr ?_⟩⟩
      · rw [b2, getD_set _ _ _ _ (by omega), if_neg (by omega)]
      · unfold mk; rw [b2, getD_set _ _ _ _ (by omega)]
        simp
  · generalize s.write ((5 * k : Nat) : Int) 0 = r1 at *
    rw [andThen_no (by simp [e1])]
    exact ⟨by rw [b1], fun j _ => by rw [b1], fun j => by rw [b1]; exact hb j, .inr ⟨e1, o1, .inl fun j => by rw [b1]⟩⟩

end Go.Proofs.Ytcmhalmmaodmhaa
