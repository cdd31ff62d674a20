/-
  DERIVED. The walk of CellPlays.
-/
import Derived.Test.YtcmhalmmaodmhaaRCell6
import Derived.Test.YtcmhalmmaodmhaaRises
import Derived.Deep.RegionHeld3
namespace Go.Proofs.Ytcmhalmmaodmhaa
open Go.RowKit
set_option linter.unusedSimpArgs false
set_option linter.unusedVariables false

/-- A memory of so many bytes. -/
structure Fit (s : MS) (N : Nat) (W : Int) : Prop where
  len : s.B.length = N
  bytes : s.Bytes
  ok : s.Ok W

theorem Fit.le {s : MS} {N : Nat} {W V : Int} (h : Fit s N W) (hl : W ≤ V) : Fit s N V := ⟨h.len, h.bytes, ok_le h.ok hl⟩

theorem Fit.open {s : MS} {N : Nat} {W mx : Int} (h : Fit s N W) : Fit (openR s mx).1 N (W + 6) ∧ ((openR s mx).2 = 0 → 10 ≤ N) := by
  by_cases h1 : mx = 0 ∨ s.B.length < 10
  · have E : openR s mx = (s, 2) := by unfold openR; rw [if_pos h1]
    rw [E]; exact ⟨h.le (by omega), fun h => nomatch h⟩
  · have hl := open_left (s := s) (mx := mx) (by omega) h.bytes (by omega)
    exact ⟨⟨hl.1.len.trans h.len, hl.1.bytes, (kl_open s mx).ok _ h.ok⟩, fun _ => by have := h.len; omega⟩

theorem Fit.next {s : MS} {N : Nat} {W v : Int} (h : Fit s N W) (hN : 10 ≤ N) (h0 : 0 ≤ v) (h1 : v < 4294967295) : Fit (nextR s v).1 N (W + 6) := by
  have hw := wr6_wr s (spareP s).toNat (v + 1) (by rcases spareP_or s with h | h <;> rw [h] <;> decide) (by rw [h.len]; exact hN) h.bytes (by omega)
  exact ⟨hw.len.trans h.len, hw.bytes, (kp_next s v).ok _ h.ok⟩

theorem Fit.arm {s : MS} {N : Nat} {W n : Int} (h : Fit s N W) (hn : n ≤ 9223372036854775807) : Fit (s.arm n).1 N W := by
  unfold MS.arm
  split
  · exact h
  · exact ⟨h.len, h.bytes, ⟨by show 0 ≤ n; omega, hn, h.ok.w0, h.ok.w1, h.ok.len⟩⟩

theorem Fit.on {s : MS} {N : Nat} {W : Int} (h : Fit s N W) : Fit s.on N W := ⟨h.len, h.bytes, ⟨h.ok.l0, h.ok.l1, h.ok.w0, h.ok.w1, h.ok.len⟩⟩

/-- The two cells: none of both, or both in the same state; made from block lo on. -/
inductive Pr (w : World) (p p' lo N : Nat) (mx : Int) : Value → Value → Prop
  | no : Pr w p p' lo N mx (.pointer none) (.pointer none)
  | yes (c d : Nat) (v : Int) (dead : Bool) (hc : IsCell w c p mx v dead) (hd : IsRCell w d p' mx v dead) (h1 : lo ≤ c) (h2 : lo ≤ d) (h3 : 0 ≤ v ∧ v ≤ 4294967295) (h4 : 10 ≤ N) :
      Pr w p p' lo N mx (.pointer (some ⟨c, 0, none⟩)) (.pointer (some ⟨d, 0, none⟩))

theorem Pr.keep {w w' : World} {p p' lo N : Nat} {mx : Int} {x y : Value} {bs : List Nat} (h : Pr w p p' lo N mx x y) (k : Chg bs w w') (hb : ∀ b ∈ bs, b < lo) : Pr w' p p' lo N mx x y := by
  cases h with
  | no => exact .no
  | yes c d v dead hc hd h1 h2 h3 h4 =>
    exact .yes c d v dead (k.blk hc (fun h => by have := hb _ h; omega)) (k.blk hd (fun h => by have := hb _ h; omega)) h1 h2 h3 h4

/-- All that the walk keeps. -/
structure Inv (w : World) (p q p' q' lo N : Nat) (mx W : Int) (s : MS) (x y : Value) : Prop where
  m : IsMem w p q s
  r : IsRef w p' q' s
  fit : Fit s N W
  pr : Pr w p p' lo N mx x y

/-- What the program's Open leaves. -/
def OC (w : World) (lo p : Nat) (mx : Int) (s : MS) (x : Value) : Prop :=
  ((openR s mx).2 = 0 ∧ ∃ c, x = .pointer (some ⟨c, 0, none⟩) ∧ IsCell w c p mx (openV s) false ∧ lo ≤ c) ∨ ((openR s mx).2 ≠ 0 ∧ x = .pointer none)
/-- What the document's Open leaves. -/
def OD (w : World) (lo p : Nat) (mx : Int) (s : MS) (x : Value) : Prop :=
  ((openR s mx).2 = 0 ∧ ∃ c, x = .pointer (some ⟨c, 0, none⟩) ∧ IsRCell w c p mx (openV s) false ∧ lo ≤ c) ∨ ((openR s mx).2 ≠ 0 ∧ x = .pointer none)

theorem OC.keep {w w' : World} {lo p : Nat} {mx : Int} {s : MS} {x : Value} {bs : List Nat} (h : OC w lo p mx s x) (k : Chg bs w w') (hb : ∀ b ∈ bs, b < lo) : OC w' lo p mx s x := by
  rcases h with ⟨h0, c, h1, h2, h3⟩ | h
  · exact .inl ⟨h0, c, h1, k.blk h2 (fun h => by have := hb _ h; omega), h3⟩
  · exact .inr h

theorem pr_of {w : World} {lo p p' N : Nat} {mx : Int} {s : MS} {x y : Value} (h : OC w lo p mx s x) (k : OD w lo p' mx s y) (hb : s.Bytes) (hN : (openR s mx).2 = 0 → 10 ≤ N) : Pr w p p' lo N mx x y := by
  rcases h with ⟨h0, c, rfl, hc, hl⟩ | ⟨h0, rfl⟩
  · rcases k with ⟨_, d, rfl, hd, hl'⟩ | ⟨k0, _⟩
    · exact .yes c d _ false hc hd hl hl' (openV_bd hb) (hN h0)
    · exact absurd h0 k0
  · rcases k with ⟨k0, _⟩ | ⟨_, rfl⟩
    · exact absurd k0 h0
    · exact .no

theorem open32 (lo p q : Nat) (s : MS) (mx : Int) (w : World) (h : IsMem w p q s) (hq : q < lo) (hl : lo ≤ w.heap.size) (hok : s.Ok 50000) (hb : s.Bytes) :
    Calls Try.prog 32 #[.pointer (some ⟨p, 0, none⟩), .int .u32 mx] w fun e w' => ∃ x, e = .returned (.tuple #[x, .int .i64 (openR s mx).2]) ∧ OC w' lo p mx s x ∧ IsMem w' p q (openR s mx).1 ∧ Chg [p, q] w w' := by
  refine (open_any p q s mx w h (by omega) (ok_le hok (by omega)) hb).mono ?_
  rintro e w' ⟨ho, hm, hg⟩
  rcases ho with ⟨h0, c, he, hc, hlc⟩ | ⟨h0, he⟩
  · exact ⟨_, by rw [he, h0], .inl ⟨h0, c, rfl, hc, by omega⟩, hm, hg⟩
  · exact ⟨_, he, .inr ⟨h0, rfl⟩, hm, hg⟩

theorem open34 (lo p q : Nat) (s : MS) (mx : Int) (w : World) (h : IsRef w p q s) (hq : q < lo) (hl : lo ≤ w.heap.size) (hok : s.Ok 50000) (hb : s.Bytes) :
    Calls Try.prog 34 #[.pointer (some ⟨p, 0, none⟩), .int .u32 mx] w fun e w' => ∃ x, e = .returned (.tuple #[x, .int .i64 (openR s mx).2]) ∧ OD w' lo p mx s x ∧ IsRef w' p q (openR s mx).1 ∧ Chg [p, q] w w' := by
  refine (ropen_all p q s mx w h (by omega) hok hb).mono ?_
  rintro e w' ⟨ho, hm, hg⟩
  rcases ho with ⟨h0, c, he, hc, hlc⟩ | ⟨h0, he⟩
  · exact ⟨_, by rw [he, h0], .inl ⟨h0, c, rfl, hc, by omega⟩, hm, hg⟩
  · exact ⟨_, he, .inr ⟨h0, rfl⟩, hm, hg⟩

/-- What Next answers and leaves: the answer, the cell, the memory. -/
structure NX where
  a : Int
  g : Int
  v : Int
  dead : Bool
  s : MS
def nx (s : MS) (mx v : Int) (dead : Bool) : NX :=
  if dead = true ∨ s.off = true then ⟨0, 70, v, dead, s⟩ else if mx ≤ v then ⟨0, 80, v, dead, s⟩
  else if (nextR s v).2 = 0 then ⟨v + 1, 0, v + 1, false, (nextR s v).1⟩ else ⟨0, 70, v, true, (nextR s v).1⟩

theorem Fit.nx {s : MS} {N : Nat} {W mx v : Int} {dead : Bool} (h : Fit s N W) (hN : 10 ≤ N) (h0 : 0 ≤ v ∧ v ≤ 4294967295) (hm : mx ≤ 4294967295) :
    Fit (nx s mx v dead).s N (W + 6) ∧ 0 ≤ (nx s mx v dead).v ∧ (nx s mx v dead).v ≤ 4294967295 := by
  unfold Go.Proofs.Ytcmhalmmaodmhaa.nx
  by_cases h1 : dead = true ∨ s.off = true
  · rw [if_pos h1]; exact ⟨h.le (by omega), h0⟩
  · rw [if_neg h1]
    by_cases h2 : mx ≤ v
    · rw [if_pos h2]; exact ⟨h.le (by omega), h0⟩
    · rw [if_neg h2]
      have hf := h.next (v := v) hN h0.1 (by omega)
      split
      · exact ⟨hf, by show 0 ≤ v + 1; omega, by show v + 1 ≤ _; omega⟩
      · exact ⟨hf, h0⟩

theorem next31 (c p q : Nat) (s : MS) (mx v : Int) (dead : Bool) (N : Nat) (w : World) (hc : IsCell w c p mx v dead) (hm : IsMem w p q s) (hcp : c ≠ p) (hcq : c ≠ q) (hf : Fit s N 50000) (hN : 10 ≤ N) (h0 : 0 ≤ v) (hmx : mx ≤ 4294967295) :
    Calls Try.prog 31 #[.pointer (some ⟨c, 0, none⟩)] w fun e w' => e = .returned (.tuple #[.int .u32 (nx s mx v dead).a, .int .i64 (nx s mx v dead).g]) ∧ IsCell w' c p mx (nx s mx v dead).v (nx s mx v dead).dead ∧ IsMem w' p q (nx s mx v dead).s ∧ Chg [p, q, c] w w' := by
  unfold nx
  by_cases h1 : dead = true ∨ s.off = true
  · rw [if_pos h1]
    refine (next_cut c p q s mx v dead w hc hm h1).mono ?_
    rintro e w' ⟨rfl, rfl⟩
    exact ⟨rfl, hc, hm, Chg.refl _ _⟩
  · rw [if_neg h1]
    have hd : dead = false := by cases dead <;> simp_all
    have ho : s.off = false := by cases h : s.off <;> simp_all
    subst hd
    by_cases h2 : mx ≤ v
    · rw [if_pos h2]
      refine (next_full c p q s mx v w hc hm ho h2).mono ?_
      rintro e w' ⟨rfl, n, rfl⟩
      exact ⟨rfl, hc.drewN n, hm.keep ((Chg.refl [] w).drewN n) (by simp) (by simp), (Chg.refl _ w).drewN n⟩
    · rw [if_neg h2]
      refine (next_some c p q s mx v w hc hm hcq ho (by omega) h0 hmx (by rw [hf.len]; exact hN) (ok_le hf.ok (by omega)) hf.bytes).mono ?_
      rintro e w' ⟨hn, hm2, hg⟩
      rcases hn with ⟨e0, rfl, hc2⟩ | ⟨e0, rfl, hc2⟩
      · rw [if_pos e0]; exact ⟨rfl, hc2, hm2, hg⟩
      · rw [if_neg e0]; exact ⟨rfl, hc2, hm2, hg⟩

theorem next35 (c p q : Nat) (s : MS) (mx v : Int) (dead : Bool) (N : Nat) (w : World) (hc : IsRCell w c p mx v dead) (hm : IsRef w p q s) (hcp : c ≠ p) (hcq : c ≠ q) (hq : q < w.heap.size) (hf : Fit s N 50000) (hN : 10 ≤ N) (h0 : 0 ≤ v) (hmx : mx ≤ 4294967295) :
    Calls Try.prog 35 #[.pointer (some ⟨c, 0, none⟩)] w fun e w' => e = .returned (.tuple #[.int .u32 (nx s mx v dead).a, .int .i64 (nx s mx v dead).g]) ∧ IsRCell w' c p mx (nx s mx v dead).v (nx s mx v dead).dead ∧ IsRef w' p q (nx s mx v dead).s ∧ Chg [p, q, c] w w' := by
  unfold nx
  by_cases h1 : dead = true ∨ s.off = true
  · rw [if_pos h1]
    refine (rnext_cut c p q s mx v dead w hc hm h1).mono ?_
    rintro e w' ⟨rfl, rfl⟩
    exact ⟨rfl, hc, hm, Chg.refl _ _⟩
  · rw [if_neg h1]
    have hd : dead = false := by cases dead <;> simp_all
    have ho : s.off = false := by cases h : s.off <;> simp_all
    subst hd
    by_cases h2 : mx ≤ v
    · rw [if_pos h2]
      refine (rnext_full c p q s mx v w hc hm ho h2).mono ?_
      rintro e w' ⟨rfl, n, rfl⟩
      exact ⟨rfl, hc.drewN n, hm.keep ((Chg.refl [] w).drewN n) (by simp) (by simp), (Chg.refl _ w).drewN n⟩
    · rw [if_neg h2]
      refine (rnext_some c p q s mx v w hc hm hcq hq ho (by omega) h0 hmx (by rw [hf.len]; exact hN) (ok_le hf.ok (by omega)) hf.bytes).mono ?_
      rintro e w' ⟨hn, hm2, hg⟩
      rcases hn with ⟨e0, rfl, hc2⟩ | ⟨e0, rfl, hc2⟩
      · rw [if_pos e0]; exact ⟨rfl, hc2, hm2, hg⟩
      · rw [if_neg e0]; exact ⟨rfl, hc2, hm2, hg⟩

end Go.Proofs.Ytcmhalmmaodmhaa
