/-
  DERIVED. What New and Load make, with both blocks' places; in whatever case.
-/
import Derived.Test.YtcmhalmmaodmhaaAwake2
namespace Go.Proofs.Ytcmhalmmaodmhaa
open Go.RowKit
set_option linter.unusedSimpArgs false
set_option linter.unusedVariables false

/-- Both blocks are new: made between w and w'. -/
def New2 (w w' : World) (p q : Nat) : Prop := w.heap.size ≤ p ∧ w.heap.size ≤ q ∧ p < w'.heap.size ∧ q < w'.heap.size

theorem IsMem.settle {w w' : World} {p q : Nat} {s : MS} (h : IsMem w' p q s) (hp : w.heap.size ≤ p) (hq : w.heap.size ≤ q) : ∃ q', IsMem w' p q' s ∧ New2 w w' p q' := by
  have hl := h.lt
  by_cases h0 : 0 < s.B.length
  · have hh := h
    obtain ⟨a, cap, hb, hle, hr⟩ := hh
    exact ⟨q, h, hp, hq, hl, (hr h0).2.lt⟩
  · obtain ⟨a, cap, hb, hle, hr⟩ := h
    exact ⟨p, ⟨a, cap, hb, hle, fun h1 => absurd h1 h0⟩, hp, hp, hl, hl⟩

theorem IsRef.settle {w w' : World} {p q : Nat} {s : MS} (h : IsRef w' p q s) (hp : w.heap.size ≤ p) (hq : w.heap.size ≤ q) : ∃ q', IsRef w' p q' s ∧ New2 w w' p q' := by
  have hl := h.lt
  by_cases h0 : 0 < s.B.length
  · have hh := h
    obtain ⟨a, cap, hb, hle, hr⟩ := hh
    exact ⟨q, h, hp, hq, hl, (hr h0).2.lt⟩
  · obtain ⟨a, cap, hb, hle, hr⟩ := h
    exact ⟨p, ⟨a, cap, hb, hle, fun h1 => absurd h1 h0⟩, hp, hp, hl, hl⟩

theorem newm (n : Nat) (w : World) (hn : n ≤ 4096) :
    Calls Try.prog 25 #[.int .i64 n] w fun e w' => ∃ p q, e = .returned (.tuple #[.pointer (some ⟨p, 0, none⟩), .int .i64 0]) ∧ IsMem w' p q (MS.fresh (List.replicate n 0)) ∧ New2 w w' p q ∧ Chg [] w w' := by
  refine (new_any n w hn).mono ?_
  rintro e w' ⟨p, q, rfl, h, hp, hq, k⟩
  obtain ⟨q', h2, h3⟩ := h.settle hp hq
  exact ⟨p, q', rfl, h2, h3, k⟩

theorem newr (n : Nat) (w : World) (hn : n ≤ 4096) :
    Calls Try.prog 26 #[.int .i64 n] w fun e w' => ∃ p q, e = .returned (.tuple #[.pointer (some ⟨p, 0, none⟩), .int .i64 0]) ∧ IsRef w' p q (MS.fresh (List.replicate n 0)) ∧ New2 w w' p q ∧ Chg [] w w' := by
  refine (rnew_any n w hn).mono ?_
  rintro e w' ⟨p, q, rfl, h, hp, hq, k⟩
  obtain ⟨q', h2, h3⟩ := h.settle hp hq
  exact ⟨p, q', rfl, h2, h3, k⟩

theorem loadm (a : Option Addr) (n c : Nat) (xs : List Int) (w : World) (hn : xs.length = n) (hcap : n ≤ 4096)
    (hc : 0 < n → ∃ x, a = some x ∧ ∀ i, i < xs.length → w.cell? (x.add i) = some (.int .u8 (xs.getD i 0))) :
    Calls Try.prog 14 #[.slice a n c] w fun e w' => ∃ p q, e = .returned (.tuple #[.pointer (some ⟨p, 0, none⟩), .int .i64 0]) ∧ IsMem w' p q (MS.fresh xs) ∧ New2 w w' p q ∧ Chg [] w w' := by
  refine (load_any a n c xs w hn hcap hc).mono ?_
  rintro e w' ⟨p, q, rfl, h, hp, hq, k⟩
  obtain ⟨q', h2, h3⟩ := h.settle hp hq
  exact ⟨p, q', rfl, h2, h3, k⟩

theorem loadr (a : Option Addr) (n c : Nat) (xs : List Int) (w : World) (hn : xs.length = n) (hcap : n ≤ 4096)
    (hc : 0 < n → ∃ x, a = some x ∧ ∀ i, i < xs.length → w.cell? (x.add i) = some (.int .u8 (xs.getD i 0))) :
    Calls Try.prog 27 #[.slice a n c] w fun e w' => ∃ p q, e = .returned (.tuple #[.pointer (some ⟨p, 0, none⟩), .int .i64 0]) ∧ IsRef w' p q (MS.fresh xs) ∧ New2 w w' p q ∧ Chg [] w w' := by
  refine (rload_any a n c xs w hn hcap hc).mono ?_
  rintro e w' ⟨p, q, rfl, h, hp, hq, k⟩
  obtain ⟨q', h2, h3⟩ := h.settle hp hq
  exact ⟨p, q', rfl, h2, h3, k⟩

theorem keep_cell {w w' : World} {x : Addr} {v : Value} (k : Chg [] w w') (h : w.cell? x = some v) : w'.cell? x = some v := by
  rw [← h]
  refine World.cell?_of_block (w := w) (k.block _ ?_ (by simp))
  rcases Nat.lt_or_ge x.block w.heap.size with h' | h'
  · exact h'
  · simp [World.cell?, Array.getElem?_eq_none h'] at h

theorem bs_src {w : World} {q n cap : Nat} {xs : List Int} (hn : xs.length = n) (h : Bs w (.slice (some ⟨q, 0, none⟩) n cap) q xs) :
    0 < n → ∃ x, some (⟨q, 0, none⟩ : Addr) = some x ∧ ∀ i, i < xs.length → w.cell? (x.add i) = some (.int .u8 (xs.getD i 0)) := by
  obtain ⟨a, c, hv, hl, hr⟩ := h
  intro h0
  obtain ⟨_, hrow⟩ := hr (by omega)
  exact ⟨_, rfl, fun i hi => by rw [add_at, Nat.zero_add]; exact hrow.cell hi⟩

theorem fresh_ok {xs : List Int} (h : xs.length ≤ 4096) : (MS.fresh xs).Ok 0 := ⟨by simp [MS.fresh], by simp [MS.fresh], by simp [MS.fresh], by simp [MS.fresh], h⟩

theorem ok_le {s : MS} {W V : Int} (h : s.Ok W) (hl : W ≤ V) : s.Ok V := ⟨h.l0, h.l1, h.w0, by have := h.w1; omega, h.len⟩

theorem old_cell {w : World} {as_ : Option Addr} {ls : Nat} {b off : Nat} {ks is cs' : Nat → Int} {k : Nat}
    (hs : 0 < ls → ∃ b' off', some (⟨b, off, none⟩ : Addr) = some ⟨b', off', none⟩ ∧ ∀ i, i < ls → w.cell? ⟨b', off' + i * 3, none⟩ = some (.int .i64 (ks i)) ∧ w.cell? ⟨b', off' + i * 3 + 1, none⟩ = some (.int .i64 (is i)) ∧ w.cell? ⟨b', off' + i * 3 + 2, none⟩ = some (.int .u8 (cs' i)) ∧ is i ≤ 9223372036854775807) (hk : k < ls) :
    ∃ v, w.cell? ⟨b, off + k * 3, none⟩ = some v := by
  obtain ⟨b', off', he, h⟩ := hs (by omega)
  cases he
  exact ⟨_, (h k hk).1⟩

end Go.Proofs.Ytcmhalmmaodmhaa
