/-
  DERIVED. A map of data units: deleting, and going through it while entries are deleted.
-/
import Derived.Test.YtmggfdhlbjlpjaaMap
import Derived.Maps.RangeRun
namespace Go.Proofs.Ytmggfdhlbjlpjaa
open Go.RowKit
open Go.ChangeMaps (setBlock)
set_option linter.unusedSimpArgs false
set_option linter.unusedVariables false

theorem nodup_at {α : Type} {l : List α} (h : l.Nodup) {i j : Nat} (hi : i < l.length) (hj : j < l.length) (e : l[i] = l[j]) : i = j := by
  rcases Nat.lt_trichotomy i j with h' | h' | h'
  · exact absurd e (List.pairwise_iff_getElem.1 h i j hi hj h')
  · exact h'
  · exact absurd e.symm (List.pairwise_iff_getElem.1 h j i hj hi h')
theorem map_erase {α β : Type} (f : α → β) : ∀ (l : List α) (i : Nat), (l.eraseIdx i).map f = (l.map f).eraseIdx i
  | [], i => by simp
  | a :: l, 0 => by simp
  | a :: l, i + 1 => by simp [map_erase f l i]
theorem nodup_of_map {α β : Type} (f : α → β) {l : List α} (h : (l.map f).Nodup) : l.Nodup := by
  rw [List.Nodup, List.pairwise_map] at h
  exact h.imp fun h e => h (by rw [e])

/-- On the way through a map: what is there now, and which births were seen. -/
structure It (w : World) (b r : Nat) (ck : Nat) (L : List (Key × Nat)) (seen : Array Nat) : Prop where
  m : MapB w b (entries L).toArray ck
  i : w.heap[r]? = some (.mapIter (some b) ck seen ck)
  n1 : (L.map (·.1)).Nodup
  n2 : (L.map (·.2)).Nodup
  lt : ∀ p ∈ L, p.2 < ck

theorem It.ne {w : World} {b r ck : Nat} {L : List (Key × Nat)} {seen : Array Nat} (h : It w b r ck L seen) : r ≠ b := by
  rintro rfl
  have := h.m
  unfold MapB at this
  rw [h.i] at this
  cases this

theorem It.keep {w w' : World} {b r ck : Nat} {L : List (Key × Nat)} {seen : Array Nat} {O : Nat → Prop} (h : It w b r ck L seen) (k : Fr O w w') (hb : ¬ O b) (hr : ¬ O r) : It w' b r ck L seen :=
  ⟨k.get h.m hb, k.get h.i hr, h.n1, h.n2, h.lt⟩

/-- How many are still to come. -/
def left (L : List (Key × Nat)) (seen : Array Nat) : Nat := (L.filter fun p => !seen.contains p.2).length

theorem run_range {w : World} {b : Nat} {ks : List Key} (h : IsMap w b ks) :
    ∃ ck L, (Instr.range 59 (.map (some b))).run Try.prog w = .ok (.pointer (some ⟨w.heap.size, 0, none⟩)) (w.alloc (.mapIter (some b) ck #[] ck)) ∧ It (w.alloc (.mapIter (some b) ck #[] ck)) b w.heap.size ck L #[] ∧ ∀ k, k ∈ L.map (·.1) ↔ k ∈ ks := by
  have hlt := h.lt
  obtain ⟨L, ck, h1, h2, h3, h4, h5⟩ := h
  refine ⟨ck, L, ?_, ⟨?_, ?_, h2, h3, h4⟩, h5⟩
  · unfold MapB at h1
    unfold Instr.range
    simp only [Sem.run_bind, run_underlying Try.underlying59, Result.andThen_ok, MapKept.run_getObj_map h1, Sem.run_pure]
    rfl
  · exact ((Fr.refl No w).alloc _).get h1 id
  · show (w.heap.push _)[w.heap.size]? = _
    simp

theorem leftOf_entries (L : List (Key × Nat)) (seen : Array Nat) : leftOf (entries L).toArray seen = (entries (L.filter fun p => !seen.contains p.2)).toArray := by
  unfold leftOf entries
  simp [List.filter_map, Function.comp_def]

theorem run_next {w : World} {b r ck : Nat} {L : List (Key × Nat)} {seen : Array Nat} (h : It w b r ck L seen) (ty : TypeId) :
    ((∀ p ∈ L, seen.contains p.2 = true) ∧ (Instr.next (.pointer (some ⟨r, 0, none⟩)) false ty).run Try.prog w = .ok (.tuple #[.bool false]) w) ∨
    ∃ p ∈ L, ∃ w', seen.contains p.2 = false ∧ (Instr.next (.pointer (some ⟨r, 0, none⟩)) false ty).run Try.prog w = .ok (.tuple #[.bool true, keyV p.1, .bool true]) w' ∧ It w' b r ck L (seen.push p.2) ∧
      (Instr.entry (.pointer (some ⟨r, 0, none⟩))).run Try.prog w' = .ok (.tuple #[keyV p.1, .bool true]) w' ∧ Fr (fun x => x = r) w w' ∧ w'.heap.size = w.heap.size := by
  have hold : ∀ x ∈ (entries L).toArray.toList, x.born < ck := by
    intro x hx
    simp only [entries, List.mem_map] at hx
    obtain ⟨p, hp, rfl⟩ := hx
    exact h.lt p hp
  rcases run_next_at (P := Try.prog) w ty r b ck ck seen (entries L).toArray ck h.i h.m hold (Nat.le_refl _) with ⟨h0, hrun⟩ | ⟨e, he, w1, hw1, hrun⟩
  · left
    refine ⟨fun p hp => ?_, hrun⟩
    rw [leftOf_entries] at h0
    simp [entries] at h0
    cases hs : seen.contains p.2 with
    | true => rfl
    | false => exact absurd (by simpa using hs) (by have := h0 p.1 p.2 hp; simpa using this)
  · right
    rw [leftOf_entries] at he
    simp only [entries, List.mem_map, List.mem_filter] at he
    obtain ⟨p, ⟨hp, hs⟩, rfl⟩ := he
    have hr1 : w1.heap = w.heap := by rcases hw1 with rfl | rfl <;> rfl
    have hi1 : (setBlock w1 r (.mapIter (some b) ck (seen.push p.2) ck)).heap[r]? = some (.mapIter (some b) ck (seen.push p.2) ck) := by
      refine setBlock_get _ ?_
      rw [hr1]; exact lt_of_heap h.i
    have hb1 : (setBlock w1 r (.mapIter (some b) ck (seen.push p.2) ck)).heap[b]? = some (.map (entries L).toArray ck) := by
      show (w1.heap.setIfInBounds r _)[b]? = _
      rw [Array.getElem?_setIfInBounds_ne h.ne, hr1]
      exact h.m
    refine ⟨p, hp, _, by simpa using hs, hrun, ⟨hb1, hi1, h.n1, h.n2, h.lt⟩, ?_, ?_, ?_⟩
    · have hn : ((entries L).toArray.toList.map (·.born)).Nodup := by
        have : (entries L).toArray.toList.map (·.born) = L.map (·.2) := by simp [entries, Function.comp_def]
        rw [this]; exact h.n2
      have hmem : (⟨keyV p.1, .bool true, p.2⟩ : MapEntry) ∈ (entries L).toArray.toList := by
        simp only [entries, List.mem_map]
        exact ⟨p, hp, rfl⟩
      exact run_entry_at (P := Try.prog) _ r b ck seen (entries L).toArray ck ⟨keyV p.1, .bool true, p.2⟩ hi1 hb1 hmem hn
    · have f1 : Fr (fun x => x = r) w w1 := by rcases hw1 with rfl | rfl; exact Fr.refl _ _; exact (Fr.refl _ w).drew
      exact f1.trans (setBlock_fr _ _ _)
    · show (w1.heap.setIfInBounds r _).size = _
      simp [hr1]

theorem at?_index {L : List (Key × Nat)} (hn : (L.map (·.1)).Nodup) {p : Key × Nat} (hp : p ∈ L) : ∃ j, at? p.1 L 0 = some (j, .bool true) ∧ ∃ hj : j < L.length, L[j] = p := by
  obtain ⟨j, h1, h2, h3⟩ := at?_some (k := p.1) (i := 0) (List.mem_map.2 ⟨p, hp, rfl⟩)
  refine ⟨j, by simpa using h1, h2, ?_⟩
  obtain ⟨i, hi, rfl⟩ := List.getElem_of_mem hp
  simp [h2] at h3
  have : (L.map (·.1))[j]'(by simpa using h2) = (L.map (·.1))[i]'(by simpa using hi) := by simpa using h3
  have := nodup_at hn _ _ this
  subst this
  rfl

set_option maxRecDepth 100000 in
/-- The entry is deleted. -/
theorem run_delete {w : World} {b r ck : Nat} {L : List (Key × Nat)} {seen : Array Nat} (h : It w b r ck L seen) {p : Key × Nat} (hp : p ∈ L) (ty : TypeId) :
    ∃ w' L', (Builtin.delete_ #[59, 75] ty #[.map (some b), keyV p.1]).run Try.prog w = .ok (.tuple #[]) w' ∧ It w' b r ck L' seen ∧ (∀ q, q ∈ L' ↔ q ∈ L ∧ q ≠ p) ∧ (L'.filter fun q => !seen.contains q.2).length ≤ (L.filter fun q => !seen.contains q.2).length ∧ Fr (fun x => x = b) w w' := by
  obtain ⟨j, hj, hjl, hjp⟩ := at?_index h.n1 hp
  have hm := h.m
  unfold MapB at hm
  have hlt := lt_of_heap hm
  have hnd : L.Nodup := nodup_of_map (·.1) h.n1
  refine ⟨{ w with heap := w.heap.setIfInBounds b (.map (entries (L.eraseIdx j)).toArray ck) }, L.eraseIdx j, ?_, ⟨setBlock_get _ hlt, ?_, ?_, ?_, ?_⟩, ?_, ?_, setBlock_fr _ _ _⟩
  · have e : (entries L).toArray.eraseIdxIfInBounds j = (entries (L.eraseIdx j)).toArray := by
      simp [entries, map_erase]
    rw [List.eraseIdxIfInBounds_toArray] at e
    simp only [Builtin.delete_]
    simp [e, Sem.run_bind, run_underlying Try.underlying59, Result.andThen_ok, MapKept.run_getObj_map hm, run_checkKey, run_findKey, hj, MapKept.run_setObj_map _ hm, Sem.run_pure]
  · show (w.heap.setIfInBounds b _)[r]? = _
    rw [Array.getElem?_setIfInBounds_ne (fun e => h.ne e.symm)]
    exact h.i
  · rw [map_erase]; exact h.n1.sublist (List.eraseIdx_sublist _ _)
  · rw [map_erase]; exact h.n2.sublist (List.eraseIdx_sublist _ _)
  · intro q hq; exact h.lt q (List.mem_of_mem_eraseIdx hq)
  · intro q
    rw [List.mem_eraseIdx_iff_getElem]
    constructor
    · rintro ⟨i, hi, hne, rfl⟩
      refine ⟨List.getElem_mem _, fun e => hne ?_⟩
      exact nodup_at hnd hi hjl (by rw [e, hjp])
    · rintro ⟨hq, hne⟩
      obtain ⟨i, hi, rfl⟩ := List.getElem_of_mem hq
      exact ⟨i, hi, fun e => hne (by subst e; exact hjp), rfl⟩
  · exact (List.Sublist.filter _ (List.eraseIdx_sublist _ _)).length_le

end Go.Proofs.Ytmggfdhlbjlpjaa
