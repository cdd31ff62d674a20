/-
  DERIVED. The document's New and Load; the fixed fact of layer 7.
-/
import Derived.Test.YtcmhalmmaodmhaaLib
namespace Go.Proofs.Ytcmhalmmaodmhaa
open Go.RowKit
set_option linter.unusedSimpArgs false
set_option linter.unusedVariables false

theorem fresh_ref {w : World} {a : Option Addr} {cap q : Nat} {xs : List Int} (hb : Bs w (.slice a xs.length cap) q xs) : IsRef (w.alloc (.cells (refCells a cap (MS.fresh xs)) 70)) w.heap.size q (MS.fresh xs) := by
  obtain ⟨a', cap', hv, hl, hr⟩ := hb
  cases hv
  exact ⟨a, cap, Blk.new _ _ _, hl, fun h0 => ⟨(hr h0).1, (hr h0).2.alloc _⟩⟩

theorem rnew_any (n : Nat) (w : World) (hn : n ≤ 4096) :
    Calls Try.prog 26 #[.int .i64 n] w fun e w' => ∃ p q, e = .returned (.tuple #[.pointer (some ⟨p, 0, none⟩), .int .i64 0]) ∧ IsRef w' p q (MS.fresh (List.replicate n 0)) ∧ w.heap.size ≤ p ∧ w.heap.size ≤ q ∧ Chg [] w w' := by
  have hmk := run_make_row' (P := Try.prog) 22 5 (.int .u8 0) 1 Try.underlying22 Try.info5 rfl .i64 .i64 n (by omega) (by omega)
  go_enter Try.func26, Try.ntmps26
  go_wp2
  go_ret2
  have hb : Bs (w.alloc (.cells (madeCells #[.int .u8 0] n) 5)) (.slice (some ⟨w.heap.size, 0, none⟩) (List.replicate n (0 : Int)).length n) w.heap.size (List.replicate n 0) := by
    refine ⟨_, n, rfl, by simp, fun h0 => ⟨rfl, _, Blk.new _ _ _, fun i hi => ?_⟩⟩
    have hi' : i < n := by simpa using hi
    simp [madeCells, hi', Nat.mod_one]
  have := fresh_ref hb
  rw [show refCells (some ⟨w.heap.size, 0, none⟩) n (MS.fresh (List.replicate n 0)) = #[.slice (some ⟨w.heap.size, 0, none⟩) n n, .bool false, .bool false, .int .i64 0, .int .i64 0] by simp [refCells, MS.fresh]] at this
  rw [World.size_alloc] at this
  refine ⟨_, w.heap.size, rfl, this, by simp, Nat.le_refl _, ((Chg.refl _ _).alloc _).alloc _⟩

theorem rnew_bad (n : Int) (w : World) (h : n < 0 ∨ 4096 < n) :
    Calls Try.prog 26 #[.int .i64 n] w fun e w' => e = .returned (.tuple #[.pointer none, .int .i64 2]) ∧ w = w' := by
  by_cases h1 : n < 0
  · go_enter Try.func26, Try.ntmps26
    go_wp2
    go_ret2
    exact ⟨rfl, rfl⟩
  · have h2 : 4096 < n := by omega
    go_enter Try.func26, Try.ntmps26
    go_wp2
    go_ret2
    exact ⟨rfl, rfl⟩

theorem cell_kept {w : World} {x : Addr} {v : Value} (o : Obj) (h : w.cell? x = some v) : (w.alloc o).cell? x = some v := by
  rw [← h]
  refine World.cell?_of_block (w := w) (Below.heap_alloc _ _ _ ?_)
  rcases Nat.lt_or_ge x.block w.heap.size with h' | h'
  · exact h'
  · simp [World.cell?, Array.getElem?_eq_none h'] at h

set_option maxRecDepth 1000000 in
theorem rload_any (a : Option Addr) (n c : Nat) (xs : List Int) (w : World) (hn : xs.length = n) (hcap : n ≤ 4096)
    (hc : 0 < n → ∃ x, a = some x ∧ ∀ i, i < xs.length → w.cell? (x.add i) = some (.int .u8 (xs.getD i 0))) :
    Calls Try.prog 27 #[.slice a n c] w fun e w' => ∃ p q, e = .returned (.tuple #[.pointer (some ⟨p, 0, none⟩), .int .i64 0]) ∧ IsRef w' p q (MS.fresh xs) ∧ w.heap.size ≤ p ∧ w.heap.size ≤ q ∧ Chg [] w w' := by
  subst hn
  have hc' : 0 < xs.length → ∃ x, a = some x ∧ ∀ i, i < xs.length → (w.alloc (.cells #[] 5)).cell? (x.add i) = some (.int .u8 (xs.getD i 0)) :=
    fun h0 => let ⟨x, hx, hcell⟩ := hc h0; ⟨x, hx, fun i hi => cell_kept _ (hcell i hi)⟩
  have HC : Hid _ := hc'
  have hg := Blk.new w #[] 5
  have hcap' : Hid (xs.length ≤ 140737488351232) := by show _ ≤ _; omega
  clear hc hc'
  go_enter Try.func27, Try.ntmps27
  go_wp2_with (at_builtin; refine wpList_bytes rfl _ _ rfl w.heap.size rfl hg a xs.length c rfl xs rfl hcap'.out HC.out ?_; intro cap w1 q hb hq hql hch)
  go_ret2
  have := fresh_ref hb
  exact ⟨_, q, rfl, this, by have := hch.size; simp at this; omega, hq, (((Chg.refl [] w).alloc _).more hch (by simp)).alloc _⟩

theorem rload_bad (a : Option Addr) (n c : Nat) (w : World) (h : 4096 < n) :
    Calls Try.prog 27 #[.slice a n c] w fun e w' => e = .returned (.tuple #[.pointer none, .int .i64 2]) ∧ w = w' := by
  go_enter Try.func27, Try.ntmps27
  go_wp2
  go_ret2
  exact ⟨rfl, rfl⟩

end Go.Proofs.Ytcmhalmmaodmhaa
