/-
  DERIVED. The walks of package ghost: an end: tick, anew.
-/
import Derived.Test.YtmggfdhlbjlpjaaMap
import Derived.BigRegion
import Derived.Outline
import Derived.Test.YtmggfdhlbjlpjaaMap2
namespace Go.Proofs.Ytmggfdhlbjlpjaa
open Go.RowKit
set_option linter.unusedSimpArgs false
set_option linter.unusedVariables false

/-- The cells of an end; v is its value, as a slice. -/
def endCells (x : EndP) (v : Value) : List Value :=
  [.int .i64 x.watch, .int .u32 x.session, .int .u32 x.number, .bool x.took, v, .int .u32 x.inn, .int .i64 x.since, .int .i64 x.latched, .bool x.fresh, .bool x.acked]

/-- From place o on these cells are an end. -/
def EndCs (cs : Array Value) (o : Nat) (x : EndP) (v : Value) : Prop := ∀ k, k < 10 → cs[o + k]? = (endCells x v)[k]?

theorem EndCs.set {cs : Array Value} {o : Nat} {x x' : EndP} {v v' : Value} (h : EndCs cs o x v) (k : Nat) (c : Value) (hk : k < 10) (hx : endCells x' v' = (endCells x v).set k c) :
    EndCs (cs.setIfInBounds (o + k) c) o x' v' := by
  intro j hj
  rw [hx, Array.getElem?_setIfInBounds]
  have h0 := h k hk
  have hl : (endCells x v).length = 10 := rfl
  by_cases e : k = j
  · subst e
    have hs : o + k < cs.size := by
      rcases Nat.lt_or_ge (o + k) cs.size with h | h
      · exact h
      · rw [Array.getElem?_eq_none h, List.getElem?_eq_getElem (by omega)] at h0; cases h0
    rw [if_pos rfl, if_pos hs, List.getElem?_set_self (by omega)]
  · rw [if_neg (by omega), List.getElem?_set_ne e]
    exact h j hj

/-- What a call on an end leaves: another end at o, all else in the block as it was, and no other old block changed. -/
def EndTo (w w' : World) (q : Nat) (cs : Array Value) (o : Nat) (x : EndP) (v : Value) : Prop :=
  ∃ cs', Blk w' q cs' 64 ∧ EndCs cs' o x v ∧ (∀ k, k < o ∨ o + 10 ≤ k → cs'[k]? = cs[k]?) ∧ Fr (fun b => b = q) w w'

section
variable {w w' : World} {q o : Nat} {cs : Array Value} {x x' : EndP} {v v' : Value}
theorem EndTo.refl (hb : Blk w q cs 64) (h : EndCs cs o x v) : EndTo w w q cs o x v := ⟨cs, hb, h, fun _ _ => rfl, Fr.refl _ _⟩
theorem EndTo.drew (h : EndTo w w' q cs o x v) : EndTo w w'.drew q cs o x v := let ⟨cs', a, b, c, d⟩ := h; ⟨cs', a, b, c, d.drew⟩
theorem EndTo.drewN (h : EndTo w w' q cs o x v) (n : Nat) : EndTo w (w'.drewN n) q cs o x v := let ⟨cs', a, b, c, d⟩ := h; ⟨cs', a, b, c, d.drewN n⟩
theorem EndTo.fr {w'' : World} (h : EndTo w w' q cs o x v) (k : Fr No w' w'') : EndTo w w'' q cs o x v := let ⟨cs', a, b, c, d⟩ := h; ⟨cs', k.blk a id, b, c, d.more k fun _ h _ => h.elim⟩
theorem EndTo.alloc (h : EndTo w w' q cs o x v) (ob : Obj) : EndTo w (w'.alloc ob) q cs o x v := h.fr ((Fr.refl No w').alloc ob)
theorem EndTo.set (h : EndTo w w' q cs o x v) (k : Nat) (c : Value) (hk : k < 10) (hx : endCells x' v' = (endCells x v).set k c) : EndTo w (w'.setCell ⟨q, o + k, none⟩ c) q cs o x' v' := by
  obtain ⟨cs', a, b, e, d⟩ := h
  refine ⟨_, a.set _ _, b.set k c hk hx, fun j hj => ?_, d.setCell (fun _ => rfl) c⟩
  rw [Array.getElem?_setIfInBounds, if_neg (by omega)]
  exact e j hj

theorem EndTo.free (h : EndTo w w' q cs o x v) (k : Nat) : w'.frozen? ⟨q, o + k, none⟩ = false := let ⟨_, a, _⟩ := h; a.free _

theorem EndTo.frq (h : EndTo w w' q cs o x v) : Fr (fun b => b = q) w w' := let ⟨_, _, _, _, d⟩ := h; d

theorem EndTo.c4 (h : EndTo w w' q cs o x v) : w'.cell? ⟨q, o + 4, none⟩ = some v := let ⟨_, a, b, _⟩ := h; by rw [a.cell]; exact b 4 (by omega)
theorem EndTo.c5 (h : EndTo w w' q cs o x v) : w'.cell? ⟨q, o + 5, none⟩ = some (.int .u32 x.inn) := let ⟨_, a, b, _⟩ := h; by rw [a.cell]; exact b 5 (by omega)

/-- The facts on cells that a walk wants. -/
theorem end_cells (hb : Blk w q cs 64) (h : EndCs cs o x v) :
    w.cell? ⟨q, o, none⟩ = some (.int .i64 x.watch) ∧ w.cell? ⟨q, o + 1, none⟩ = some (.int .u32 x.session) ∧ w.cell? ⟨q, o + 2, none⟩ = some (.int .u32 x.number) ∧ w.cell? ⟨q, o + 3, none⟩ = some (.bool x.took) ∧
    w.cell? ⟨q, o + 4, none⟩ = some v ∧ w.cell? ⟨q, o + 5, none⟩ = some (.int .u32 x.inn) ∧ w.cell? ⟨q, o + 6, none⟩ = some (.int .i64 x.since) ∧ w.cell? ⟨q, o + 7, none⟩ = some (.int .i64 x.latched) ∧
    w.cell? ⟨q, o + 8, none⟩ = some (.bool x.fresh) ∧ w.cell? ⟨q, o + 9, none⟩ = some (.bool x.acked) := by
  refine ⟨?_, ?_, ?_, ?_, ?_, ?_, ?_, ?_, ?_, ?_⟩
  · rw [hb.cell]; exact h 0 (by omega)
  · rw [hb.cell]; exact h 1 (by omega)
  · rw [hb.cell]; exact h 2 (by omega)
  · rw [hb.cell]; exact h 3 (by omega)
  · rw [hb.cell]; exact h 4 (by omega)
  · rw [hb.cell]; exact h 5 (by omega)
  · rw [hb.cell]; exact h 6 (by omega)
  · rw [hb.cell]; exact h 7 (by omega)
  · rw [hb.cell]; exact h 8 (by omega)
  · rw [hb.cell]; exact h 9 (by omega)
end

set_option maxRecDepth 100000 in
theorem tick_any (q o : Nat) (x : EndP) (v : Value) (cs : Array Value) (n N : Int) (w : World) (hb : Blk w q cs 64) (hE : EndCs cs o x v) (hok : x.Ok N) (hN : N ≤ 2000) (hn : 0 ≤ n ∧ n ≤ 4294967295) :
    Calls Try.prog 22 #[.pointer (some ⟨q, o, none⟩), .int .i64 n] w fun e w' => e = .returned (.tuple #[]) ∧ EndTo w w' q cs o (x.tick n) v := by
  obtain ⟨c0, c1, c2, c3, c4, c5, c6, c7, c8, c9⟩ := end_cells hb hE
  have f6 := hb.free (o + 6)
  have f8 := hb.free (o + 8)
  have hr := EndTo.refl hb hE
  have b1 : -9223372036854775808 ≤ x.since := by have := hok.s; have := hok.w0; omega
  have b2 : x.since ≤ 8589934592000 := by have := hok.n; omega
  have b3 := hok.w0
  have b4 := hok.w1
  have hx : IntKind.i64.wrap (x.since + n) = x.since + n := IntWalk.i64_in _ (by omega)
  have HX : Hid (IntKind.i64.wrap (x.since + n) = x.since + n) := hx
  by_cases h : x.watch ≤ x.since + n
  · have hm : ¬ (x.since + n < x.watch) := by omega
    have HT : Hid (x.tick n = { ({ x with since := x.watch } : EndP) with fresh := false }) := by
      show _ = _; unfold EndP.tick; rw [if_pos h, Int.min_eq_left h]
    clear h hE hb
    go_enter Try.func22, Try.ntmps22
    go_wp2
    go_region
    go_wp2
    go_region
    go_wp2
    go_end0
    rw [HT.out]
    exact ⟨rfl, ((hr.set (x' := { x with since := x.watch }) 6 _ (by omega) rfl).set (x' := { ({ x with since := x.watch } : EndP) with fresh := false }) 8 _ (by omega) rfl).drew.drew⟩
  · have hm : x.since + n < x.watch := by omega
    have HT : Hid (x.tick n = { x with since := x.since + n }) := by
      show _ = _; unfold EndP.tick; rw [if_neg h, Int.min_eq_right (by omega)]
    have hm2 : decide (x.watch ≤ x.since + n) = false := by simpa using h
    clear h hE hb
    go_enter Try.func22, Try.ntmps22
    go_wp2
    go_region
    go_wp2
    go_region
    go_wp2
    go_end0
    rw [HT.out]
    exact ⟨rfl, (hr.set (x' := { x with since := x.since + n }) 6 _ (by omega) rfl).drew.drew⟩

set_option maxRecDepth 100000 in
theorem anew_any (q o : Nat) (x : EndP) (v : Value) (cs : Array Value) (side : Int) (w : World) (hb : Blk w q cs 64) (hE : EndCs cs o x v) :
    Calls Try.prog 23 #[.pointer (some ⟨q, o, none⟩), .int .i64 side] w fun e w' => e = .returned (.agg (endCells (x.anew (decide (side = 2))) (.slice none 0 0)).toArray) ∧ Fr No w w' := by
  obtain ⟨c0, c1, c2, c3, c4, c5, c6, c7, c8, c9⟩ := end_cells hb hE
  have hlt := hb.lt
  have k0 := Fr.refl No w
  by_cases h : side = 2
  · subst h
    clear hE hb
    go_enter Try.func23, Try.ntmps23
    go_wp2
    go_region
    go_wp2
    refine bodyPost_ret (v := .agg (endCells (x.anew true) (.slice none 0 0)).toArray) (by simp [results, Try.results23, go_sem, endCells, EndP.anew]) rfl ⟨rfl, ?_⟩
    exact ((k0.alloc _).alloc _).drew
  · clear hE hb
    have h2 : (side == 2) = false := by simpa using h
    have h3 : decide (side = 2) = false := by simpa using h
    rw [h3]
    go_enter Try.func23, Try.ntmps23
    go_wp2
    refine bodyPost_ret (v := .agg (endCells (x.anew false) (.slice none 0 0)).toArray) (by simp [results, Try.results23, go_sem, endCells, EndP.anew]) rfl ⟨rfl, ?_⟩
    exact (k0.alloc _).alloc _

end Go.Proofs.Ytmggfdhlbjlpjaa
