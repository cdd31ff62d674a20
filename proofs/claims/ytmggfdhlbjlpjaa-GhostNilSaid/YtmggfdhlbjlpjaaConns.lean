/-
  DERIVED. GhostConns: lists that grow by one fact.
-/
import Derived.Test.YtmggfdhlbjlpjaaOpen
import Derived.Test.YtmggfdhlbjlpjaaPure4
import Derived.Deep.RegionHeldLaw
import Derived.Deep.DeepCutAuto
namespace Go.Proofs.Ytmggfdhlbjlpjaa
open Go.RowKit
set_option linter.unusedSimpArgs false
set_option linter.unusedVariables false

/-- A list of facts with a row of its own; the data lie in O. -/
def Crow (w : World) (base : Nat) (O : Nat → Prop) (v : Value) (l : List FactP) : Prop :=
  ∃ vs : Nat → Value, w.ownsRow base 43 8 v l.length (fcells l vs l.length) ∧ ∀ i (h : i < l.length), Bs w O (vs i) l[i].data

theorem Crow.nil (w : World) (base : Nat) (O : Nat → Prop) : Crow w base O (.slice none 0 0) [] := ⟨fun _ => .slice none 0 0, World.ownsRow_nil _ _ _ _, fun i h => absurd h (by simp)⟩

theorem Crow.fs {w : World} {base : Nat} {O : Nat → Prop} {v : Value} {l : List FactP} (h : Crow w base O v l) : Fs w (fun b => base ≤ b ∧ b < w.heap.size) O v l := by
  obtain ⟨vs, h1, h2⟩ := h
  by_cases hv : v = .slice none 0 0
  · subst hv
    have hl : l = [] := by
      obtain ⟨_, h3⟩ := h1
      rcases h3 with ⟨_, h⟩ | ⟨g, cap, cur, h, _⟩
      · exact List.length_eq_zero_iff.1 h
      · cases h
    subst hl
    exact ⟨none, 0, rfl, by simp, fun _ => rfl, fun h => absurd h (by simp)⟩
  · exact fs_of_owns h1 hv h2

theorem Crow.keep {w w' : World} {base : Nat} {O C : Nat → Prop} {v : Value} {l : List FactP} (h : Crow w base O v l) (k : Fr C w w') (h1 : ∀ g, v.ownBlock = some g → ¬ C g) (h2 : ∀ b, O b → ¬ C b) : Crow w' base O v l := by
  obtain ⟨vs, a, b⟩ := h
  exact ⟨vs, owns_keep a fun g hg => k.block g (owns_block a hg).2.choose_spec.lt (h1 g hg), fun i hi => (b i hi).keep k h2⟩

theorem Crow.block {w : World} {base : Nat} {O : Nat → Prop} {v : Value} {l : List FactP} (h : Crow w base O v l) {g : Nat} (hg : v.ownBlock = some g) : base ≤ g ∧ ∃ cur, Blk w g cur 43 := let ⟨_, a, _⟩ := h; owns_block a hg
theorem Crow.shape {w : World} {base : Nat} {O : Nat → Prop} {v : Value} {l : List FactP} (h : Crow w base O v l) : ∃ a cap, v = .slice a l.length cap := let ⟨_, a, _⟩ := h; owns_shape a

/-- append(a, f), as a step of a region that draws. -/
theorem step_append_fact {W : World} {ops : Array Oper} {o : Oper} {a : Act} {K : Act → World → Prop} {Q : Exit → Act → World → Prop} {E : Prop} (hgd : o.guard = none) (s x : Operand) (ho : o.op = .call { callee := .builtin .append, args := #[s, x], argTypes := #[26, 26] })
    (base : Nat) (O : Nat → Prop) (v : Value) (l : List FactP) (f : FactP) (vf : Value) (hs : a.eval s = v) (hown : Crow W base O v l) (B : Nat) (hx : a.eval x = .slice (some ⟨B, 0, none⟩) 1 1) (hB : W.heap[B]? = some (.cells (factCells f vf) 43 (0, 0))) (hvf : Bs W O vf f.data) (hn : l.length ≤ 1000) (hbase : base ≤ W.heap.size) (hO : ∀ b, O b → b < base)
    (h : ∀ g cap1 w1, Crow w1 base O (.slice (some ⟨g, 0, none⟩) (l.length + 1) cap1) (l ++ [f]) → W.grownBy w1 v.ownBlock → (v.ownBlock = some g ∨ g = W.heap.size) → K (a.put o.dst (.slice (some ⟨g, 0, none⟩) (l.length + 1) cap1)) w1) :
    if Region.wanted o (yielded ops a.tmps) = true then Oper.wp Try.prog o a W K Q else E := by
  obtain ⟨i0, hi0, hz0, hz1, hz2⟩ := info_parts Try.info43
  obtain ⟨vs, ho1, hd1⟩ := hown
  have hone : ∀ u ∈ (factCells f vf).toList, u.oneCell' = true := by
    intro u hu
    obtain ⟨a', c', hv, _⟩ := hvf
    subst hv
    simp only [factCells, List.mem_cons, List.not_mem_nil, or_false] at hu
    rcases hu with rfl | rfl | rfl | rfl | rfl | rfl | rfl | rfl <;> rfl
  refine step_append_lies _ hgd s x 26 ho base 43 i0 _ 8 72 Try.underlying26 hi0 hz0 hz1 hz2 rfl (by omega) v l.length (fcells l vs l.length) hs ho1 ⟨B, 0, none⟩ 1 1 (factCells f vf).toList hx rfl (World.news_of_block hB) hone (by omega) (by unfold maxLen; omega) (by omega) hbase W.heap.size rfl ?_
  intro g cap1 w1 h1 h2 h3 _
  refine h g cap1 w1 ⟨fun i => if i < l.length then vs i else vf, ?_, fun i hi => ?_⟩ h2 h3
  · have := fcells_append l [f] vs (fun _ => vf) 1 (by simp)
    rw [List.length_append]
    show w1.ownsRow base 43 8 _ (l.length + 1) (fcells (l ++ [f]) (fun i => if i < l.length then vs i else vf) (l.length + 1))
    rw [this]
    exact h1
  · have k2 := grown_fr h2
    have hkeep : ∀ {u : Value} {d : List UInt8}, Bs W O u d → Bs w1 O u d := fun hb => hb.keep k2 fun b hb hc => by
      have := (owns_block ho1 hc.symm).1
      have := hO b hb
      omega
    by_cases hil : i < l.length
    · simp only [hil, if_true]
      rw [List.getElem_append_left hil]
      exact hkeep (hd1 i hil)
    · simp only [hil, if_false]
      rw [List.length_append] at hi
      have : (l ++ [f])[i] = f := by rw [List.getElem_append_right (by omega)]; simp
      rw [this]
      exact hkeep hvf

/-- On the way: the first k facts lie in the lists of their connections. -/
structure ConnSt (W2 wr : World) (O : Nat → Prop) (facts : List FactP) (k : Nat) (v0 v1 : Value) : Prop where
  e : Blk wr W2.heap.size #[v0, v1] 55
  c0 : Crow wr W2.heap.size O v0 ((facts.take k).filter fun f => f.conn == 0)
  c1 : Crow wr W2.heap.size O v1 ((facts.take k).filter fun f => f.conn == 1)
  ne : ∀ g, v0.ownBlock = some g → v1.ownBlock = some g → False
  f : Fr No W2 wr

theorem take_filter {l : List FactP} {k : Nat} (hk : k < l.length) (c : Int) : ((l.take (k + 1)).filter fun f => f.conn == c) = ((l.take k).filter fun f => f.conn == c) ++ (if l[k].conn = c then [l[k]] else []) := by
  rw [List.take_succ_eq_append_getElem hk, List.filter_append]
  congr 1
  by_cases h : l[k].conn = c <;> simp [h]

theorem ConnSt.step0 {W2 wr W w1 : World} {O : Nat → Prop} {facts : List FactP} {k : Nat} {v0 v1 : Value} {g n1 cap1 : Nat} (h : ConnSt W2 wr O facts k v0 v1) (hk : k < facts.length) (hc : facts[k].conn = 0) (kW : Fr No wr W)
    (h1 : Crow w1 W2.heap.size O (.slice (some ⟨g, 0, none⟩) n1 cap1) (((facts.take k).filter fun f => f.conn == 0) ++ [facts[k]])) (h2 : W.grownBy w1 v0.ownBlock) (h3 : v0.ownBlock = some g ∨ g = W.heap.size) (hO : ∀ b, O b → b < W2.heap.size) :
    ConnSt W2 (w1.setCell ⟨W2.heap.size, 0, none⟩ (.slice (some ⟨g, 0, none⟩) n1 cap1)) O facts (k + 1) (.slice (some ⟨g, 0, none⟩) n1 cap1) v1 := by
  have k2 := grown_fr h2
  have kk : Fr (fun b => some b = v0.ownBlock) wr w1 := (kW.no _).trans k2
  have eb : Blk w1 W2.heap.size #[v0, v1] 55 := kk.blk h.e fun e => by
    obtain ⟨_, cur, hb⟩ := h.c0.block e.symm
    exact h.e.unlike hb (by decide) rfl
  have other : Crow w1 W2.heap.size O v1 ((facts.take k).filter fun f => f.conn == 1) := h.c1.keep kk (fun g' hg' e => h.ne g' e.symm hg') fun b hb e => by
    have := (h.c0.block e.symm).1
    have := hO b hb
    omega
  have s1 : Fr (fun b => b = W2.heap.size) w1 (w1.setCell ⟨W2.heap.size, 0, none⟩ (.slice (some ⟨g, 0, none⟩) n1 cap1)) := (Fr.refl (fun b => b = W2.heap.size) w1).setCell (p := ⟨W2.heap.size, 0, none⟩) (fun _ => rfl) _
  have hsz : W2.heap.size ≤ wr.heap.size := h.f.size
  have keepE : ∀ {v : Value} {l : List FactP}, Crow w1 W2.heap.size O v l → Crow (w1.setCell ⟨W2.heap.size, 0, none⟩ (.slice (some ⟨g, 0, none⟩) n1 cap1)) W2.heap.size O v l := fun hv => hv.keep s1 (fun g' hg' e => by
    obtain ⟨_, cur, hb⟩ := hv.block hg'
    exact eb.unlike hb (by decide) e.symm) fun b hb e => by
      have := hO b hb
      omega
  refine ⟨eb.set' 0 _ rfl, ?_, ?_, ?_, ?_⟩
  · rw [take_filter hk 0, hc]
    exact keepE h1
  · rw [take_filter hk 1, hc]
    simpa using keepE other
  · intro g' ea ebb
    cases ea
    rcases h3 with h3 | h3
    · exact h.ne _ h3 ebb
    · have hlt2 : g < wr.heap.size := (h.c1.block ebb).2.choose_spec.lt
      have := kW.size
      omega
  · have f1 : Fr No W2 w1 := h.f.more kk fun b hb hlt => by
      have := (h.c0.block hb.symm).1
      omega
    exact f1.more s1 fun b hb hlt => by subst hb; exact absurd hlt (Nat.lt_irrefl _)

theorem ConnSt.step1 {W2 wr W w1 : World} {O : Nat → Prop} {facts : List FactP} {k : Nat} {v0 v1 : Value} {g n1 cap1 : Nat} (h : ConnSt W2 wr O facts k v0 v1) (hk : k < facts.length) (hc : facts[k].conn = 1) (kW : Fr No wr W)
    (h1 : Crow w1 W2.heap.size O (.slice (some ⟨g, 0, none⟩) n1 cap1) (((facts.take k).filter fun f => f.conn == 1) ++ [facts[k]])) (h2 : W.grownBy w1 v1.ownBlock) (h3 : v1.ownBlock = some g ∨ g = W.heap.size) (hO : ∀ b, O b → b < W2.heap.size) :
    ConnSt W2 (w1.setCell ⟨W2.heap.size, 1, none⟩ (.slice (some ⟨g, 0, none⟩) n1 cap1)) O facts (k + 1) v0 (.slice (some ⟨g, 0, none⟩) n1 cap1) := by
  have k2 := grown_fr h2
  have kk : Fr (fun b => some b = v1.ownBlock) wr w1 := (kW.no _).trans k2
  have eb : Blk w1 W2.heap.size #[v0, v1] 55 := kk.blk h.e fun e => by
    obtain ⟨_, cur, hb⟩ := h.c1.block e.symm
    exact h.e.unlike hb (by decide) rfl
  have other : Crow w1 W2.heap.size O v0 ((facts.take k).filter fun f => f.conn == 0) := h.c0.keep kk (fun g' hg' e => h.ne g' hg' e.symm) fun b hb e => by
    have := (h.c1.block e.symm).1
    have := hO b hb
    omega
  have s1 : Fr (fun b => b = W2.heap.size) w1 (w1.setCell ⟨W2.heap.size, 1, none⟩ (.slice (some ⟨g, 0, none⟩) n1 cap1)) := (Fr.refl (fun b => b = W2.heap.size) w1).setCell (p := ⟨W2.heap.size, 1, none⟩) (fun _ => rfl) _
  have hsz : W2.heap.size ≤ wr.heap.size := h.f.size
  have keepE : ∀ {v : Value} {l : List FactP}, Crow w1 W2.heap.size O v l → Crow (w1.setCell ⟨W2.heap.size, 1, none⟩ (.slice (some ⟨g, 0, none⟩) n1 cap1)) W2.heap.size O v l := fun hv => hv.keep s1 (fun g' hg' e => by
    obtain ⟨_, cur, hb⟩ := hv.block hg'
    exact eb.unlike hb (by decide) e.symm) fun b hb e => by
      have := hO b hb
      omega
  refine ⟨eb.set' 1 _ rfl, ?_, ?_, ?_, ?_⟩
  · rw [take_filter hk 0, hc]
    simpa using keepE other
  · rw [take_filter hk 1, hc]
    exact keepE h1
  · intro g' ea ebb
    cases ebb
    rcases h3 with h3 | h3
    · exact h.ne _ ea h3
    · have hlt2 : g < wr.heap.size := (h.c0.block ea).2.choose_spec.lt
      have := kW.size
      omega
  · have f1 : Fr No W2 w1 := h.f.more kk fun b hb hlt => by
      have := (h.c1.block hb.symm).1
      omega
    exact f1.more s1 fun b hb hlt => by subst hb; exact absurd hlt (Nat.lt_irrefl _)

theorem ConnSt.start (W2 : World) (O : Nat → Prop) (facts : List FactP) : ConnSt W2 (W2.alloc (.cells #[.slice none 0 0, .slice none 0 0] 55)) O facts 0 (.slice none 0 0) (.slice none 0 0) :=
  ⟨Blk.new _ _ _, Crow.nil _ _ _, Crow.nil _ _ _, fun g h => (by cases h), (Fr.refl No W2).alloc _⟩

end Go.Proofs.Ytmggfdhlbjlpjaa
