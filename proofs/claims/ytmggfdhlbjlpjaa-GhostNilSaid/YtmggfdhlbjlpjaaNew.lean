/-
  DERIVED. The walk of New.
-/
import Derived.Test.YtmggfdhlbjlpjaaSee
import Derived.Deep.AppendLies
import Derived.Deep.MidRow
import Derived.Deep.WholeRow
namespace Go.Proofs.Ytmggfdhlbjlpjaa
open Go.RowKit
set_option linter.unusedSimpArgs false
set_option linter.unusedVariables false

/-- From an address on these cells lie. -/
def Row (w : World) (O : Nat → Prop) (a : Option Addr) (xs : List Value) : Prop :=
  0 < xs.length → ∃ b off, a = some ⟨b, off, none⟩ ∧ O b ∧ ∀ j u, xs[j]? = some u → w.cell? ⟨b, off + j, none⟩ = some u
theorem Row.keep {w w' : World} {O C : Nat → Prop} {a : Option Addr} {xs : List Value} (h : Row w O a xs) (k : Fr C w w') (hd : ∀ b, O b → ¬ C b) : Row w' O a xs :=
  fun hl => let ⟨b, off, h1, h2, h3⟩ := h hl; ⟨b, off, h1, h2, fun j u hj => k.old (h3 j u hj) (hd _ h2)⟩
theorem Row.wide {w : World} {O C : Nat → Prop} {a : Option Addr} {xs : List Value} (h : Row w O a xs) (hd : ∀ b, O b → C b) : Row w C a xs := fun hl => let ⟨b, off, h1, h2, h3⟩ := h hl; ⟨b, off, h1, hd _ h2, h3⟩

/-- A list of sets of parameters, whose watches are these. -/
def Prs (w : World) (O : Nat → Prop) (v : Value) (ws : List Int) : Prop :=
  ∃ a cap xs, v = .slice a ws.length cap ∧ xs.length = ws.length * 5 ∧ Row w O a xs ∧ (∀ u ∈ xs, u.oneCell' = true) ∧ (∀ i (h : i < ws.length), xs[i * 5 + 3]? = some (.int .i64 ws[i]))
theorem Prs.keep {w w' : World} {O C : Nat → Prop} {v : Value} {ws : List Int} (h : Prs w O v ws) (k : Fr C w w') (hd : ∀ b, O b → ¬ C b) : Prs w' O v ws :=
  let ⟨a, cap, xs, h1, h2, h3, h4⟩ := h; ⟨a, cap, xs, h1, h2, h3.keep k hd, h4⟩

def lineCells (a b : Int) (mb : Nat) : List Value := endCells (EndP.new a) (.slice none 0 0) ++ endCells (EndP.new b) (.slice none 0 0) ++ [.int .u32 0, .map (some mb)]

def rowCells (wh wd : List Int) (mb : Nat → Nat) (k : Nat) : List Value := (List.range k).flatMap fun i => lineCells (wh.getD i 0) (wd.getD i 0) (mb i)
theorem lineCells_length (a b : Int) (mb : Nat) : (lineCells a b mb).length = 22 := rfl
theorem rowCells_length (wh wd : List Int) (mb : Nat → Nat) (k : Nat) : (rowCells wh wd mb k).length = k * 22 := by
  induction k with
  | zero => rfl
  | succ k ih =>
    unfold rowCells at *
    rw [List.range_succ, List.flatMap_append, List.length_append, ih]
    simp [lineCells_length]; omega
theorem rowCells_succ (wh wd : List Int) (mb : Nat → Nat) (k : Nat) : rowCells wh wd mb (k + 1) = rowCells wh wd mb k ++ lineCells (wh.getD k 0) (wd.getD k 0) (mb k) := by
  unfold rowCells
  rw [List.range_succ, List.flatMap_append]
  simp
theorem rowCells_congr (wh wd : List Int) {mb mb' : Nat → Nat} (k : Nat) (h : ∀ i, i < k → mb i = mb' i) : rowCells wh wd mb k = rowCells wh wd mb' k := by
  induction k with
  | zero => rfl
  | succ k ih => rw [rowCells_succ, rowCells_succ, ih fun i hi => h i (by omega), h k (by omega)]

/-- On the way: k lines are made. -/
def NewSt (w wr : World) (bx : Array Value) (wh wd : List Int) (k : Nat) : Prop :=
  ∃ a cap mb, Blk wr (w.heap.size + 1) #[.slice a k cap, .int .i64 0, .int .i64 0, .int .i64 0] 58 ∧ wr.ownsRow w.heap.size 64 22 (.slice a k cap) k (rowCells wh wd mb k) ∧ (∀ i, i < k → IsMap wr (mb i) [] ∧ w.heap.size ≤ mb i) ∧
    (∀ i m, i < k → m < k → mb i = mb m → i = m) ∧ Fr No w wr ∧ Blk wr w.heap.size bx 25

theorem NewSt.fr {w wr : World} {bx : Array Value} {wh wd : List Int} {k : Nat} (h : NewSt w wr bx wh wd k) : Fr No w wr := let ⟨_, _, _, _, _, _, _, h, _⟩ := h; h
theorem NewSt.start (w : World) (bx : Array Value) (wh wd : List Int) : NewSt w ((w.alloc (.cells bx 25)).alloc (.cells #[.slice none 0 0, .int .i64 0, .int .i64 0, .int .i64 0] 58)) bx wh wd 0 := by
  refine ⟨none, 0, fun _ => 0, ?_, ⟨rfl, .inl ⟨rfl, rfl⟩⟩, fun i h => by omega, fun i m h => by omega, ((Fr.refl No w).alloc _).alloc _, ?_⟩
  · have := Blk.new (w.alloc (.cells bx 25)) #[.slice none 0 0, .int .i64 0, .int .i64 0, .int .i64 0] 58
    simpa using this
  · exact ((Fr.refl No _).alloc _).blk (Blk.new w _ _) id

/-- What a row of watches gives. -/
theorem watch_cell {w : World} {O : Nat → Prop} {a : Option Addr} {xs : List Value} {ws : List Int} (hl : xs.length = ws.length * 5) (h : Row w O a xs) (e : ∀ i (h : i < ws.length), xs[i * 5 + 3]? = some (.int .i64 ws[i])) (k : Nat) (hk : k < ws.length) :
    ∃ b off, a = some ⟨b, off, none⟩ ∧ w.cell? ⟨b, off + k * 5 + 3, none⟩ = some (.int .i64 ws[k]) := by
  obtain ⟨b, off, h1, _, h3⟩ := h (by omega)
  exact ⟨b, off, h1, by rw [Nat.add_assoc]; exact h3 _ _ (e k hk)⟩

theorem Try.info64 : (Try.prog.info? 64).map (fun i => (i.zero, i.size, i.bytes)) = some (some (.agg (lineCells 0 0 0 |>.dropLast |>.toArray.push (.map none))), 22, 176) := by kernel_rfl

theorem wpList_store64 {ops : Array Oper} {rest : List Oper} {op : Oper} {a : Act} {W : World} {Q : Exit → Act → World → Prop} (z c' : Array Value) (hgd : op.guard = none) (x y : Operand) (ho : op.op = .store 64 x y) (L : Nat) (hL : W.heap.size = L)
    (hx : a.eval x = .pointer (some ⟨L, 0, none⟩)) (hy : a.eval y = .agg c') (hz : z.size = 22) (hc : c'.size = 22) (h1 : c'.all (·.oneCell') = true) (h : wpList Try.prog ops Q rest (a.put op.dst undef) (W.alloc (.cells c' 64))) :
    wpList Try.prog ops Q (op :: rest) a (W.alloc (.cells z 64)) := by
  refine wpList_plain hgd fun _ hK => ?_
  have hi : (Try.prog.info? 64).map (·.size) = some c'.size := by rw [hc]; kernel_rfl
  subst hL
  unfold Oper.wp execOp
  simp only [ho, hx, hy, Sem.run_bind, run_storeAt_new W 64 z c' hi (hz.trans hc.symm) h1, Result.andThen_ok, Sem.run_pure]
  exact hK _ _ h

theorem owns_keep {w w' : World} {base : Nat} {e : TypeId} {sz : Nat} {v : Value} {n : Nat} {xs : List Value} (h : w.ownsRow base e sz v n xs) (k : ∀ g, v.ownBlock = some g → w'.heap[g]? = w.heap[g]?) : w'.ownsRow base e sz v n xs := by
  obtain ⟨h1, h2⟩ := h
  refine ⟨h1, ?_⟩
  rcases h2 with h | ⟨g, cap, cur, rfl, h3, h4, h5⟩
  · exact .inl h
  · exact .inr ⟨g, cap, cur, rfl, h3, by rw [k g rfl]; exact h4, h5⟩
theorem owns_block {w : World} {base : Nat} {e : TypeId} {sz : Nat} {v : Value} {n : Nat} {xs : List Value} (h : w.ownsRow base e sz v n xs) {g : Nat} (hg : v.ownBlock = some g) : base ≤ g ∧ ∃ cur, Blk w g cur e := by
  obtain ⟨_, h2⟩ := h
  rcases h2 with ⟨rfl, _⟩ | ⟨g', cap, cur, rfl, h3, h4, _⟩
  · cases hg
  · cases hg; exact ⟨h3, cur, h4⟩
theorem grown_fr {w w' : World} {row : Option Nat} (h : w.grownBy w' row) : Fr (fun b => some b = row) w w' := ⟨h.os, h.tape, h.output, h.size, fun k hk hn => h.block k hk hn⟩

def lineRow (x y : Int) (mb : Nat) : Array Value := (lineCells x y mb).toArray

theorem NewSt.step {w wr w1 : World} {bx : Array Value} {wh wd : List Int} {k : Nat} {a : Option Addr} {cap : Nat} {mb : Nat → Nat} (j0 : Blk wr (w.heap.size + 1) #[.slice a k cap, .int .i64 0, .int .i64 0, .int .i64 0] 58) (hrow : wr.ownsRow w.heap.size 64 22 (.slice a k cap) k (rowCells wh wd mb k))
    (hmaps : ∀ i, i < k → IsMap wr (mb i) [] ∧ w.heap.size ≤ mb i) (hinj : ∀ i m, i < k → m < k → mb i = mb m → i = m) (hfr : Fr No w wr) (hbox : Blk wr w.heap.size bx 25) {x y : Int} (hx : wh.getD k 0 = x) (hy : wd.getD k 0 = y) {o1 o2 : Obj} {g cap1 : Nat}
    (hown1 : w1.ownsRow w.heap.size 64 22 (.slice (some ⟨g, 0, none⟩) (k + 1) cap1) (k + 1) (rowCells wh wd mb k ++ lineCells x y wr.heap.size))
    (hgrow : ((((wr.alloc (.map #[] 0)).alloc o1).alloc o2).drew.drew).grownBy w1 (Value.slice a k cap).ownBlock) :
    NewSt w (w1.setCell ⟨w.heap.size + 1, 0, none⟩ (.slice (some ⟨g, 0, none⟩) (k + 1) cap1)) bx wh wd (k + 1) := by
  have k1 : Fr No wr ((((wr.alloc (.map #[] 0)).alloc o1).alloc o2).drew.drew) := (((Fr.refl No wr).alloc _).alloc _).alloc _ |>.drew |>.drew
  have k2 := grown_fr hgrow
  have hown0 := fun g' (hg : (Value.slice a k cap).ownBlock = some g') => owns_block hrow hg
  have hj0 := j0.lt
  have k3 : Fr (fun b => some b = (Value.slice a k cap).ownBlock) wr w1 := (k1.no _).trans k2
  have jb : Blk w1 (w.heap.size + 1) #[.slice a k cap, .int .i64 0, .int .i64 0, .int .i64 0] 58 := k3.blk j0 fun e => by
    obtain ⟨_, cur, hc⟩ := hown0 _ e.symm
    exact j0.unlike hc (by decide) rfl
  have hnew : MapB ((((wr.alloc (.map #[] 0)).alloc o1).alloc o2).drew.drew) wr.heap.size #[] 0 := by
    have h0 : (wr.alloc (.map #[] 0)).heap[wr.heap.size]? = some (.map #[] 0) := heap_alloc_last wr _
    exact (((Fr.refl No _).alloc o1).alloc o2 |>.drew |>.drew).get h0 id
  have hnw1 : MapB w1 wr.heap.size #[] 0 := k2.get hnew fun e => by
    obtain ⟨_, cur, hc⟩ := hown0 _ e.symm
    have := hc.lt
    omega
  have k4 : Fr (fun b => b = w.heap.size + 1) w1 (w1.setCell ⟨w.heap.size + 1, 0, none⟩ (.slice (some ⟨g, 0, none⟩) (k + 1) cap1)) := (Fr.refl (fun b => b = w.heap.size + 1) w1).setCell (p := ⟨w.heap.size + 1, 0, none⟩) (fun _ => rfl) _
  have hsz : w.heap.size ≤ wr.heap.size := hfr.size
  refine ⟨some ⟨g, 0, none⟩, cap1, fun i => if i = k then wr.heap.size else mb i, jb.set' 0 _ rfl, ?_, ?_, ?_, ?_, ?_⟩
  · rw [rowCells_succ, hx, hy, if_pos rfl, rowCells_congr wh wd k (mb' := mb) fun i hi => by simp; omega]
    refine owns_keep hown1 fun g' hg => k4.block g' ?_ ?_
    · exact (owns_block hown1 hg).2.choose_spec.lt
    · rintro rfl
      obtain ⟨_, cur, hc⟩ := owns_block hown1 hg
      exact jb.unlike hc (by decide) rfl
  · intro i hi
    by_cases hik : i = k
    · subst hik
      simp only [if_true]
      refine ⟨⟨[], 0, k4.get hnw1 ?_, by simp, by simp, by simp, by simp⟩, hsz⟩
      intro e
      exact not_blk_map hnw1 _ _ (e ▸ jb)
    · simp only [hik, if_false]
      obtain ⟨h1, h2⟩ := hmaps i (by omega)
      refine ⟨(h1.keep k3 ?_).keep k4 ?_, h2⟩
      · intro e
        obtain ⟨_, cur, hc⟩ := hown0 _ e.symm
        exact h1.not_blk _ _ hc
      · intro e
        exact h1.not_blk _ _ (e ▸ j0)
  · intro i m hi hm
    by_cases h1 : i = k <;> by_cases h2 : m = k <;> simp only [h1, h2, if_true, if_false]
    · intro _; omega
    · intro e; have := (hmaps m (by omega)).1.lt; omega
    · intro e; have := (hmaps i (by omega)).1.lt; omega
    · exact hinj i m (by omega) (by omega)
  · have f1 : Fr No w w1 := by
      have := (hfr.no (fun b => some b = (Value.slice a k cap).ownBlock)).trans k3
      exact this.wide fun b hb hlt => by
        obtain ⟨h, _⟩ := hown0 _ hb.symm
        omega
    exact f1.more k4 (by rintro b rfl hb; omega)
  · refine k4.blk (k3.blk hbox ?_) (by omega)
    intro e
    obtain ⟨_, cur, hc⟩ := hown0 _ e.symm
    exact hbox.unlike hc (by decide) rfl

theorem alloc_at (w : World) (o : Obj) {n : Nat} (h : w.heap.size = n) : (w.alloc o).heap[n]? = some o := h ▸ heap_alloc_last w o

theorem rangeAt_row {w : World} {b : Nat} {cs : List Value} {t : TypeId} (h : w.heap[b]? = some (.cells cs.toArray t (0, 0))) : w.rangeAt b 0 cs := by
  intro j v hj
  have : Blk w b cs.toArray t := h
  rw [this.cell, Nat.zero_add]
  simpa using hj

set_option maxRecDepth 1000000 in
theorem run_build64 (W : World) (x y : Int) (m : Nat) : (Instr.buildSlice 56 1 #[(0, .agg #[.int .i64 x, .int .u32 0, .int .u32 0, .bool false, .slice none 0 0, .int .u32 0, .int .i64 0, .int .i64 0, .bool false, .bool false, .int .i64 y, .int .u32 0, .int .u32 0, .bool false, .slice none 0 0, .int .u32 0, .int .i64 0, .int .i64 0, .bool false, .bool false, .int .u32 0, .map (some m)])]).run Try.prog W = .ok (.slice (some ⟨W.heap.size, 0, none⟩) 1 1) (W.alloc (.cells #[.int .i64 x, .int .u32 0, .int .u32 0, .bool false, .slice none 0 0, .int .u32 0, .int .i64 0, .int .i64 0, .bool false, .bool false, .int .i64 y, .int .u32 0, .int .u32 0, .bool false, .slice none 0 0, .int .u32 0, .int .i64 0, .int .i64 0, .bool false, .bool false, .int .u32 0, .map (some m)] 64)) := by
  simp [go_sem]

/-- A line is laid into a row of its own, as a step of a region that draws. -/
theorem step_build64 {W : World} {ops : Array Oper} {o : Oper} {a : Act} {K : Act → World → Prop} {Q : Exit → Act → World → Prop} {E : Prop} (hgd : o.guard = none) (z : Operand) (ho : o.op = .buildSlice 56 1 #[(0, z)]) (x y : Int) (m : Nat)
    (hx : a.eval z = .agg #[.int .i64 x, .int .u32 0, .int .u32 0, .bool false, .slice none 0 0, .int .u32 0, .int .i64 0, .int .i64 0, .bool false, .bool false, .int .i64 y, .int .u32 0, .int .u32 0, .bool false, .slice none 0 0, .int .u32 0, .int .i64 0, .int .i64 0, .bool false, .bool false, .int .u32 0, .map (some m)]) (H : Nat) (hH : W.heap.size = H) (h : K (a.put o.dst (.slice (some ⟨H, 0, none⟩) 1 1)) (W.alloc (.cells #[.int .i64 x, .int .u32 0, .int .u32 0, .bool false, .slice none 0 0, .int .u32 0, .int .i64 0, .int .i64 0, .bool false, .bool false, .int .i64 y, .int .u32 0, .int .u32 0, .bool false, .slice none 0 0, .int .u32 0, .int .i64 0, .int .i64 0, .bool false, .bool false, .int .u32 0, .map (some m)] 64))) : if Region.wanted o (yielded ops a.tmps) = true then Oper.wp Try.prog o a W K Q else E := by
  have hw : Region.wanted o (yielded ops a.tmps) = true := by simp [Region.wanted, hgd]
  rw [if_pos hw]
  subst hH
  have hm : Array.map (fun p : Nat × Operand => (p.1, a.eval p.2)) #[(0, z)] = #[(0, .agg #[.int .i64 x, .int .u32 0, .int .u32 0, .bool false, .slice none 0 0, .int .u32 0, .int .i64 0, .int .i64 0, .bool false, .bool false, .int .i64 y, .int .u32 0, .int .u32 0, .bool false, .slice none 0 0, .int .u32 0, .int .i64 0, .int .i64 0, .bool false, .bool false, .int .u32 0, .map (some m)])] := by simp [hx]
  unfold Oper.wp execOp
  simp only [ho]
  rw [hm]
  simp only [Sem.run_bind, run_build64, Result.andThen_ok, Sem.run_pure]
  exact h

attribute [-simp] Try.sizeOf64 Try.isAgg64

/-- A line is read, as a step of a region that draws. -/
theorem step_load64 {W : World} {ops : Array Oper} {o : Oper} {a : Act} {K : Act → World → Prop} {Q : Exit → Act → World → Prop} {E : Prop} (hgd : o.guard = none) (x : Operand) (ho : o.op = .load 64 x) (b : Nat) (hx : a.eval x = .pointer (some ⟨b, 0, none⟩))
    (cs : List Value) (hlen : cs.length = 22) (hc : W.heap[b]? = some (.cells cs.toArray 64 (0, 0))) (h : K (a.put o.dst (.agg cs.toArray)) W) : if Region.wanted o (yielded ops a.tmps) = true then Oper.wp Try.prog o a W K Q else E := by
  have hw : Region.wanted o (yielded ops a.tmps) = true := by simp [Region.wanted, hgd]
  rw [if_pos hw]
  refine wp_load_mid 64 x ho b 0 hx cs _ (rangeAt_row hc) Try.underlying64 rfl ?_ h
  rw [hlen]; kernel_rfl

theorem step_j {w wr w1 : World} {wh wd : List Int} {k : Nat} {a : Option Addr} {cap : Nat} {mb : Nat → Nat} (j0 : Blk wr (w.heap.size + 1) #[.slice a k cap, .int .i64 0, .int .i64 0, .int .i64 0] 58) (hrow : wr.ownsRow w.heap.size 64 22 (.slice a k cap) k (rowCells wh wd mb k)) {o1 o2 : Obj}
    (hgrow : ((((wr.alloc (.map #[] 0)).alloc o1).alloc o2).drew.drew).grownBy w1 (Value.slice a k cap).ownBlock) : w1.cell? ⟨w.heap.size + 1, 0, none⟩ = some (.slice a k cap) ∧ w1.frozen? ⟨w.heap.size + 1, 0, none⟩ = false ∧ w.heap.size + 1 < w1.heap.size := by
  have k1 : Fr No wr ((((wr.alloc (.map #[] 0)).alloc o1).alloc o2).drew.drew) := (((Fr.refl No wr).alloc _).alloc _).alloc _ |>.drew |>.drew
  have k3 : Fr (fun b => some b = (Value.slice a k cap).ownBlock) wr w1 := (k1.no _).trans (grown_fr hgrow)
  have jb : Blk w1 (w.heap.size + 1) #[.slice a k cap, .int .i64 0, .int .i64 0, .int .i64 0] 58 := k3.blk j0 fun e => by
    obtain ⟨_, cur, hc⟩ := owns_block hrow e.symm
    exact j0.unlike hc (by decide) rfl
  exact ⟨jb.cell 0, jb.free 0, jb.lt⟩

theorem lineRow_eq (x y : Int) (m : Nat) : lineRow x y m = #[.int .i64 x, .int .u32 0, .int .u32 0, .bool false, .slice none 0 0, .int .u32 0, .int .i64 0, .int .i64 0, .bool false, .bool false, .int .i64 y, .int .u32 0, .int .u32 0, .bool false, .slice none 0 0, .int .u32 0, .int .i64 0, .int .i64 0, .bool false, .bool false, .int .u32 0, .map (some m)] := rfl

theorem lineCells_one (x y : Int) (m : Nat) : ∀ u ∈ lineCells x y m, u.oneCell' = true := by
  intro u hu
  simp only [lineCells, endCells, EndP.new, List.mem_append, List.mem_cons, List.not_mem_nil, or_false] at hu
  rcases hu with ((rfl | rfl | rfl | rfl | rfl | rfl | rfl | rfl | rfl | rfl) | (rfl | rfl | rfl | rfl | rfl | rfl | rfl | rfl | rfl | rfl)) | (rfl | rfl) <;> rfl

theorem step_append_line {W : World} {ops : Array Oper} {o : Oper} {a : Act} {K : Act → World → Prop} {Q : Exit → Act → World → Prop} {E : Prop} (hgd : o.guard = none) (s x : Operand)
    (ho : o.op = .call { callee := .builtin .append, args := #[s, x], argTypes := #[56, 56] }) (base : Nat) (a0 : Option Addr) (k cap : Nat) (xs : List Value) (hs : a.eval s = .slice a0 k cap) (hown : W.ownsRow base 64 22 (.slice a0 k cap) k xs)
    (B : Nat) (hx : a.eval x = .slice (some ⟨B, 0, none⟩) 1 1) (p q : Int) (m : Nat) (hB : W.heap[B]? = some (.cells (lineRow p q m) 64 (0, 0))) (hk : k ≤ 40) (hbase : base ≤ W.heap.size)
    (h : ∀ g cap1 w1, w1.ownsRow base 64 22 (.slice (some ⟨g, 0, none⟩) (k + 1) cap1) (k + 1) (xs ++ lineCells p q m) → W.grownBy w1 (Value.slice a0 k cap).ownBlock → K (a.put o.dst (.slice (some ⟨g, 0, none⟩) (k + 1) cap1)) w1) :
    if Region.wanted o (yielded ops a.tmps) = true then Oper.wp Try.prog o a W K Q else E := by
  obtain ⟨i0, hi0, hz0, hz1, hz2⟩ := info_parts Try.info64
  refine step_append_lies _ hgd s x 56 ho base 64 i0 _ 22 176 Try.underlying56 hi0 hz0 hz1 hz2 rfl (by omega) (.slice a0 k cap) k xs hs hown ⟨B, 0, none⟩ 1 1 (lineCells p q m) hx rfl (World.news_of_block (cs := lineRow p q m) hB) (lineCells_one p q m) (by omega) (by unfold maxLen; omega) (by omega) hbase W.heap.size rfl ?_
  intro g cap1 w1 h1 h2 _ _
  exact h g cap1 w1 h1 h2

theorem rowCells_get (wh wd : List Int) (mb : Nat → Nat) : ∀ (k i : Nat), i < k → ∀ j, j < 22 → (rowCells wh wd mb k)[i * 22 + j]? = (lineCells (wh.getD i 0) (wd.getD i 0) (mb i))[j]?
  | 0, i, h, _, _ => by omega
  | k + 1, i, h, j, hj => by
    rw [rowCells_succ]
    by_cases hik : i < k
    · rw [List.getElem?_append_left (by rw [rowCells_length]; omega)]
      exact rowCells_get wh wd mb k i hik j hj
    · obtain rfl : i = k := by omega
      rw [List.getElem?_append_right (by rw [rowCells_length]; omega), rowCells_length]
      congr 1; omega

theorem NewSt.done {w wr : World} {bx : Array Value} {wh wd : List Int} {k : Nat} (h : NewSt w wr bx wh wd k) (hk : (wh.zip wd).length = k) :
    IsJ wr (fun b => w.heap.size ≤ b ∧ b < wr.heap.size) (w.heap.size + 1) (JP.new (wh.zip wd)) := by
  obtain ⟨a, cap, mb, hj, hrow, hmaps, hinj, hfr, hbx⟩ := h
  have hlen : (JP.new (wh.zip wd)).lines.length = k := by simp only [JP.new, List.length_map]; exact hk
  refine ⟨fun b hb => hb.2, ⟨by omega, hj.lt⟩, a, cap, ?_, fun hp => ?_⟩
  · have : jCells a cap (JP.new (wh.zip wd)) = #[.slice a k cap, .int .i64 0, .int .i64 0, .int .i64 0] := by
      unfold jCells; rw [hlen]; rfl
    rw [this]; exact hj
  · rw [hlen] at hp
    obtain ⟨_, h2⟩ := hrow
    rcases h2 with ⟨_, h0⟩ | ⟨g, cap', cur, hv, hg, hcur, hn, _, hsz, htk⟩
    · omega
    · injection hv with ha _ _
      subst ha
      have hgl : g < wr.heap.size := lt_of_heap hcur
      have hget : ∀ i, i < k → ∀ j, j < 22 → cur[i * 22 + j]? = (lineCells (wh.getD i 0) (wd.getD i 0) (mb i))[j]? := by
        intro i hi j hj
        rw [← rowCells_get wh wd mb k i hi j hj, ← htk, List.getElem?_take_of_lt (by omega)]
        simp
      refine ⟨g, cur, mb, rfl, hcur, ⟨hg, hgl⟩, fun i hi => ?_, fun i m hi hm => hinj i m (by omega) (by omega)⟩
      have hik : i < k := by rw [← hlen]; exact hi
      have hzl : i < (wh.zip wd).length := by omega
      have hzl' := hzl
      rw [List.length_zip] at hzl'
      have hw1 : i < wh.length := by omega
      have hw2 : i < wd.length := by omega
      have hline : (JP.new (wh.zip wd)).lines[i] = LineP.new (wh.getD i 0) (wd.getD i 0) := by
        simp [JP.new, hw1, hw2]
      rw [hline]
      refine ⟨⟨_, fun j hj => ?_, Ob.nil _ _⟩, ⟨_, fun j hj => ?_, Ob.nil _ _⟩, ?_, ?_, (hmaps i hik).1, ⟨(hmaps i hik).2, (hmaps i hik).1.lt⟩⟩
      · rw [hget i hik j (by omega)]
        unfold lineCells
        rw [List.append_assoc, List.getElem?_append_left (by show j < 10; omega)]
        rfl
      · rw [Nat.add_assoc, hget i hik (10 + j) (by omega)]
        unfold lineCells
        rw [List.append_assoc, List.getElem?_append_right (by show 10 ≤ 10 + j; omega), List.getElem?_append_left (by show 10 + j - 10 < 10; omega)]
        show (endCells _ _)[10 + j - 10]? = _
        rw [Nat.add_sub_cancel_left]
        rfl
      · exact hget i hik 20 (by omega)
      · exact hget i hik 21 (by omega)

set_option maxRecDepth 1000000 in
set_option maxHeartbeats 8000000 in
theorem new_any (OH OD : Nat → Prop) (vh vd : Value) (wh wd : List Int) (ms : Int) (w : World) (hh : Prs w OH vh wh) (hd : Prs w OD vd wd) (hlen : wh.length ≤ 40 ∧ wd.length ≤ 40) :
    Calls Try.prog 8 #[.agg #[vh, vd, .int .u32 ms]] w fun e w' => ∃ j, e = .returned (.pointer (some ⟨j, 0, none⟩)) ∧ IsJ w' (fun b => w.heap.size ≤ b ∧ b < w'.heap.size) j (JP.new (wh.zip wd)) ∧ Fr No w w' := by
  obtain ⟨ah, ch, xh, rfl, lh, rh, oh, eh⟩ := hh
  obtain ⟨ad, cd, xd, rfl, ld, rd, od, ed⟩ := hd
  have HRH := Lib.hid (fun k hk => watch_cell lh rh eh k hk)
  have HRD := Lib.hid (fun k hk => watch_cell ld rd ed k hk)
  clear lh rh oh eh ld rd od ed
  by_cases hle : wd.length < wh.length
  · skip
    have hML : wd.length ≤ wh.length ∧ wd.length ≤ wd.length := by omega
    have hM6 : wd.length ≤ 40 := by omega
    clear hlen
    go_enter Try.func8, Try.ntmps8
    go_wp2
    go_loopw [15] (fun vk wr => ∃ k : Nat, k ≤ wd.length ∧ vk = .int .i64 k ∧ NewSt w wr #[.slice ah wh.length ch, .slice ad wd.length cd, .int .u32 ms] wh wd k) (fun k _ => wd.length - (intOf k).toNat)
    case atStart => exact ⟨0, Nat.zero_le _, rfl, NewSt.start _ _ _ _⟩
    case round =>
      obtain ⟨k, hk, rfl, hN⟩ := hrel
      by_cases hlt : k < wd.length
      · have hlt' : (k : Int) < (wd.length : Int) := by omega
        have g1 : (k : Int) < (wh.length : Int) := by omega
        have g2 : (k : Int) < (wd.length : Int) := by omega
        have g0 : (0 : Int) ≤ (k : Int) := by omega
        obtain ⟨bh, oh', hah, hhc⟩ := HRH.out k (by omega)
        obtain ⟨bd, od', had, hdc⟩ := HRD.out k (by omega)
        subst hah had
        have hfr := hN.fr
        have wch := hfr.old hhc id
        have wcd := hfr.old hdc id
        obtain ⟨a, cap, mb, j0, hrow, hmaps, hinj, _, hbox⟩ := id hN
        have jc := j0.cell 0
        have b0 := hbox.cell 0
        have b1 := hbox.cell 1
        have z0 := j0.free 0
        have jlt := j0.lt
        have blt := hbox.lt
        have HN := Lib.hid hN
        have HROW := Lib.hid hrow
        have HJ0 := Lib.hid j0
        have HMP := Lib.hid hmaps
        have HIN := Lib.hid hinj
        have HFR := Lib.hid hfr
        have HBX := Lib.hid hbox
        have hwh := lt_of_cell? wch
        have hwd := lt_of_cell? wcd
        dsimp only at hwh hwd
        have hgx : wh.getD k 0 = wh[k] := by simp [List.getD, hML.1, show k < wh.length by omega]
        have hgy : wd.getD k 0 = wd[k] := by simp [List.getD, show k < wd.length by omega]
        generalize wh[k] = x at wch hgx
        generalize wd[k] = y at wcd hgy
        have HGX := Lib.hid hgx
        have HGY := Lib.hid hgy
        clear hgx hgy
        simp only [List.getElem?_toArray, List.getElem?_cons_zero, List.getElem?_cons_succ] at jc b0 b1
        clear hN hrow j0 hmaps hinj hfr hbox hhc hdc
        have hmk : ∀ W : World, (Instr.makeMap 59 none).run Try.prog W = .ok (.map (some W.heap.size)) (W.alloc (.map #[] 0)) := fun _ => rfl
        go_wp2_with (refine wpList_store64 _ _ rfl _ _ rfl (wr.heap.size + 1) (by simp) (by rfl) (by rfl) rfl rfl (by simp [Value.oneCell']) ?_)
        have ne1 : wr.heap.size + 1 ≠ w.heap.size := by omega
        have ne2 : wr.heap.size + 1 ≠ bh := by omega
        have ne3 : wr.heap.size + 1 ≠ bd := by omega
        go_region_held (fun W => W.cell? ⟨w.heap.size, 0, none⟩ = some (.slice (some ⟨bh, oh', none⟩) wh.length ch) ∧ W.cell? ⟨w.heap.size, 1, none⟩ = some (.slice (some ⟨bd, od', none⟩) wd.length cd) ∧ W.cell? ⟨bh, oh' + k * 5 + 3, none⟩ = some (.int .i64 x) ∧ W.cell? ⟨bd, od' + k * 5 + 3, none⟩ = some (.int .i64 y)) (first | (exact ⟨cell_kept _ (cell_kept _ b0), cell_kept _ (cell_kept _ b1), cell_kept _ (cell_kept _ wch), cell_kept _ (cell_kept _ wcd)⟩) | (go_keep)) (fail)
        have hk40 : k ≤ 40 := by omega
        have HB3 : Hid (w.heap.size ≤ wr.heap.size) := HFR.out.size
        have jcA : ((wr.alloc (.map #[] 0)).alloc (.cells (lineRow x y wr.heap.size) 64)).cell? ⟨w.heap.size + 1, 0, none⟩ = some (.slice a k cap) := cell_kept _ (cell_kept _ jc)
        have hne6 : w.heap.size + 1 ≠ wr.heap.size + 1 := by omega
        have hne7 : w.heap.size + 1 ≠ wr.heap.size + 1 + 1 := by omega
        go_wp2
        refine wp_region_any (by kernel_rfl) ?_
        change wpAny _ _ _ _ _ _ _ (World.drew _)
        refine wpAny_take (i := 0) (v := ?v1) rfl (by kernel_rfl) (by kernel_rfl) (by kernel_rfl) (fun _ _ _ h => h) (Or.inl ⟨by rfl, ?h1⟩) ?r1
        case h1 => (intro w; go_simp; try with_reducible rfl)
        refine wpAny_take (i := 1) (v := ?v2) rfl (by kernel_rfl) (by kernel_rfl) (by kernel_rfl) (fun _ _ _ h => h) (Or.inl ⟨by rfl, ?h2⟩) ?r2
        case h2 => (intro w; go_simp; try with_reducible rfl)
        refine wpAny_take (i := 2) (v := ?v3) rfl (by kernel_rfl) (by kernel_rfl) (by kernel_rfl) (fun _ _ _ h => h) (Or.inl ⟨by rfl, ?h3⟩) ?r3
        case h3 => (intro w; go_simp; try with_reducible rfl)
        refine wpAny_take (i := 3) (v := ?v4) rfl (by kernel_rfl) (by kernel_rfl) (by kernel_rfl) (fun _ _ _ h => h) (Or.inl ⟨by rfl, ?h4⟩) ?r4
        case h4 => (intro w; go_simp; try with_reducible rfl)
        refine wpAny_ready (rs := [4, 5]) (by kernel_rfl) (by simp) ?_
        refine AllReady.cons rfl (fun K hK => ?_) (AllReady.cons rfl (fun K hK => ?_) AllReady.nil)
        · skip
          go_simp
          refine hK _ _ ?_
          clear hK K
          refine wpAny_ready (rs := [5]) (by kernel_rfl) (by simp) ?_
          refine AllReady.cons rfl (fun K hK => ?_) AllReady.nil
          refine step_load64 (by rfl) _ (by rfl) (wr.heap.size + 1) (by rfl) [.int .i64 x, .int .u32 0, .int .u32 0, .bool false, .slice none 0 0, .int .u32 0, .int .i64 0, .int .i64 0, .bool false, .bool false, .int .i64 y, .int .u32 0, .int .u32 0, .bool false, .slice none 0 0, .int .u32 0, .int .i64 0, .int .i64 0, .bool false, .bool false, .int .u32 0, .map (some wr.heap.size)] rfl (by exact alloc_at (wr.alloc _) _ (by simp)) ?_
          refine hK _ _ ?_
          clear hK K
          refine wpAny_ready (rs := [6]) (by kernel_rfl) (by simp) ?_
          refine AllReady.cons rfl (fun K hK => ?_) AllReady.nil
          refine step_build64 (by rfl) _ (by rfl) x y wr.heap.size (by rfl) (wr.heap.size + 1 + 1) (by simp) ?_
          refine hK _ _ ?_
          clear hK K
          refine wpAny_ready (rs := [7]) (by kernel_rfl) (by simp) ?_
          refine AllReady.cons rfl (fun K hK => ?_) AllReady.nil
          refine step_append_line (by rfl) _ _ (by rfl) w.heap.size a k cap (rowCells wh wd mb k) (by rfl) (((HROW.out.alloc _).alloc _).alloc _).drew.drew (wr.heap.size + 1 + 1) (by rfl) x y wr.heap.size (by exact alloc_at ((wr.alloc _).alloc _) _ (by simp)) hk40 (by have := HB3.out; simp; omega) ?_
          intro g cap1 w1 hown1 hgrow
          obtain ⟨sj1, sj2, sj3⟩ := step_j HJ0.out HROW.out hgrow
          refine hK _ _ ?_
          clear hK K
          refine wpAny_take (i := 8) (v := ?v5) rfl (by kernel_rfl) (by kernel_rfl) (by kernel_rfl) (fun _ _ _ h => h) (Or.inl ⟨by rfl, ?h5⟩) ?r5
          case h5 => (intro w; go_simp; try with_reducible rfl)
          refine wpAny_take (i := 9) (v := ?v6) rfl (by kernel_rfl) (by kernel_rfl) (by kernel_rfl) (fun _ _ _ h => h) (Or.inl ⟨by rfl, ?h6⟩) ?r6
          case h6 => (intro w; go_simp; try with_reducible rfl)
          refine wpAny_ready (rs := [10]) (by kernel_rfl) (by simp) ?_
          refine AllReady.cons rfl (fun K hK => ?_) AllReady.nil
          go_simp
          refine hK _ _ ?_
          clear hK K
          refine wpAny_done (by kernel_rfl) ?_ _
          have hst := NewSt.step HJ0.out HROW.out HMP.out HIN.out HFR.out HBX.out HGX.out HGY.out hown1 hgrow
          have HST := Lib.hid hst
          clear hst hown1 hgrow
          go_wp2
          go_roundw
          case rel => exact ⟨k + 1, by omega, by go_num, HST.out⟩
          case measure => simp [intOf]; omega
        · skip
          refine step_load64 (by rfl) _ (by rfl) (wr.heap.size + 1) (by rfl) [.int .i64 x, .int .u32 0, .int .u32 0, .bool false, .slice none 0 0, .int .u32 0, .int .i64 0, .int .i64 0, .bool false, .bool false, .int .i64 y, .int .u32 0, .int .u32 0, .bool false, .slice none 0 0, .int .u32 0, .int .i64 0, .int .i64 0, .bool false, .bool false, .int .u32 0, .map (some wr.heap.size)] rfl (by exact alloc_at (wr.alloc _) _ (by simp)) ?_
          refine hK _ _ ?_
          clear hK K
          refine wpAny_ready (rs := [4, 6]) (by kernel_rfl) (by simp) ?_
          refine AllReady.cons rfl (fun K hK => ?_) (AllReady.cons rfl (fun K hK => ?_) AllReady.nil)
          · skip
            go_simp
            refine hK _ _ ?_
            clear hK K
            refine wpAny_ready (rs := [6]) (by kernel_rfl) (by simp) ?_
            refine AllReady.cons rfl (fun K hK => ?_) AllReady.nil
            refine step_build64 (by rfl) _ (by rfl) x y wr.heap.size (by rfl) (wr.heap.size + 1 + 1) (by simp) ?_
            refine hK _ _ ?_
            clear hK K
            refine wpAny_ready (rs := [7]) (by kernel_rfl) (by simp) ?_
            refine AllReady.cons rfl (fun K hK => ?_) AllReady.nil
            refine step_append_line (by rfl) _ _ (by rfl) w.heap.size a k cap (rowCells wh wd mb k) (by rfl) (((HROW.out.alloc _).alloc _).alloc _).drew.drew (wr.heap.size + 1 + 1) (by rfl) x y wr.heap.size (by exact alloc_at ((wr.alloc _).alloc _) _ (by simp)) hk40 (by have := HB3.out; simp; omega) ?_
            intro g cap1 w1 hown1 hgrow
            obtain ⟨sj1, sj2, sj3⟩ := step_j HJ0.out HROW.out hgrow
            refine hK _ _ ?_
            clear hK K
            refine wpAny_take (i := 8) (v := ?v7) rfl (by kernel_rfl) (by kernel_rfl) (by kernel_rfl) (fun _ _ _ h => h) (Or.inl ⟨by rfl, ?h7⟩) ?r7
            case h7 => (intro w; go_simp; try with_reducible rfl)
            refine wpAny_take (i := 9) (v := ?v8) rfl (by kernel_rfl) (by kernel_rfl) (by kernel_rfl) (fun _ _ _ h => h) (Or.inl ⟨by rfl, ?h8⟩) ?r8
            case h8 => (intro w; go_simp; try with_reducible rfl)
            refine wpAny_ready (rs := [10]) (by kernel_rfl) (by simp) ?_
            refine AllReady.cons rfl (fun K hK => ?_) AllReady.nil
            go_simp
            refine hK _ _ ?_
            clear hK K
            refine wpAny_done (by kernel_rfl) ?_ _
            have hst := NewSt.step HJ0.out HROW.out HMP.out HIN.out HFR.out HBX.out HGX.out HGY.out hown1 hgrow
            have HST := Lib.hid hst
            clear hst hown1 hgrow
            go_wp2
            go_roundw
            case rel => exact ⟨k + 1, by omega, by go_num, HST.out⟩
            case measure => simp [intOf]; omega
          · skip
            refine step_build64 (by rfl) _ (by rfl) x y wr.heap.size (by rfl) (wr.heap.size + 1 + 1) (by simp) ?_
            refine hK _ _ ?_
            clear hK K
            refine wpAny_ready (rs := [4]) (by kernel_rfl) (by simp) ?_
            refine AllReady.cons rfl (fun K hK => ?_) AllReady.nil
            go_simp
            refine hK _ _ ?_
            clear hK K
            refine wpAny_ready (rs := [7]) (by kernel_rfl) (by simp) ?_
            refine AllReady.cons rfl (fun K hK => ?_) AllReady.nil
            refine step_append_line (by rfl) _ _ (by rfl) w.heap.size a k cap (rowCells wh wd mb k) (by rfl) (((HROW.out.alloc _).alloc _).alloc _).drew.drew (wr.heap.size + 1 + 1) (by rfl) x y wr.heap.size (by exact alloc_at ((wr.alloc _).alloc _) _ (by simp)) hk40 (by have := HB3.out; simp; omega) ?_
            intro g cap1 w1 hown1 hgrow
            obtain ⟨sj1, sj2, sj3⟩ := step_j HJ0.out HROW.out hgrow
            refine hK _ _ ?_
            clear hK K
            refine wpAny_take (i := 8) (v := ?v9) rfl (by kernel_rfl) (by kernel_rfl) (by kernel_rfl) (fun _ _ _ h => h) (Or.inl ⟨by rfl, ?h9⟩) ?r9
            case h9 => (intro w; go_simp; try with_reducible rfl)
            refine wpAny_take (i := 9) (v := ?v10) rfl (by kernel_rfl) (by kernel_rfl) (by kernel_rfl) (fun _ _ _ h => h) (Or.inl ⟨by rfl, ?h10⟩) ?r10
            case h10 => (intro w; go_simp; try with_reducible rfl)
            refine wpAny_ready (rs := [10]) (by kernel_rfl) (by simp) ?_
            refine AllReady.cons rfl (fun K hK => ?_) AllReady.nil
            go_simp
            refine hK _ _ ?_
            clear hK K
            refine wpAny_done (by kernel_rfl) ?_ _
            have hst := NewSt.step HJ0.out HROW.out HMP.out HIN.out HFR.out HBX.out HGX.out HGY.out hown1 hgrow
            have HST := Lib.hid hst
            clear hst hown1 hgrow
            go_wp2
            go_roundw
            case rel => exact ⟨k + 1, by omega, by go_num, HST.out⟩
            case measure => simp [intOf]; omega
      · obtain rfl : k = wd.length := by omega
        have hfr := hN.fr
        have hdn := hN.done (by rw [List.length_zip]; omega)
        have HDN := Lib.hid hdn
        have HFR := Lib.hid hfr
        clear hdn hfr hN
        go_wp2
        go_ret
        exact ⟨_, rfl, HDN.out, HFR.out⟩
  · skip
    have hML : wh.length ≤ wh.length ∧ wh.length ≤ wd.length := by omega
    have hM6 : wh.length ≤ 40 := by omega
    clear hlen
    go_enter Try.func8, Try.ntmps8
    go_wp2
    go_loopw [15] (fun vk wr => ∃ k : Nat, k ≤ wh.length ∧ vk = .int .i64 k ∧ NewSt w wr #[.slice ah wh.length ch, .slice ad wd.length cd, .int .u32 ms] wh wd k) (fun k _ => wh.length - (intOf k).toNat)
    case atStart => exact ⟨0, Nat.zero_le _, rfl, NewSt.start _ _ _ _⟩
    case round =>
      obtain ⟨k, hk, rfl, hN⟩ := hrel
      by_cases hlt : k < wh.length
      · have hlt' : (k : Int) < (wh.length : Int) := by omega
        have g1 : (k : Int) < (wh.length : Int) := by omega
        have g2 : (k : Int) < (wd.length : Int) := by omega
        have g0 : (0 : Int) ≤ (k : Int) := by omega
        obtain ⟨bh, oh', hah, hhc⟩ := HRH.out k (by omega)
        obtain ⟨bd, od', had, hdc⟩ := HRD.out k (by omega)
        subst hah had
        have hfr := hN.fr
        have wch := hfr.old hhc id
        have wcd := hfr.old hdc id
        obtain ⟨a, cap, mb, j0, hrow, hmaps, hinj, _, hbox⟩ := id hN
        have jc := j0.cell 0
        have b0 := hbox.cell 0
        have b1 := hbox.cell 1
        have z0 := j0.free 0
        have jlt := j0.lt
        have blt := hbox.lt
        have HN := Lib.hid hN
        have HROW := Lib.hid hrow
        have HJ0 := Lib.hid j0
        have HMP := Lib.hid hmaps
        have HIN := Lib.hid hinj
        have HFR := Lib.hid hfr
        have HBX := Lib.hid hbox
        have hwh := lt_of_cell? wch
        have hwd := lt_of_cell? wcd
        dsimp only at hwh hwd
        have hgx : wh.getD k 0 = wh[k] := by simp [List.getD, hML.1, show k < wh.length by omega]
        have hgy : wd.getD k 0 = wd[k] := by simp [List.getD, show k < wd.length by omega]
        generalize wh[k] = x at wch hgx
        generalize wd[k] = y at wcd hgy
        have HGX := Lib.hid hgx
        have HGY := Lib.hid hgy
        clear hgx hgy
        simp only [List.getElem?_toArray, List.getElem?_cons_zero, List.getElem?_cons_succ] at jc b0 b1
        clear hN hrow j0 hmaps hinj hfr hbox hhc hdc
        have hmk : ∀ W : World, (Instr.makeMap 59 none).run Try.prog W = .ok (.map (some W.heap.size)) (W.alloc (.map #[] 0)) := fun _ => rfl
        go_wp2_with (refine wpList_store64 _ _ rfl _ _ rfl (wr.heap.size + 1) (by simp) (by rfl) (by rfl) rfl rfl (by simp [Value.oneCell']) ?_)
        have ne1 : wr.heap.size + 1 ≠ w.heap.size := by omega
        have ne2 : wr.heap.size + 1 ≠ bh := by omega
        have ne3 : wr.heap.size + 1 ≠ bd := by omega
        go_region_held (fun W => W.cell? ⟨w.heap.size, 0, none⟩ = some (.slice (some ⟨bh, oh', none⟩) wh.length ch) ∧ W.cell? ⟨w.heap.size, 1, none⟩ = some (.slice (some ⟨bd, od', none⟩) wd.length cd) ∧ W.cell? ⟨bh, oh' + k * 5 + 3, none⟩ = some (.int .i64 x) ∧ W.cell? ⟨bd, od' + k * 5 + 3, none⟩ = some (.int .i64 y)) (first | (exact ⟨cell_kept _ (cell_kept _ b0), cell_kept _ (cell_kept _ b1), cell_kept _ (cell_kept _ wch), cell_kept _ (cell_kept _ wcd)⟩) | (go_keep)) (fail)
        have hk40 : k ≤ 40 := by omega
        have HB3 : Hid (w.heap.size ≤ wr.heap.size) := HFR.out.size
        have jcA : ((wr.alloc (.map #[] 0)).alloc (.cells (lineRow x y wr.heap.size) 64)).cell? ⟨w.heap.size + 1, 0, none⟩ = some (.slice a k cap) := cell_kept _ (cell_kept _ jc)
        have hne6 : w.heap.size + 1 ≠ wr.heap.size + 1 := by omega
        have hne7 : w.heap.size + 1 ≠ wr.heap.size + 1 + 1 := by omega
        go_wp2
        refine wp_region_any (by kernel_rfl) ?_
        change wpAny _ _ _ _ _ _ _ (World.drew _)
        refine wpAny_take (i := 0) (v := ?v11) rfl (by kernel_rfl) (by kernel_rfl) (by kernel_rfl) (fun _ _ _ h => h) (Or.inl ⟨by rfl, ?h11⟩) ?r11
        case h11 => (intro w; go_simp; try with_reducible rfl)
        refine wpAny_take (i := 1) (v := ?v12) rfl (by kernel_rfl) (by kernel_rfl) (by kernel_rfl) (fun _ _ _ h => h) (Or.inl ⟨by rfl, ?h12⟩) ?r12
        case h12 => (intro w; go_simp; try with_reducible rfl)
        refine wpAny_take (i := 2) (v := ?v13) rfl (by kernel_rfl) (by kernel_rfl) (by kernel_rfl) (fun _ _ _ h => h) (Or.inl ⟨by rfl, ?h13⟩) ?r13
        case h13 => (intro w; go_simp; try with_reducible rfl)
        refine wpAny_take (i := 3) (v := ?v14) rfl (by kernel_rfl) (by kernel_rfl) (by kernel_rfl) (fun _ _ _ h => h) (Or.inl ⟨by rfl, ?h14⟩) ?r14
        case h14 => (intro w; go_simp; try with_reducible rfl)
        refine wpAny_ready (rs := [4, 5]) (by kernel_rfl) (by simp) ?_
        refine AllReady.cons rfl (fun K hK => ?_) (AllReady.cons rfl (fun K hK => ?_) AllReady.nil)
        · skip
          go_simp
          refine hK _ _ ?_
          clear hK K
          refine wpAny_ready (rs := [5]) (by kernel_rfl) (by simp) ?_
          refine AllReady.cons rfl (fun K hK => ?_) AllReady.nil
          refine step_load64 (by rfl) _ (by rfl) (wr.heap.size + 1) (by rfl) [.int .i64 x, .int .u32 0, .int .u32 0, .bool false, .slice none 0 0, .int .u32 0, .int .i64 0, .int .i64 0, .bool false, .bool false, .int .i64 y, .int .u32 0, .int .u32 0, .bool false, .slice none 0 0, .int .u32 0, .int .i64 0, .int .i64 0, .bool false, .bool false, .int .u32 0, .map (some wr.heap.size)] rfl (by exact alloc_at (wr.alloc _) _ (by simp)) ?_
          refine hK _ _ ?_
          clear hK K
          refine wpAny_ready (rs := [6]) (by kernel_rfl) (by simp) ?_
          refine AllReady.cons rfl (fun K hK => ?_) AllReady.nil
          refine step_build64 (by rfl) _ (by rfl) x y wr.heap.size (by rfl) (wr.heap.size + 1 + 1) (by simp) ?_
          refine hK _ _ ?_
          clear hK K
          refine wpAny_ready (rs := [7]) (by kernel_rfl) (by simp) ?_
          refine AllReady.cons rfl (fun K hK => ?_) AllReady.nil
          refine step_append_line (by rfl) _ _ (by rfl) w.heap.size a k cap (rowCells wh wd mb k) (by rfl) (((HROW.out.alloc _).alloc _).alloc _).drew.drew (wr.heap.size + 1 + 1) (by rfl) x y wr.heap.size (by exact alloc_at ((wr.alloc _).alloc _) _ (by simp)) hk40 (by have := HB3.out; simp; omega) ?_
          intro g cap1 w1 hown1 hgrow
          obtain ⟨sj1, sj2, sj3⟩ := step_j HJ0.out HROW.out hgrow
          refine hK _ _ ?_
          clear hK K
          refine wpAny_take (i := 8) (v := ?v15) rfl (by kernel_rfl) (by kernel_rfl) (by kernel_rfl) (fun _ _ _ h => h) (Or.inl ⟨by rfl, ?h15⟩) ?r15
          case h15 => (intro w; go_simp; try with_reducible rfl)
          refine wpAny_take (i := 9) (v := ?v16) rfl (by kernel_rfl) (by kernel_rfl) (by kernel_rfl) (fun _ _ _ h => h) (Or.inl ⟨by rfl, ?h16⟩) ?r16
          case h16 => (intro w; go_simp; try with_reducible rfl)
          refine wpAny_ready (rs := [10]) (by kernel_rfl) (by simp) ?_
          refine AllReady.cons rfl (fun K hK => ?_) AllReady.nil
          go_simp
          refine hK _ _ ?_
          clear hK K
          refine wpAny_done (by kernel_rfl) ?_ _
          have hst := NewSt.step HJ0.out HROW.out HMP.out HIN.out HFR.out HBX.out HGX.out HGY.out hown1 hgrow
          have HST := Lib.hid hst
          clear hst hown1 hgrow
          go_wp2
          go_roundw
          case rel => exact ⟨k + 1, by omega, by go_num, HST.out⟩
          case measure => simp [intOf]; omega
        · skip
          refine step_load64 (by rfl) _ (by rfl) (wr.heap.size + 1) (by rfl) [.int .i64 x, .int .u32 0, .int .u32 0, .bool false, .slice none 0 0, .int .u32 0, .int .i64 0, .int .i64 0, .bool false, .bool false, .int .i64 y, .int .u32 0, .int .u32 0, .bool false, .slice none 0 0, .int .u32 0, .int .i64 0, .int .i64 0, .bool false, .bool false, .int .u32 0, .map (some wr.heap.size)] rfl (by exact alloc_at (wr.alloc _) _ (by simp)) ?_
          refine hK _ _ ?_
          clear hK K
          refine wpAny_ready (rs := [4, 6]) (by kernel_rfl) (by simp) ?_
          refine AllReady.cons rfl (fun K hK => ?_) (AllReady.cons rfl (fun K hK => ?_) AllReady.nil)
          · skip
            go_simp
            refine hK _ _ ?_
            clear hK K
            refine wpAny_ready (rs := [6]) (by kernel_rfl) (by simp) ?_
            refine AllReady.cons rfl (fun K hK => ?_) AllReady.nil
            refine step_build64 (by rfl) _ (by rfl) x y wr.heap.size (by rfl) (wr.heap.size + 1 + 1) (by simp) ?_
            refine hK _ _ ?_
            clear hK K
            refine wpAny_ready (rs := [7]) (by kernel_rfl) (by simp) ?_
            refine AllReady.cons rfl (fun K hK => ?_) AllReady.nil
            refine step_append_line (by rfl) _ _ (by rfl) w.heap.size a k cap (rowCells wh wd mb k) (by rfl) (((HROW.out.alloc _).alloc _).alloc _).drew.drew (wr.heap.size + 1 + 1) (by rfl) x y wr.heap.size (by exact alloc_at ((wr.alloc _).alloc _) _ (by simp)) hk40 (by have := HB3.out; simp; omega) ?_
            intro g cap1 w1 hown1 hgrow
            obtain ⟨sj1, sj2, sj3⟩ := step_j HJ0.out HROW.out hgrow
            refine hK _ _ ?_
            clear hK K
            refine wpAny_take (i := 8) (v := ?v17) rfl (by kernel_rfl) (by kernel_rfl) (by kernel_rfl) (fun _ _ _ h => h) (Or.inl ⟨by rfl, ?h17⟩) ?r17
            case h17 => (intro w; go_simp; try with_reducible rfl)
            refine wpAny_take (i := 9) (v := ?v18) rfl (by kernel_rfl) (by kernel_rfl) (by kernel_rfl) (fun _ _ _ h => h) (Or.inl ⟨by rfl, ?h18⟩) ?r18
            case h18 => (intro w; go_simp; try with_reducible rfl)
            refine wpAny_ready (rs := [10]) (by kernel_rfl) (by simp) ?_
            refine AllReady.cons rfl (fun K hK => ?_) AllReady.nil
            go_simp
            refine hK _ _ ?_
            clear hK K
            refine wpAny_done (by kernel_rfl) ?_ _
            have hst := NewSt.step HJ0.out HROW.out HMP.out HIN.out HFR.out HBX.out HGX.out HGY.out hown1 hgrow
            have HST := Lib.hid hst
            clear hst hown1 hgrow
            go_wp2
            go_roundw
            case rel => exact ⟨k + 1, by omega, by go_num, HST.out⟩
            case measure => simp [intOf]; omega
          · skip
            refine step_build64 (by rfl) _ (by rfl) x y wr.heap.size (by rfl) (wr.heap.size + 1 + 1) (by simp) ?_
            refine hK _ _ ?_
            clear hK K
            refine wpAny_ready (rs := [4]) (by kernel_rfl) (by simp) ?_
            refine AllReady.cons rfl (fun K hK => ?_) AllReady.nil
            go_simp
            refine hK _ _ ?_
            clear hK K
            refine wpAny_ready (rs := [7]) (by kernel_rfl) (by simp) ?_
            refine AllReady.cons rfl (fun K hK => ?_) AllReady.nil
            refine step_append_line (by rfl) _ _ (by rfl) w.heap.size a k cap (rowCells wh wd mb k) (by rfl) (((HROW.out.alloc _).alloc _).alloc _).drew.drew (wr.heap.size + 1 + 1) (by rfl) x y wr.heap.size (by exact alloc_at ((wr.alloc _).alloc _) _ (by simp)) hk40 (by have := HB3.out; simp; omega) ?_
            intro g cap1 w1 hown1 hgrow
            obtain ⟨sj1, sj2, sj3⟩ := step_j HJ0.out HROW.out hgrow
            refine hK _ _ ?_
            clear hK K
            refine wpAny_take (i := 8) (v := ?v19) rfl (by kernel_rfl) (by kernel_rfl) (by kernel_rfl) (fun _ _ _ h => h) (Or.inl ⟨by rfl, ?h19⟩) ?r19
            case h19 => (intro w; go_simp; try with_reducible rfl)
            refine wpAny_take (i := 9) (v := ?v20) rfl (by kernel_rfl) (by kernel_rfl) (by kernel_rfl) (fun _ _ _ h => h) (Or.inl ⟨by rfl, ?h20⟩) ?r20
            case h20 => (intro w; go_simp; try with_reducible rfl)
            refine wpAny_ready (rs := [10]) (by kernel_rfl) (by simp) ?_
            refine AllReady.cons rfl (fun K hK => ?_) AllReady.nil
            go_simp
            refine hK _ _ ?_
            clear hK K
            refine wpAny_done (by kernel_rfl) ?_ _
            have hst := NewSt.step HJ0.out HROW.out HMP.out HIN.out HFR.out HBX.out HGX.out HGY.out hown1 hgrow
            have HST := Lib.hid hst
            clear hst hown1 hgrow
            go_wp2
            go_roundw
            case rel => exact ⟨k + 1, by omega, by go_num, HST.out⟩
            case measure => simp [intOf]; omega
      · obtain rfl : k = wh.length := by omega
        have hfr := hN.fr
        have hdn := hN.done (by rw [List.length_zip]; omega)
        have HDN := Lib.hid hdn
        have HFR := Lib.hid hfr
        clear hdn hfr hN
        go_wp2
        go_ret
        exact ⟨_, rfl, HDN.out, HFR.out⟩
end Go.Proofs.Ytmggfdhlbjlpjaa
