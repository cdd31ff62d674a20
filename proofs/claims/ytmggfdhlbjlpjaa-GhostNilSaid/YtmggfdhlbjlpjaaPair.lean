/-
  DERIVED. The walk of Pair (of two connections).
-/
import Derived.Test.YtmggfdhlbjlpjaaAwake
namespace Go.Proofs.Ytmggfdhlbjlpjaa
open Go.RowKit
set_option linter.unusedSimpArgs false
set_option linter.unusedVariables false

theorem Try.info66 : (Try.prog.info? 66).map (fun i => (i.zero, i.size, i.bytes)) = some (some (.agg #[.int .u32 0, .int .i64 0, .int .i64 0, .int .i64 0, .int .u32 0]), 5, 40) := by kernel_rfl

/-- The cells of the k-th set. -/
def prmCells : Nat → List Value
  | 0 => [.int .u32 7, .int .i64 2, .int .i64 1, .int .i64 10, .int .u32 9]
  | _ + 1 => [.int .u32 8, .int .i64 2, .int .i64 1, .int .i64 11, .int .u32 9]
def prms : Nat → List Value
  | 0 => []
  | k + 1 => prms k ++ prmCells k

theorem wpList_append_prm {W : World} {ops : Array Oper} {rest : List Oper} {o : Oper} {a : Act} {Q : Exit → Act → World → Prop} (hgd : o.guard = none) (s x : Operand) (ho : o.op = .call { callee := .builtin .append, args := #[s, x], argTypes := #[22, 22] })
    (base : Nat) (v0 : Value) (k : Nat) (xs : List Value) (hs : a.eval s = v0) (hown : W.ownsRow base 66 5 v0 k xs) (B : Nat) (hx : a.eval x = .slice (some ⟨B, 0, none⟩) 1 1) (ns : List Value) (hn : ns.length = 5) (h1 : ∀ u ∈ ns, u.oneCell' = true)
    (hB : W.heap[B]? = some (.cells ns.toArray 66 (0, 0))) (hk : k ≤ 40) (hbase : base ≤ W.heap.size)
    (h : ∀ g cap1 w1, w1.ownsRow base 66 5 (.slice (some ⟨g, 0, none⟩) (k + 1) cap1) (k + 1) (xs ++ ns) → W.grownBy w1 v0.ownBlock → (v0.ownBlock = some g ∨ g = W.heap.size) → wpList Try.prog ops Q rest (a.put o.dst (.slice (some ⟨g, 0, none⟩) (k + 1) cap1)) w1) :
    wpList Try.prog ops Q (o :: rest) a W := by
  obtain ⟨i0, hi0, hz0, hz1, hz2⟩ := info_parts Try.info66
  refine wpList_append_lies _ hgd s x 22 ho base 66 i0 _ 5 40 Try.underlying22 hi0 hz0 hz1 hz2 rfl (by omega) v0 k xs hs hown ⟨B, 0, none⟩ 1 1 ns hx (by rw [hn]) (World.news_of_block (cs := ns.toArray) hB) h1 (by omega) (by unfold maxLen; omega) (by omega) hbase W.heap.size rfl ?_
  intro g cap1 w1 h1 h2 h3 _
  exact h g cap1 w1 h1 h2 h3

/-- On the way: k sets are laid. -/
structure PairSt (w wr : World) (vh vd : Value) (k : Nat) : Prop where
  n : Blk wr (w.heap.size + 1) #[vh, vd, .int .u32 50] 25
  r : Blk wr w.heap.size #[.slice none 0 0, .slice none 0 0, .int .u32 0] 25
  h : wr.ownsRow w.heap.size 66 5 vh k (prms k)
  d : wr.ownsRow w.heap.size 66 5 vd k (prms k)
  ne : ∀ g, vh.ownBlock = some g → vd.ownBlock = some g → False
  f : Fr No w wr

theorem PairSt.keep {w wr w2 : World} {vh vd : Value} {k : Nat} (h : PairSt w wr vh vd k) (kk : Fr No wr w2) : PairSt w w2 vh vd k :=
  ⟨kk.blk h.n id, kk.blk h.r id, owns_keep h.h fun g hg => kk.block g (owns_block h.h hg).2.choose_spec.lt id, owns_keep h.d fun g hg => kk.block g (owns_block h.d hg).2.choose_spec.lt id, h.ne, h.f.trans kk⟩

/-- Behind the first append. -/
theorem PairSt.mid {w w2 w3 : World} {vh vd : Value} {k g cap1 : Nat} {oP : Array Value} {oR : Obj} (h : PairSt w w2 vh vd k) (h2 : ((w2.alloc (.cells oP 66)).alloc oR).grownBy w3 vh.ownBlock) :
    Blk w3 (w.heap.size + 1) #[vh, vd, .int .u32 50] 25 ∧ Blk w3 w.heap.size #[.slice none 0 0, .slice none 0 0, .int .u32 0] 25 ∧ Blk w3 w2.heap.size oP 66 ∧ w3.ownsRow w.heap.size 66 5 vd k (prms k) ∧ Fr No w w3 ∧ w2.heap.size + 2 ≤ w3.heap.size := by
  have kk : Fr No w2 ((w2.alloc (.cells oP 66)).alloc oR) := ((Fr.refl No w2).alloc _).alloc _
  have hk := h.keep kk
  have k2 := grown_fr h2
  have lt := fun g' (e : vh.ownBlock = some g') => (owns_block h.h e).2.choose_spec.lt
  have hsz := k2.size
  simp at hsz
  refine ⟨k2.blk hk.n fun e => ?_, k2.blk hk.r fun e => ?_, k2.blk (((Fr.refl No _).alloc oR).blk (Blk.new w2 oP 66) id) fun e => ?_, owns_keep hk.d fun g' hg' => k2.block g' (owns_block hk.d hg').2.choose_spec.lt fun e => h.ne g' e.symm hg', ?_, by omega⟩
  · obtain ⟨_, cur, hc⟩ := owns_block hk.h e.symm
    exact hk.n.unlike hc (by decide) rfl
  · obtain ⟨_, cur, hc⟩ := owns_block hk.h e.symm
    exact hk.r.unlike hc (by decide) rfl
  · have := lt _ e.symm; omega
  · exact hk.f.more k2 fun b hb hlt => by
      have := (owns_block hk.h hb.symm).1
      omega

theorem own_set {w W : World} {v : Value} {k : Nat} {xs : List Value} {b i : Nat} {cs : Array Value} (h : W.ownsRow w.heap.size 66 5 v k xs) (hb : Blk W b cs 25) (u : Value) : (W.setCell ⟨b, i, none⟩ u).ownsRow w.heap.size 66 5 v k xs :=
  owns_keep h fun g hg => ((Fr.refl (fun x => x = b) W).setCell (p := ⟨b, i, none⟩) (fun _ => rfl) u).block g (owns_block h hg).2.choose_spec.lt fun e => by
    obtain ⟨_, cur, hc⟩ := owns_block h hg
    exact hb.unlike hc (by decide) e.symm

/-- Behind both. -/
theorem PairSt.step {w w2 w3 w4 : World} {vh vd : Value} {k g cap1 g2 cap2 : Nat} {oP : Array Value} {oR oR2 : Obj} (h : PairSt w w2 vh vd k) (h1 : w3.ownsRow w.heap.size 66 5 (.slice (some ⟨g, 0, none⟩) (k + 1) cap1) (k + 1) (prms k ++ prmCells k))
    (h2 : ((w2.alloc (.cells oP 66)).alloc oR).grownBy w3 vh.ownBlock) (h3 : vh.ownBlock = some g ∨ g = ((w2.alloc (.cells oP 66)).alloc oR).heap.size)
    (e1 : w4.ownsRow w.heap.size 66 5 (.slice (some ⟨g2, 0, none⟩) (k + 1) cap2) (k + 1) (prms k ++ prmCells k)) (e2 : ((w3.setCell ⟨w.heap.size + 1, 0, none⟩ (.slice (some ⟨g, 0, none⟩) (k + 1) cap1)).alloc oR2).grownBy w4 vd.ownBlock)
    (e3 : vd.ownBlock = some g2 ∨ g2 = ((w3.setCell ⟨w.heap.size + 1, 0, none⟩ (.slice (some ⟨g, 0, none⟩) (k + 1) cap1)).alloc oR2).heap.size) :
    PairSt w (w4.setCell ⟨w.heap.size + 1, 1, none⟩ (.slice (some ⟨g2, 0, none⟩) (k + 1) cap2)) (.slice (some ⟨g, 0, none⟩) (k + 1) cap1) (.slice (some ⟨g2, 0, none⟩) (k + 1) cap2) (k + 1) := by
  obtain ⟨n3, r3, _, d3, f3, _⟩ := h.mid (g := g) (cap1 := cap1) h2
  have kk : Fr No w2 ((w2.alloc (.cells oP 66)).alloc oR) := ((Fr.refl No w2).alloc _).alloc _
  have hlt2 : ∀ g', vd.ownBlock = some g' → g' < w2.heap.size := fun g' e => (owns_block h.d e).2.choose_spec.lt
  have hgd : vd.ownBlock ≠ some g := by
    intro e
    rcases h3 with h3 | h3
    · exact h.ne _ h3 e
    · have := hlt2 _ e
      simp at h3; omega
  have hgl : g < w3.heap.size := (owns_block h1 rfl).2.choose_spec.lt
  have s3 : Fr (fun x => x = w.heap.size + 1) w3 (w3.setCell ⟨w.heap.size + 1, 0, none⟩ (.slice (some ⟨g, 0, none⟩) (k + 1) cap1)) := (Fr.refl (fun x => x = w.heap.size + 1) w3).setCell (p := ⟨w.heap.size + 1, 0, none⟩) (fun _ => rfl) _
  have nB : Blk ((w3.setCell ⟨w.heap.size + 1, 0, none⟩ (.slice (some ⟨g, 0, none⟩) (k + 1) cap1)).alloc oR2) (w.heap.size + 1) #[.slice (some ⟨g, 0, none⟩) (k + 1) cap1, vd, .int .u32 50] 25 := ((Fr.refl No _).alloc _).blk (n3.set' 0 _ rfl) id
  have rB : Blk ((w3.setCell ⟨w.heap.size + 1, 0, none⟩ (.slice (some ⟨g, 0, none⟩) (k + 1) cap1)).alloc oR2) w.heap.size #[.slice none 0 0, .slice none 0 0, .int .u32 0] 25 := ((Fr.refl No _).alloc _).blk (s3.blk r3 (by omega)) id
  have hB := (own_set (i := 0) h1 n3 (.slice (some ⟨g, 0, none⟩) (k + 1) cap1)).alloc oR2
  have dB := (own_set (i := 0) d3 n3 (.slice (some ⟨g, 0, none⟩) (k + 1) cap1)).alloc oR2
  have fB : Fr No w ((w3.setCell ⟨w.heap.size + 1, 0, none⟩ (.slice (some ⟨g, 0, none⟩) (k + 1) cap1)).alloc oR2) := (f3.more s3 (by rintro x rfl hx; omega)).alloc _
  have k4 := grown_fr e2
  have n4 : Blk w4 (w.heap.size + 1) #[.slice (some ⟨g, 0, none⟩) (k + 1) cap1, vd, .int .u32 50] 25 := k4.blk nB fun e => by
    obtain ⟨_, cur, hc⟩ := owns_block dB e.symm
    exact nB.unlike hc (by decide) rfl
  have r4 : Blk w4 w.heap.size #[.slice none 0 0, .slice none 0 0, .int .u32 0] 25 := k4.blk rB fun e => by
    obtain ⟨_, cur, hc⟩ := owns_block dB e.symm
    exact rB.unlike hc (by decide) rfl
  have h4 : w4.ownsRow w.heap.size 66 5 (.slice (some ⟨g, 0, none⟩) (k + 1) cap1) (k + 1) (prms k ++ prmCells k) := owns_keep hB fun g' hg' => by
    cases hg'
    exact k4.block g (owns_block hB rfl).2.choose_spec.lt fun e => hgd e.symm
  have s4 : Fr (fun x => x = w.heap.size + 1) w4 (w4.setCell ⟨w.heap.size + 1, 1, none⟩ (.slice (some ⟨g2, 0, none⟩) (k + 1) cap2)) := (Fr.refl (fun x => x = w.heap.size + 1) w4).setCell (p := ⟨w.heap.size + 1, 1, none⟩) (fun _ => rfl) _
  refine ⟨n4.set' 1 _ rfl, s4.blk r4 (by omega), own_set (i := 1) h4 n4 _, own_set (i := 1) e1 n4 _, ?_, ?_⟩
  · intro g' ea eb
    cases ea
    cases eb
    rcases e3 with e3 | e3
    · exact hgd e3
    · simp [World.setCell] at e3; omega
  · have f4 : Fr No w w4 := fB.more k4 fun b hb hlt => by
      have := (owns_block dB hb.symm).1
      omega
    exact f4.more s4 (by rintro x rfl hx; omega)

theorem prmCells_one (k : Nat) : ∀ u ∈ prmCells k, u.oneCell' = true := by
  intro u hu
  cases k
  all_goals simp only [prmCells, List.mem_cons, List.not_mem_nil, or_false] at hu
  all_goals rcases hu with rfl | rfl | rfl | rfl | rfl <;> rfl

theorem n1_blk {w w3 w4 : World} {vh vd sl : Value} {k : Nat} {oR2 : Obj} (d3 : w3.ownsRow w.heap.size 66 5 vd k (prms k)) (n3 : Blk w3 (w.heap.size + 1) #[vh, vd, .int .u32 50] 25) (e2 : ((w3.setCell ⟨w.heap.size + 1, 0, none⟩ sl).alloc oR2).grownBy w4 vd.ownBlock) : Blk w4 (w.heap.size + 1) #[sl, vd, .int .u32 50] 25 := by
  have nB : Blk ((w3.setCell ⟨w.heap.size + 1, 0, none⟩ sl).alloc oR2) (w.heap.size + 1) #[sl, vd, .int .u32 50] 25 := ((Fr.refl No _).alloc _).blk (n3.set' 0 _ rfl) id
  have dB := (own_set (i := 0) d3 n3 sl).alloc oR2
  exact (grown_fr e2).blk nB fun e => by
    obtain ⟨_, cur, hc⟩ := owns_block dB e.symm
    exact nB.unlike hc (by decide) rfl
theorem n1_of {w w3 w4 : World} {vh vd sl : Value} {k : Nat} {oR2 : Obj} (d3 : w3.ownsRow w.heap.size 66 5 vd k (prms k)) (n3 : Blk w3 (w.heap.size + 1) #[vh, vd, .int .u32 50] 25) (e2 : ((w3.setCell ⟨w.heap.size + 1, 0, none⟩ sl).alloc oR2).grownBy w4 vd.ownBlock) : w4.cell? ⟨w.heap.size + 1, 1, none⟩ = some vd := (n1_blk d3 n3 e2).cell 1
theorem n1_fr {w w3 w4 : World} {vh vd sl : Value} {k : Nat} {oR2 : Obj} (d3 : w3.ownsRow w.heap.size 66 5 vd k (prms k)) (n3 : Blk w3 (w.heap.size + 1) #[vh, vd, .int .u32 50] 25) (e2 : ((w3.setCell ⟨w.heap.size + 1, 0, none⟩ sl).alloc oR2).grownBy w4 vd.ownBlock) : w4.frozen? ⟨w.heap.size + 1, 1, none⟩ = false := (n1_blk d3 n3 e2).free 1
theorem n1_lt {w w3 w4 : World} {vh vd sl : Value} {k : Nat} {oR2 : Obj} (d3 : w3.ownsRow w.heap.size 66 5 vd k (prms k)) (n3 : Blk w3 (w.heap.size + 1) #[vh, vd, .int .u32 50] 25) (e2 : ((w3.setCell ⟨w.heap.size + 1, 0, none⟩ sl).alloc oR2).grownBy w4 vd.ownBlock) : w.heap.size + 1 < w4.heap.size := (n1_blk d3 n3 e2).lt

theorem owns_shape {w : World} {base : Nat} {e : TypeId} {sz : Nat} {v : Value} {n : Nat} {xs : List Value} (h : w.ownsRow base e sz v n xs) : ∃ a cap, v = .slice a n cap := by
  obtain ⟨_, h2⟩ := h
  rcases h2 with ⟨rfl, rfl⟩ | ⟨g, cap, cur, rfl, _⟩
  · exact ⟨none, 0, rfl⟩
  · exact ⟨_, cap, rfl⟩

theorem prs_owns {w : World} {base : Nat} {v : Value} (h : w.ownsRow base 66 5 v 2 (prms 2)) : Prs w (fun b => base ≤ b ∧ b < w.heap.size) v [10, 11] := by
  obtain ⟨_, h2⟩ := h
  rcases h2 with ⟨_, h0⟩ | ⟨g, cap, cur, rfl, h3, h4, _, _, _, h7⟩
  · cases h0
  · refine ⟨_, cap, prms 2, rfl, rfl, fun _ => ⟨g, 0, rfl, ⟨h3, lt_of_heap h4⟩, fun j u hj => ?_⟩, ?_, ?_⟩
    · have hb : Blk w g cur 66 := h4
      have hj' : j < 10 := by
        rcases Nat.lt_or_ge j 10 with h | h
        · exact h
        · rw [List.getElem?_eq_none (by show 10 ≤ j; omega)] at hj; cases hj
      rw [← h7, List.getElem?_take_of_lt (by omega)] at hj
      rw [hb.cell, Nat.zero_add]
      simpa using hj
    · intro u hu
      simp only [prms, List.nil_append, List.mem_append] at hu
      rcases hu with hu | hu
      · exact prmCells_one _ u hu
      · exact prmCells_one _ u hu
    · intro i hi
      have hi2 : i < 2 := hi
      rcases (by omega : i = 0 ∨ i = 1) with rfl | rfl <;> rfl

set_option maxRecDepth 1000000 in
set_option maxHeartbeats 8000000 in
theorem pair_any (w : World) : Calls Try.prog 16 #[.int .i64 1] w fun e w' => ∃ vh vd, e = .returned (netV vh vd 50) ∧ Prs w' (fun b => w.heap.size ≤ b ∧ b < w'.heap.size) vh [10, 11] ∧ Prs w' (fun b => w.heap.size ≤ b ∧ b < w'.heap.size) vd [10, 11] ∧ Fr No w w' := by
  have st0 : PairSt w ((w.alloc (.cells #[.slice none 0 0, .slice none 0 0, .int .u32 0] 25)).alloc (.cells #[.slice none 0 0, .slice none 0 0, .int .u32 50] 25)) (.slice none 0 0) (.slice none 0 0) 0 :=
    ⟨alloc_at _ _ (by simp), ((Fr.refl No _).alloc _).blk (Blk.new w _ _) id, World.ownsRow_nil _ _ _ _, World.ownsRow_nil _ _ _ _, fun g h => (by cases h), ((Fr.refl No w).alloc _).alloc _⟩
  have HST0 := Lib.hid st0
  clear st0
  go_enter Try.func16, Try.ntmps16
  go_wp2
  go_loopw [4] (fun vk wr => ∃ (k : Nat) (vh vd : Value), k ≤ 2 ∧ vk = .int .i64 k ∧ PairSt w wr vh vd k) (fun k _ => 2 - (intOf k).toNat)
  case atStart => exact ⟨0, _, _, by omega, rfl, HST0.out⟩
  case round =>
    obtain ⟨k, vh, vd, hk, rfl, hst⟩ := hrel
    by_cases hlt : k < 2
    · have HST := Lib.hid hst
      clear hst
      rcases (by omega : k = 0 ∨ k = 1) with rfl | rfl
      · go_wp2_with (first | (go_at_call 20; refine (small_any _).mono ?_; rintro e w2 ⟨rfl, hk2⟩; unfold smallV; have hs2 := HST.out.keep hk2; have q0 : w2.cell? ⟨w.heap.size + 1, 0, none⟩ = some vh := hs2.n.cell 0; have q1 : w2.cell? ⟨w.heap.size + 1, 1, none⟩ = some vd := hs2.n.cell 1; have fz0 := hs2.n.free 0; have fz1 := hs2.n.free 1; have nl := hs2.n.lt; have l1 : w.heap.size + 1 < w2.heap.size + 1 := Nat.lt_succ_of_lt nl; have l2 : w.heap.size + 1 < w2.heap.size + 1 + 1 := Nat.lt_succ_of_lt l1; have HS2 := Lib.hid hs2; clear hs2 hk2) | (at_builtin; refine wpList_append_prm rfl _ _ rfl w.heap.size vd 0 (prms 0) (by rfl) ((own_set D3.out N3.out _).alloc _) w3.heap.size (by rfl) (prmCells 0) rfl (prmCells_one 0) (by exact alloc_at _ _ (by simp [World.setCell])) (by decide) (by have := F3.out.size; simp [World.setCell]; omega) ?_; intro g2 cap2 w4 e1 e2 e3; have st := HS2.out.step H1.out H2.out H3.out e1 e2 e3; have ST := Lib.hid st; have n4 := st.n; have m0 : w4.cell? ⟨w.heap.size + 1, 1, none⟩ = some vd := n1_of D3.out N3.out e2; have m1 := n1_fr D3.out N3.out e2; have m2 := n1_lt D3.out N3.out e2; clear st n4 e1 e2 e3) | (at_builtin; refine wpList_append_prm rfl _ _ rfl w.heap.size vh 0 (prms 0) (by rfl) ((HS2.out.h.alloc _).alloc _) (w2.heap.size + 1) (by rfl) (prmCells 0) rfl (prmCells_one 0) (by exact alloc_at _ _ (by simp [World.setCell])) (by decide) (by have := HS2.out.f.size; simp; omega) ?_; intro g cap1 w3 h1 h2 h3; obtain ⟨n3, r3, p3, d3, f3, z3⟩ := HS2.out.mid (g := g) (cap1 := cap1) h2; have c0 : w3.cell? ⟨w.heap.size + 1, 0, none⟩ = some vh := n3.cell 0; have c1 : w3.cell? ⟨w.heap.size + 1, 1, none⟩ = some vd := n3.cell 1; have y0 := n3.free 0; have y1 := n3.free 1; have nl3 := n3.lt; have pl3 := p3.lt; have pn : w.heap.size + 1 ≠ w2.heap.size := Nat.ne_of_lt nl; have pn' : w2.heap.size ≠ w.heap.size + 1 := fun e => pn e.symm; have a0 : w3.cell? ⟨w2.heap.size, 0, none⟩ = some (.int .u32 7) := p3.cell 0; have a1 : w3.cell? ⟨w2.heap.size, 1, none⟩ = some (.int .i64 2) := p3.cell 1; have a2 : w3.cell? ⟨w2.heap.size, 2, none⟩ = some (.int .i64 1) := p3.cell 2; have a3 : w3.cell? ⟨w2.heap.size, 3, none⟩ = some (.int .i64 10) := p3.cell 3; have a4 : w3.cell? ⟨w2.heap.size, 4, none⟩ = some (.int .u32 9) := p3.cell 4; have N3 := Lib.hid n3; have D3 := Lib.hid d3; have F3 := Lib.hid f3; have H1 := Lib.hid h1; have H2 := Lib.hid h2; have H3 := Lib.hid h3; clear n3 r3 p3 d3 f3 h1 h2 h3))
        go_roundw
        case rel => exact ⟨1, _, _, by omega, by go_num, ST.out⟩
        case measure => simp [intOf]
      · go_wp2_with (first | (go_at_call 20; refine (small_any _).mono ?_; rintro e w2 ⟨rfl, hk2⟩; unfold smallV; have hs2 := HST.out.keep hk2; have q0 : w2.cell? ⟨w.heap.size + 1, 0, none⟩ = some vh := hs2.n.cell 0; have q1 : w2.cell? ⟨w.heap.size + 1, 1, none⟩ = some vd := hs2.n.cell 1; have fz0 := hs2.n.free 0; have fz1 := hs2.n.free 1; have nl := hs2.n.lt; have l1 : w.heap.size + 1 < w2.heap.size + 1 := Nat.lt_succ_of_lt nl; have l2 : w.heap.size + 1 < w2.heap.size + 1 + 1 := Nat.lt_succ_of_lt l1; have HS2 := Lib.hid hs2; clear hs2 hk2) | (at_builtin; refine wpList_append_prm rfl _ _ rfl w.heap.size vd 1 (prms 1) (by rfl) ((own_set D3.out N3.out _).alloc _) w3.heap.size (by rfl) (prmCells 1) rfl (prmCells_one 1) (by exact alloc_at _ _ (by simp [World.setCell])) (by decide) (by have := F3.out.size; simp [World.setCell]; omega) ?_; intro g2 cap2 w4 e1 e2 e3; have st := HS2.out.step H1.out H2.out H3.out e1 e2 e3; have ST := Lib.hid st; have n4 := st.n; have m0 : w4.cell? ⟨w.heap.size + 1, 1, none⟩ = some vd := n1_of D3.out N3.out e2; have m1 := n1_fr D3.out N3.out e2; have m2 := n1_lt D3.out N3.out e2; clear st n4 e1 e2 e3) | (at_builtin; refine wpList_append_prm rfl _ _ rfl w.heap.size vh 1 (prms 1) (by rfl) ((HS2.out.h.alloc _).alloc _) (w2.heap.size + 1) (by rfl) (prmCells 1) rfl (prmCells_one 1) (by exact alloc_at _ _ (by simp [World.setCell])) (by decide) (by have := HS2.out.f.size; simp; omega) ?_; intro g cap1 w3 h1 h2 h3; obtain ⟨n3, r3, p3, d3, f3, z3⟩ := HS2.out.mid (g := g) (cap1 := cap1) h2; have c0 : w3.cell? ⟨w.heap.size + 1, 0, none⟩ = some vh := n3.cell 0; have c1 : w3.cell? ⟨w.heap.size + 1, 1, none⟩ = some vd := n3.cell 1; have y0 := n3.free 0; have y1 := n3.free 1; have nl3 := n3.lt; have pl3 := p3.lt; have pn : w.heap.size + 1 ≠ w2.heap.size := Nat.ne_of_lt nl; have pn' : w2.heap.size ≠ w.heap.size + 1 := fun e => pn e.symm; have a0 : w3.cell? ⟨w2.heap.size, 0, none⟩ = some (.int .u32 8) := p3.cell 0; have a1 : w3.cell? ⟨w2.heap.size, 1, none⟩ = some (.int .i64 2) := p3.cell 1; have a2 : w3.cell? ⟨w2.heap.size, 2, none⟩ = some (.int .i64 1) := p3.cell 2; have a3 : w3.cell? ⟨w2.heap.size, 3, none⟩ = some (.int .i64 11) := p3.cell 3; have a4 : w3.cell? ⟨w2.heap.size, 4, none⟩ = some (.int .u32 9) := p3.cell 4; have N3 := Lib.hid n3; have D3 := Lib.hid d3; have F3 := Lib.hid f3; have H1 := Lib.hid h1; have H2 := Lib.hid h2; have H3 := Lib.hid h3; clear n3 r3 p3 d3 f3 h1 h2 h3))
        go_roundw
        case rel => exact ⟨2, _, _, by omega, by go_num, ST.out⟩
        case measure => simp [intOf]
    · obtain rfl : k = 2 := by omega
      have q0 : wr.cell? ⟨w.heap.size + 1, 0, none⟩ = some vh := hst.n.cell 0
      have q1 : wr.cell? ⟨w.heap.size + 1, 1, none⟩ = some vd := hst.n.cell 1
      have q2 : wr.cell? ⟨w.heap.size + 1, 2, none⟩ = some (.int .u32 50) := hst.n.cell 2
      have r0 : wr.cell? ⟨w.heap.size, 0, none⟩ = some (.slice none 0 0) := hst.r.cell 0
      have r1 : wr.cell? ⟨w.heap.size, 1, none⟩ = some (.slice none 0 0) := hst.r.cell 1
      have r2 : wr.cell? ⟨w.heap.size, 2, none⟩ = some (.int .u32 0) := hst.r.cell 2
      have f0 := hst.r.free 0
      have f1 := hst.r.free 1
      have f2 := hst.r.free 2
      have nl := hst.n.lt
      have HST := Lib.hid hst
      obtain ⟨ah, ch, hvh⟩ := owns_shape hst.h
      obtain ⟨ad, cd, hvd⟩ := owns_shape hst.d
      subst hvh hvd
      clear hst
      go_wp2
      refine bodyPost_ret (v := netV (.slice ah 2 ch) (.slice ad 2 cd) 50) (by simp [results, Try.results16, go_sem, netV, q0, q1, q2, r0, r1, r2]) rfl ⟨_, _, rfl, ?_, ?_, ?_⟩
      · exact prs_owns (own_set (i := 2) (own_set (i := 1) (own_set (i := 0) HST.out.h HST.out.r _) (HST.out.r.set 0 _) _) ((HST.out.r.set 0 _).set 1 _) _)
      · exact prs_owns (own_set (i := 2) (own_set (i := 1) (own_set (i := 0) HST.out.d HST.out.r _) (HST.out.r.set 0 _) _) ((HST.out.r.set 0 _).set 1 _) _)
      · exact ((HST.out.f.setCell (p := ⟨w.heap.size, 0, none⟩) (fun h => absurd h (Nat.lt_irrefl _)) _).setCell (p := ⟨w.heap.size, 1, none⟩) (fun h => absurd h (Nat.lt_irrefl _)) _).setCell (p := ⟨w.heap.size, 2, none⟩) (fun h => absurd h (Nat.lt_irrefl _)) _
end Go.Proofs.Ytmggfdhlbjlpjaa
