/-
  DERIVED. Lists of facts, one behind the other; contracts as the laws want them.
-/
import Derived.Test.YtmggfdhlbjlpjaaCopy
import Derived.Test.YtmggfdhlbjlpjaaPure3
namespace Go.Proofs.Ytmggfdhlbjlpjaa
open Go.RowKit
set_option linter.unusedSimpArgs false
set_option linter.unusedVariables false

theorem Fo.mono {w : World} {base base' : Nat} {v : Value} {l : List FactP} (h : Fo w base v l) (hb : base' ≤ base) : Fo w base' v l := by
  obtain ⟨g, cap, cur, vs, D, h1, h2, h3, h4, hsz, h5, h6, h7⟩ := h
  exact ⟨g, cap, cur, vs, D, h1, h2, by omega, h4, hsz, h5, fun i hi => (h6 i hi).wide fun b hb' _ => ⟨hb'.1, by omega⟩, h7⟩

/-- The row of such a list. -/
theorem Fo.owns {w : World} {base : Nat} {v : Value} {l : List FactP} (h : Fo w base v l) : ∃ vs : Nat → Value, w.ownsRow base 43 8 v l.length (fcells l vs l.length) ∧ (∀ i (h : i < l.length), Ob w (fun b => base ≤ b) (vs i) l[i].data) ∧ v ≠ .slice none 0 0 := by
  obtain ⟨g, cap, cur, vs, D, rfl, h2, h3, h4, hsz, h5, h6, h7⟩ := h
  refine ⟨vs, ⟨fcells_length _ _ _, .inr ⟨g, cap, cur, rfl, h3, h4, h2, hsz.2, hsz.1, ?_⟩⟩, fun i hi => (h6 i hi).wide fun b hb _ => hb.2, fun e => by cases e⟩
  apply List.ext_getElem?
  intro j
  by_cases hj : j < l.length * 8
  · have hi : j / 8 < l.length := by omega
    have e := fcells_get l vs l.length (j / 8) hi (j % 8) (by omega)
    rw [show j / 8 * 8 + j % 8 = j by omega, getD_eq l _ hi, ← h5 (j / 8) hi (j % 8) (by omega), show j / 8 * 8 + j % 8 = j by omega] at e
    rw [e, List.getElem?_take_of_lt hj]
    simp
  · rw [List.getElem?_eq_none (by rw [List.length_take]; omega), List.getElem?_eq_none (by rw [fcells_length]; omega)]

theorem fcells_append (l m : List FactP) (vs us : Nat → Value) : ∀ k, k ≤ m.length → fcells (l ++ m) (fun i => if i < l.length then vs i else us (i - l.length)) (l.length + k) = fcells l vs l.length ++ fcells m us k := by
  have h1 : ∀ k, k ≤ l.length → fcells (l ++ m) (fun i => if i < l.length then vs i else us (i - l.length)) k = fcells l vs k := by
    intro k
    induction k with
    | zero => intro _; rfl
    | succ k ih =>
      intro hk
      unfold fcells
      rw [ih (by omega)]
      have : k < l.length := by omega
      simp [List.getD, this, List.getElem?_append_left this]
  intro k
  induction k with
  | zero => intro _; rw [Nat.add_zero, h1 _ (Nat.le_refl _)]; simp [fcells]
  | succ k ih =>
    intro hk
    rw [← Nat.add_assoc]
    show fcells _ _ (l.length + k) ++ _ = fcells l vs l.length ++ (fcells m us k ++ _)
    rw [ih (by omega), List.append_assoc]
    congr 2
    simp [List.getD, List.getElem?_append_right]
    rw [if_neg (by omega)]

/-- Cells of facts, whose data lie in O. -/
theorem fs_of_owns {w : World} {base : Nat} {O : Nat → Prop} {v : Value} {l : List FactP} {vs : Nat → Value} (h : w.ownsRow base 43 8 v l.length (fcells l vs l.length)) (hv : v ≠ .slice none 0 0) (hd : ∀ i (h : i < l.length), Bs w O (vs i) l[i].data) : Fs w (fun b => base ≤ b ∧ b < w.heap.size) O v l := by
  obtain ⟨_, h2⟩ := h
  rcases h2 with ⟨rfl, _⟩ | ⟨g, cap, cur, rfl, hg, hh, hnc, hcm, hsz, htk⟩
  · exact absurd rfl hv
  · have hb : Blk w g cur 43 := hh
    refine ⟨_, cap, rfl, hnc, fun h => (by cases h), fun _ => ⟨g, 0, rfl, ⟨hg, hb.lt⟩, fun i hi => ⟨vs i, hd i hi, fun k u hu => ?_⟩⟩⟩
    have hk : k < 8 := by
      rcases Nat.lt_or_ge k 8 with h | h
      · exact h
      · rw [Array.getElem?_eq_none (by show 8 ≤ k; omega)] at hu; cases hu
    have e := fcells_get l vs l.length i hi k hk
    rw [getD_eq l i hi, hu, ← htk, List.getElem?_take_of_lt (by omega)] at e
    rw [hb.cell, Nat.zero_add]
    simpa using e

/-- append(a, b...), as a step of a region that draws. -/
theorem step_append_facts {W : World} {ops : Array Oper} {o : Oper} {a : Act} {K : Act → World → Prop} {Q : Exit → Act → World → Prop} {E : Prop} (hgd : o.guard = none) (s x : Operand) (ho : o.op = .call { callee := .builtin .append, args := #[s, x], argTypes := #[26, 26] })
    (base : Nat) (v1 v2 : Value) (l1 l2 : List FactP) (hs : a.eval s = v1) (hx : a.eval x = v2) (h1 : Fo W base v1 l1) (h2 : Fo W base v2 l2) (hn : l1.length + l2.length ≤ 2000) (hbase : base ≤ W.heap.size)
    (h : ∀ v3 w1, Fs w1 (fun b => base ≤ b ∧ b < w1.heap.size) (fun b => base ≤ b ∧ b < w1.heap.size) v3 (l1 ++ l2) → Fr (fun b => base ≤ b) W w1 → K (a.put o.dst v3) w1) :
    if Region.wanted o (yielded ops a.tmps) = true then Oper.wp Try.prog o a W K Q else E := by
  have hw : Region.wanted o (yielded ops a.tmps) = true := by simp [Region.wanted, hgd]
  rw [if_pos hw]
  obtain ⟨i0, hi0, hz0, hz1, hz2⟩ := info_parts Try.info43
  obtain ⟨vs, ho1, hd1, hv1⟩ := h1.owns
  obtain ⟨us, ho2, hd2, hv2⟩ := h2.owns
  obtain ⟨g2, c2, rfl⟩ := owns_some ho2 hv2
  have hsrc : ∀ j u, (fcells l2 us l2.length)[j]? = some u → W.cell? ((⟨g2, 0, none⟩ : Addr).add j) = some u := ho2.cells rfl
  have hone : ∀ u ∈ fcells l2 us l2.length, u.oneCell' = true := fcells_one l2 l2.length fun i hi => by obtain ⟨a, c, h⟩ := (hd2 i hi).shape; rw [h]; rfl
  refine wp_append_own W s x 26 ho base 43 i0 _ 8 72 Try.underlying26 hi0 hz0 hz1 hz2 rfl (by omega) v1 l1.length (fcells l1 vs l1.length) hs ho1 ⟨g2, 0, none⟩ l2.length c2 (fcells l2 us l2.length) hx (fcells_length _ _ _) hsrc hone (by unfold maxLen; omega) (by omega) hbase ?_
  intro v3 w1 e1 e2 e3
  have k2 := grown_fr e2
  have kb : Fr (fun b => base ≤ b) W w1 := k2.wide fun b hb _ => (owns_block ho1 hb.symm).1
  refine h v3 w1 ?_ kb
  have hkeep : ∀ {v : Value} {x : List UInt8}, Ob W (fun b => base ≤ b) v x → Bs w1 (fun b => base ≤ b ∧ b < w1.heap.size) v x := by
    intro v x hv
    have hv' : Ob w1 (fun b => base ≤ b) v x := hv.keep' k2 fun b cur _ hb hc => by
      obtain ⟨_, cur', hc'⟩ := owns_block ho1 hc.symm
      exact hb.unlike hc' (by decide) rfl
    exact (hv'.wide (C := fun b => base ≤ b ∧ b < w1.heap.size) fun b hb hlt => ⟨hb, hlt⟩).bs
  refine fs_of_owns (vs := fun i => if i < l1.length then vs i else us (i - l1.length)) ?_ (fun e => hv1 (e3.1 e).1) fun i hi => ?_
  · have := fcells_append l1 l2 vs us l2.length (Nat.le_refl _)
    rw [List.length_append, this]
    exact e1
  · by_cases hil : i < l1.length
    · simp only [hil, if_true]
      rw [List.getElem_append_left hil]
      exact hkeep (hd1 i hil)
    · simp only [hil, if_false]
      rw [List.length_append] at hi
      rw [List.getElem_append_right (by omega)]
      exact hkeep (hd2 (i - l1.length) (by omega))

/-- Pair's net. -/
def pairNet : List (Int × Int) := [10, 11].zip [10, 11]
theorem pair_net : NetOk pairNet := by
  intro p hp
  simp only [pairNet, List.zip_cons_cons, List.zip_nil_left, List.mem_cons, List.not_mem_nil, or_false] at hp
  rcases hp with rfl | rfl <;> decide

/-- Check over Pair's net, with its answer known. -/
theorem check_pair {OH : Nat → Prop} {vh vd : Value} {W0 : World} (hh : Prs W0 OH vh [10, 11]) (hd : Prs W0 OH vd [10, 11]) (r p : Int) {l : List FactP} (hgood : ∀ f ∈ l, f.Good) (hn : l.length ≤ 1900) (hc : check pairNet l = (r, p)) {R O : Nat → Prop} (W : World) (k : Fr No W0 W) (v : Value) (hl : Fs W R O v l) (hR : ∀ b, R b → b < W.heap.size) (hO : ∀ b, O b → b < W.heap.size) :
    Calls Try.prog 15 #[.agg #[vh, vd, .int .u32 50], v] W fun e w' => e = .returned (.agg #[.int .i64 r, .int .i64 p]) ∧ Fr No W w' := by
  have := check_any OH OH R O vh vd v [10, 11] [10, 11] 50 l W (hh.keep k fun _ _ => id) (hd.keep k fun _ _ => id) (by decide) pair_net hl hgood hn hR hO
  rw [show check ([10, 11].zip [10, 11]) l = (r, p) from hc] at this
  exact this

end Go.Proofs.Ytmggfdhlbjlpjaa
