/-
  DERIVED. The walk of Copied: facts with their own data.
-/
import Derived.Test.YtmggfdhlbjlpjaaPair
namespace Go.Proofs.Ytmggfdhlbjlpjaa
open Go.RowKit
set_option linter.unusedSimpArgs false
set_option linter.unusedVariables false

theorem Try.info43 : (Try.prog.info? 43).map (fun i => (i.zero, i.size, i.bytes)) = some (some (.agg #[.int .i64 0, .int .i64 0, .int .i64 0, .int .u32 0, .int .u32 0, .bool false, .int .i64 0, .slice none 0 0]), 8, 72) := by kernel_rfl

/-- All cells of k facts. -/
def fcells (l : List FactP) (vs : Nat → Value) : Nat → List Value
  | 0 => []
  | k + 1 => fcells l vs k ++ (factCells (l.getD k ⟨0, 0, 0, 0, 0, false, 0, []⟩) (vs k)).toList
theorem fcells_length (l : List FactP) (vs : Nat → Value) : ∀ k, (fcells l vs k).length = k * 8
  | 0 => rfl
  | k + 1 => by
    unfold fcells
    rw [List.length_append, fcells_length l vs k]
    show k * 8 + 8 = _
    omega
theorem fcells_get (l : List FactP) (vs : Nat → Value) : ∀ (k i : Nat), i < k → ∀ j, j < 8 → (fcells l vs k)[i * 8 + j]? = (factCells (l.getD i ⟨0, 0, 0, 0, 0, false, 0, []⟩) (vs i))[j]?
  | 0, i, h, _, _ => by omega
  | k + 1, i, h, j, hj => by
    unfold fcells
    by_cases hik : i < k
    · rw [List.getElem?_append_left (by rw [fcells_length]; omega)]
      exact fcells_get l vs k i hik j hj
    · obtain rfl : i = k := by omega
      rw [List.getElem?_append_right (by rw [fcells_length]; omega), fcells_length]
      rw [show i * 8 + j - i * 8 = j by omega, Array.getElem?_toList]
theorem fcells_one (l : List FactP) {vs : Nat → Value} : ∀ k, (∀ i, i < k → (vs i).oneCell' = true) → ∀ u ∈ fcells l vs k, u.oneCell' = true
  | 0, _, u, hu => by cases hu
  | k + 1, h, u, hu => by
    unfold fcells at hu
    rcases List.mem_append.1 hu with hu | hu
    · exact fcells_one l k (fun i hi => h i (by omega)) u hu
    · simp only [factCells, List.mem_cons, List.not_mem_nil, or_false] at hu
      rcases hu with rfl | rfl | rfl | rfl | rfl | rfl | rfl | rfl
      · rfl
      · rfl
      · rfl
      · rfl
      · rfl
      · rfl
      · rfl
      · exact h k (by omega)

theorem getD_eq (l : List FactP) (i : Nat) (h : i < l.length) (d : FactP) : l.getD i d = l[i] := by simp [List.getD, h]

/-- The facts' cells lie in this row; each one's data is vs i. -/
def Frow (cur : Array Value) (l : List FactP) (vs : Nat → Value) : Prop := ∀ i (h : i < l.length), ∀ j, j < 8 → cur[i * 8 + j]? = (factCells l[i] (vs i))[j]?

/-- A list of facts with a row of its own, and each fact with data of its own. -/
def Fo (w : World) (base : Nat) (v : Value) (l : List FactP) : Prop :=
  ∃ (g cap : Nat) (cur : Array Value) (vs : Nat → Value) (D : Nat → Nat), v = .slice (some ⟨g, 0, none⟩) l.length cap ∧ l.length ≤ cap ∧ base ≤ g ∧ Blk w g cur 43 ∧ (cur.size = cap * 8 ∧ cap ≤ maxLen) ∧ Frow cur l vs ∧ (∀ i (h : i < l.length), Ob w (fun b => b = D i ∧ base ≤ b) (vs i) l[i].data) ∧ (∀ i k, i < l.length → k < l.length → D i = D k → i = k)

theorem Fo.keep {w w' : World} {base : Nat} {v : Value} {l : List FactP} {C : Nat → Prop} (h : Fo w base v l) (k : Fr C w w') (hC : ∀ b, C b → b < base) : Fo w' base v l := by
  obtain ⟨g, cap, cur, vs, D, h1, h2, h3, h4, hsz, h5, h6, h7⟩ := h
  refine ⟨g, cap, cur, vs, D, h1, h2, h3, k.blk h4 fun hc => ?_, hsz, h5, fun i hi => (h6 i hi).keep k fun b hb hc => ?_, h7⟩
  · have := hC _ hc; omega
  · have := hC _ hc; omega

theorem Fo.fs {w : World} {base : Nat} {v : Value} {l : List FactP} (h : Fo w base v l) : Fs w (fun b => base ≤ b ∧ b < w.heap.size) (fun b => base ≤ b ∧ b < w.heap.size) v l := by
  obtain ⟨g, cap, cur, vs, D, rfl, h2, h3, h4, _, h5, h6, h7⟩ := h
  refine ⟨_, cap, rfl, h2, fun h => (by cases h), fun _ => ⟨g, 0, rfl, ⟨h3, h4.lt⟩, fun i hi => ⟨vs i, ?_, fun k u hu => ?_⟩⟩⟩
  · exact ((h6 i hi).wide (C := fun b => base ≤ b ∧ b < w.heap.size) fun b hb hlt => ⟨hb.2, hlt⟩).bs
  · have hk : k < 8 := by
      rcases Nat.lt_or_ge k 8 with h | h
      · exact h
      · rw [Array.getElem?_eq_none (by show 8 ≤ k; omega)] at hu; cases hu
    rw [h4.cell, Nat.zero_add, h5 i hi k hk, hu]

theorem owns_some {w : World} {base : Nat} {e : TypeId} {sz : Nat} {v : Value} {n : Nat} {xs : List Value} (h : w.ownsRow base e sz v n xs) (hv : v ≠ .slice none 0 0) : ∃ g cap, v = .slice (some ⟨g, 0, none⟩) n cap := by
  obtain ⟨_, h2⟩ := h
  rcases h2 with ⟨rfl, rfl⟩ | ⟨g, cap, cur, rfl, _⟩
  · exact absurd rfl hv
  · exact ⟨g, cap, rfl⟩

theorem ob_of_owns2 {w : World} {base n : Nat} {v : Value} {l : List UInt8} (hn : l.length = n) (h : w.ownsRow base 5 1 v n (u8s l)) (hb : base < w.heap.size) : ∃ d, base ≤ d ∧ d < w.heap.size ∧ Ob w (fun b => b = d) v l := by
  subst hn
  obtain ⟨h1, h2⟩ := h
  rcases h2 with ⟨rfl, h⟩ | ⟨g, cap, cur, rfl, hg, hh, hnc, hcm, hsz, htk⟩
  · obtain rfl : l = [] := List.length_eq_zero_iff.1 h
    exact ⟨base, Nat.le_refl _, hb, Ob.nil _ _⟩
  · refine ⟨g, hg, lt_of_heap hh, _, cap, rfl, fun h => (by cases h), fun _ => ⟨g, cur, rfl, rfl, hh, fun i hi => ?_⟩⟩
    have e1 := u8s_get l i hi
    rw [← htk, Nat.mul_one, List.getElem?_take_of_lt hi] at e1
    simpa using e1

theorem setCell_alloc {w : World} (o : Obj) (v : Value) {g i : Nat} (hg : g < w.heap.size) : (w.alloc o).setCell ⟨g, i, none⟩ v = (w.setCell ⟨g, i, none⟩ v).alloc o := by
  simp only [World.setCell, World.alloc]
  congr 1
  apply Array.ext_getElem?
  intro k
  simp only [Array.getElem?_modify, Array.getElem?_push, Array.size_modify]
  by_cases h : g = k
  · subst h
    simp [Nat.ne_of_lt hg]
  · simp [h]

/-- On the way: the first k have data of their own. -/
def CopySt (w wr : World) (l : List FactP) (g cap : Nat) (vs0 : Nat → Value) (k : Nat) : Prop :=
  ∃ (cur : Array Value) (vs : Nat → Value) (D : Nat → Nat), Blk wr g cur 43 ∧ cur.size = cap * 8 ∧ Frow cur l vs ∧ (∀ i (h : i < l.length), i < k → Ob wr (fun b => b = D i ∧ w.heap.size ≤ b) (vs i) l[i].data) ∧ (∀ i m, i < k → m < k → D i = D m → i = m) ∧ (∀ i, i < k → D i < wr.heap.size) ∧ (∀ i, k ≤ i → vs i = vs0 i) ∧ Fr No w wr ∧ w.heap.size ≤ g

theorem CopySt.step {w wr w1 : World} {l : List FactP} {g cap : Nat} {vs0 : Nat → Value} {k : Nat} {oR : Obj} {v' : Value} (h : CopySt w wr l g cap vs0 k) (hk : k < l.length) (h1 : w1.ownsRow wr.heap.size 5 1 v' l[k].data.length (u8s l[k].data)) (h2 : Fr No wr w1) (hs : wr.heap.size < w1.heap.size) :
    CopySt w (w1.setCell ⟨g, k * 8 + 7, none⟩ v') l g cap vs0 (k + 1) := by
  obtain ⟨cur, vs, D, hb, hcsz, hrow, hob, hinj, hlt, hvs, hf, hg⟩ := h
  obtain ⟨d, d1, d2, ho⟩ := ob_of_owns2 rfl h1 hs
  have hb1 : Blk w1 g cur 43 := h2.blk hb id
  have s1 : Fr (fun b => b = g) w1 (w1.setCell ⟨g, k * 8 + 7, none⟩ v') := (Fr.refl (fun b => b = g) w1).setCell (p := ⟨g, k * 8 + 7, none⟩) (fun _ => rfl) _
  have hsz := hf.size
  have hkeep : ∀ {O : Nat → Prop} {v : Value} {x : List UInt8}, Ob w1 O v x → Ob (w1.setCell ⟨g, k * 8 + 7, none⟩ v') O v x := by
    intro O v x hv
    refine hv.keep' s1 ?_
    rintro b c _ hb' rfl
    exact hb'.unlike hb1 (by decide) rfl
  refine ⟨_, fun i => if i = k then v' else vs i, fun i => if i = k then d else D i, hb1.set _ _, by simpa using hcsz, ?_, ?_, ?_, ?_, ?_, ?_, hg⟩
  · intro i hi j hj
    rw [Array.getElem?_setIfInBounds]
    by_cases hik : i = k
    · subst hik
      simp only [if_true]
      have h0 := hrow i hi 7 (by omega)
      have hlen : i * 8 + 7 < cur.size := by
        rcases Nat.lt_or_ge (i * 8 + 7) cur.size with h | h
        · exact h
        · rw [Array.getElem?_eq_none h] at h0; cases h0
      by_cases hj7 : j = 7
      · subst hj7
        simp only [if_true, hlen]
        rfl
      · rw [if_neg (by omega), hrow i hi j hj]
        rcases (by omega : j = 0 ∨ j = 1 ∨ j = 2 ∨ j = 3 ∨ j = 4 ∨ j = 5 ∨ j = 6) with rfl | rfl | rfl | rfl | rfl | rfl | rfl <;> rfl
    · rw [if_neg (by omega), hrow i hi j hj]
      simp only [hik, if_false]
  · intro i hi hik
    by_cases h' : i = k
    · subst h'
      simp only [if_true]
      exact hkeep (ho.wide fun b hb _ => ⟨hb, by omega⟩)
    · simp only [h', if_false]
      exact hkeep ((hob i hi (by omega)).keep h2 fun _ _ => id)
  · intro i m hi hm
    have hlt' := hlt
    by_cases ha : i = k <;> by_cases hb : m = k <;> simp only [ha, hb, if_true, if_false]
    · intro _; trivial
    · intro e; have := hlt m (by omega); omega
    · intro e; have := hlt i (by omega); omega
    · exact hinj i m (by omega) (by omega)
  · intro i hi
    have hs1 : (w1.setCell ⟨g, k * 8 + 7, none⟩ v').heap.size = w1.heap.size := by simp [World.setCell]
    by_cases h' : i = k
    · simp only [h', if_true]; omega
    · simp only [h', if_false]
      have := hlt i (by omega); omega
  · intro i hi
    have hik : ¬ i = k := by omega
    simp only [hik, if_false]
    exact hvs i (by omega)
  · exact (hf.trans h2).more s1 (by rintro x rfl hx; omega)

theorem CopySt.done {w wr : World} {l : List FactP} {g cap : Nat} {vs0 : Nat → Value} (h : CopySt w wr l g cap vs0 l.length) (hc : l.length ≤ cap ∧ cap ≤ maxLen) : Fo wr w.heap.size (.slice (some ⟨g, 0, none⟩) l.length cap) l ∧ Fr No w wr := by
  obtain ⟨cur, vs, D, hb, hcsz, hrow, hob, hinj, hlt, hvs, hf, hg⟩ := h
  exact ⟨⟨g, cap, cur, vs, D, rfl, hc.1, hg, hb, ⟨hcsz, hc.2⟩, hrow, fun i hi => hob i hi hi, hinj⟩, hf⟩

theorem CopySt.start {w w1 : World} {l : List FactP} {g cap : Nat} {vs0 : Nat → Value} (h1 : w1.ownsRow w.heap.size 43 8 (.slice (some ⟨g, 0, none⟩) l.length cap) l.length (fcells l vs0 l.length)) (h2 : Fr No w w1) : CopySt w w1 l g cap vs0 0 ∧ l.length ≤ cap ∧ cap ≤ maxLen := by
  obtain ⟨_, h3⟩ := h1
  rcases h3 with ⟨h, _⟩ | ⟨g', cap', cur, h, hg, hh, hnc, hcm, hsz, htk⟩
  · cases h
  · cases h
    refine ⟨⟨cur, vs0, fun _ => 0, hh, hsz, fun i hi j hj => ?_, fun i _ h => by omega, fun i m h => by omega, fun i h => by omega, fun i _ => rfl, h2, hg⟩, hnc, hcm⟩
    have := fcells_get l vs0 l.length i hi j hj
    rw [getD_eq l i hi, ← htk, List.getElem?_take_of_lt (by omega)] at this
    simpa using this

set_option maxRecDepth 1000000 in
set_option maxHeartbeats 8000000 in
theorem copied_any (R O : Nat → Prop) (v : Value) (l : List FactP) (w : World) (h : Fs w R O v l) (hn : l.length * 72 ≤ 140737488355328) (hgood : ∀ f ∈ l, f.data.length ≤ 140737488351232) :
    Calls Try.prog 12 #[v] w fun e w' => ∃ v', e = .returned v' ∧ Fo w' w.heap.size v' l ∧ Fr No w w' := by
  obtain ⟨a, cap, rfl, hcap, h0, hrow⟩ := h
  have hown0 : (w.alloc (.cells #[] 43)).ownsRow w.heap.size 43 8 (.slice (some ⟨w.heap.size, 0, none⟩) 0 0) 0 [] :=
    ⟨rfl, .inr ⟨w.heap.size, 0, #[], rfl, Nat.le_refl _, Blk.new _ _ _, Nat.le_refl _, by unfold maxLen; omega, rfl, rfl⟩⟩
  cases a with
  | none =>
    obtain rfl : l = [] := by
      cases l with
      | nil => rfl
      | cons x r => obtain ⟨b, off, h, _⟩ := hrow (by simp); cases h
    have hst := CopySt.start (l := []) (vs0 := fun _ => .slice none 0 0) hown0 ((Fr.refl No w).alloc _)
    have HST := Lib.hid hst
    clear hst hown0 hrow hn hgood
    go_enter Try.func12, Try.ntmps12
    go_wp2
    go_loop [10] (fun vk => vk = .int .i64 0) (fun _ => 0)
    case atStart => rfl
    case round =>
      subst hrel
      go_wp2
      go_ret
      exact ⟨_, rfl, (HST.out.1.done HST.out.2).1, (HST.out.1.done HST.out.2).2⟩
  | some x =>
    obtain ⟨i0, hi, hz0, hz1, hz2⟩ := info_parts Try.info43
    have hex : ∃ vs0 : Nat → Value, (∀ i (h : i < l.length), Bs w O (vs0 i) l[i].data) ∧ ∀ j u, (fcells l vs0 l.length)[j]? = some u → (w.alloc (.cells #[] 43)).cell? (x.add j) = some u := by
      by_cases hp : 0 < l.length
      · obtain ⟨b, off, hx, _, hi⟩ := hrow hp
        cases hx
        refine ⟨fun i => if h : i < l.length then Classical.choose (hi i h) else .slice none 0 0, fun i h => ?_, fun j u hu => ?_⟩
        · simp only [h, dif_pos]
          exact (Classical.choose_spec (hi i h)).1
        · have hj : j < l.length * 8 := by
            rcases Nat.lt_or_ge j (l.length * 8) with h | h
            · exact h
            · rw [List.getElem?_eq_none (by rw [fcells_length]; exact h)] at hu; cases hu
          have h1 : j / 8 < l.length := by omega
          have e := fcells_get l (fun i => if h : i < l.length then Classical.choose (hi i h) else .slice none 0 0) l.length (j / 8) h1 (j % 8) (by omega)
          rw [show j / 8 * 8 + j % 8 = j by omega, hu, getD_eq l _ h1] at e
          simp only [h1, dif_pos] at e
          have hc := (Classical.choose_spec (hi (j / 8) h1)).2 (j % 8) u e.symm
          rw [Nat.add_assoc, show j / 8 * 8 + j % 8 = j by omega] at hc
          rw [add_at]
          exact cell_kept _ hc
      · refine ⟨fun _ => .slice none 0 0, fun i h => by omega, fun j u hu => ?_⟩
        rw [List.getElem?_eq_none (by rw [fcells_length]; omega)] at hu; cases hu
    obtain ⟨vs0, hbs, hsrc⟩ := hex
    have HBS := Lib.hid hbs
    have HSRC := Lib.hid hsrc
    have H1 : Hid ((fcells l vs0 l.length).length = l.length * 8) := fcells_length l vs0 l.length
    have HONE := Lib.hid (fcells_one l (vs := vs0) l.length fun i hi => by obtain ⟨a, c, h, _⟩ := hbs i hi; rw [h]; rfl)
    have H4 : Hid (0 + l.length ≤ maxLen) := by show _ ≤ _; unfold maxLen; omega
    have H5 : Hid ((0 + l.length) * 72 ≤ 140737488355328) := by show _ ≤ _; omega
    have H6 : Hid (w.heap.size ≤ (w.alloc (.cells #[] 43)).heap.size) := by show _ ≤ _; simp
    have HGD := Lib.hid hgood
    have HOWN := Lib.hid hown0
    clear hbs hsrc hrow hn hgood hown0 h0
    go_enter Try.func12, Try.ntmps12
    go_wp2_with (at_builtin; refine wpList_append_own _ rfl _ _ 26 rfl w.heap.size 43 i0 _ 8 72 Try.underlying26 hi hz0 hz1 hz2 rfl (by decide) _ _ _ rfl HOWN.out x l.length cap (fcells l vs0 l.length) rfl H1.out HSRC.out HONE.out H4.out H5.out H6.out ?_; intro v' w1 hown' hgrow hnil; obtain ⟨g, cap1, rfl⟩ := owns_some hown' (fun e => by cases (hnil.1 e).1); simp only [Nat.zero_add, List.nil_append] at hown')
    have hf1 : Fr No w w1 := Fr.of_below (((Below.refl _ w).alloc (Nat.le_refl _) _).grown hgrow (by simp) (by intro k hk; cases hk; exact Nat.le_refl _))
    obtain ⟨hst0, hc1⟩ := CopySt.start hown' hf1
    clear hown' hgrow hnil hf1
    have HST0 := Lib.hid hst0
    clear hst0
    go_loopw [10] (fun vk wr => ∃ k : Nat, k ≤ l.length ∧ vk = .int .i64 k ∧ CopySt w wr l g cap1 vs0 k) (fun k _ => l.length - (intOf k).toNat)
    case atStart => exact ⟨0, Nat.zero_le _, rfl, HST0.out⟩
    case round =>
      obtain ⟨k, hk, rfl, hst⟩ := hrel
      by_cases hlt : k < l.length
      · have g1 : (k : Int) < (l.length : Int) := by omega
        have g0 : (0 : Int) ≤ (k : Int) := by omega
        obtain ⟨cur, vs, D, hb, _, hrw, _, _, _, hvs, hf, hg⟩ := id hst
        have hck : wr.cell? ⟨g, k * 8 + 7, none⟩ = some (vs0 k) := by
          rw [hb.cell, hrw k hlt 7 (by omega), hvs k (Nat.le_refl _)]; rfl
        have hz := hb.free (k * 8 + 7)
        have hgl := hb.lt
        have hbs := (HBS.out k hlt).keep hf fun _ _ => id
        have hlen := HGD.out l[k] (List.getElem_mem _)
        have HLEN := Lib.hid hlen
        have HS := Lib.hid hst
        obtain ⟨a', c', hv0, hn0, hrd⟩ := hbs
        rw [hv0] at hck
        have HW : Hid (wrap64 ((k : Int) + 1) = ((k + 1 : Nat) : Int)) := by
          show wrap64 ((k : Int) + 1) = ((k + 1 : Nat) : Int)
          have h4 := H4.out
          have h5 := H5.out
          have := IntWalk.wrap64_in ((k : Int) + 1) (by omega)
          exact this.trans (show (k : Int) + 1 = ((k + 1 : Nat) : Int) by omega)
        cases a' with
        | none =>
          have hd : l[k].data = [] := by
            cases hdd : l[k].data with
            | nil => rfl
            | cons y r => rw [hdd] at hrd; obtain ⟨b, off, h, _⟩ := hrd (by simp); cases h
          have hc0 := hn0 rfl
          subst hc0
          rw [hd] at hck
          have hck' : wr.cell? ⟨g, k * 8 + 7, none⟩ = some (.slice none 0 0) := hck
          have hstp := HS.out.step (v' := .slice (some ⟨wr.heap.size, 0, none⟩) 0 0) (w1 := wr.alloc (.cells #[] 5)) (oR := .cells #[] 5) hlt (by rw [hd]; exact ⟨rfl, .inr ⟨wr.heap.size, 0, #[], rfl, Nat.le_refl _, Blk.new _ _ _, Nat.le_refl _, by unfold maxLen; omega, rfl, rfl⟩⟩) ((Fr.refl No wr).alloc _) (by simp)
          rw [setCell_alloc _ _ hgl] at hstp
          have HSTP := Lib.hid hstp
          clear hb hrw hvs hf hg hv0 hn0 hrd hlen hst hd hck hstp
          go_wp2
          go_roundw
          case rel => exact ⟨k + 1, by omega, by rw [HW.out], HSTP.out⟩
          case measure => rw [HW.out]; simp [intOf]; omega
        | some x' =>
          obtain ⟨i1, hi1, hy0, hy1, hy2⟩ := info_parts Try.info5
          have J1 : Hid ((u8s l[k].data).length = l[k].data.length * 1) := by show _ = _; rw [u8s_length]; omega
          have J4 : Hid (0 + l[k].data.length ≤ maxLen) := by show _ ≤ _; unfold maxLen; omega
          have J5 : Hid ((0 + l[k].data.length) * 1 ≤ 140737488355328) := by show _ ≤ _; omega
          have J6 : Hid (wr.heap.size ≤ (wr.alloc (.cells #[] 5)).heap.size) := by show _ ≤ _; simp
          have hown5 : (wr.alloc (.cells #[] 5)).ownsRow wr.heap.size 5 1 (.slice (some ⟨wr.heap.size, 0, none⟩) 0 0) 0 [] :=
            ⟨rfl, .inr ⟨wr.heap.size, 0, #[], rfl, Nat.le_refl _, Blk.new _ _ _, Nat.le_refl _, by unfold maxLen; omega, rfl, rfl⟩⟩
          have hsrc5 : ∀ j u, (u8s l[k].data)[j]? = some u → (wr.alloc (.cells #[] 5)).cell? (x'.add j) = some u := by
            by_cases hp : 0 < l[k].data.length
            · obtain ⟨b, off, hx, _, hc⟩ := hrd hp
              cases hx
              exact u8s_src fun i hi => cell_kept _ (hc i hi)
            · intro j u hu
              rw [List.getElem?_eq_none (by rw [u8s_length]; omega)] at hu; cases hu
          have HS5 := Lib.hid hsrc5
          have HO5 := Lib.hid hown5
          have hzA : (wr.alloc (.cells #[] 5)).frozen? ⟨g, k * 8 + 7, none⟩ = false := by rw [← hz]; exact World.frozen?_of_block (Below.heap_alloc _ _ _ hgl)
          have hcA : (wr.alloc (.cells #[] 5)).cell? ⟨g, k * 8 + 7, none⟩ = some (.slice (some x') l[k].data.length c') := cell_kept _ hck
          have HCA := Lib.hid hcA
          have HBG := Lib.hid hb
          have HLT := Lib.hid hlt
          clear hb hrw hvs hf hg hv0 hn0 hrd hlen hst hsrc5 hown5 hzA hcA
          go_wp2_with (at_builtin; refine wpList_append_own _ rfl _ _ 41 rfl wr.heap.size 5 i1 (.int .u8 0) 1 1 Try.underlying41 hi1 hy0 hy1 hy2 rfl (by decide) _ _ _ rfl HO5.out x' l[k].data.length c' (u8s l[k].data) rfl J1.out HS5.out (u8s_one l[k].data) J4.out J5.out J6.out ?_; intro v'' w2 hown2 hgrow2 hnil2; obtain ⟨g2, cap2, rfl⟩ := owns_some hown2 (fun e => by cases (hnil2.1 e).1); simp only [Nat.zero_add, List.nil_append] at hown2; have hf2 : Fr No wr w2 := Fr.of_below (((Below.refl _ wr).alloc (Nat.le_refl _) _).grown hgrow2 (by simp) (by intro k hk; cases hk; exact Nat.le_refl _)); have hb2 := hf2.blk HBG.out id; have hz2' := hb2.free (k * 8 + 7); have hc2' := hf2.old hck id; have hgl2 := hb2.lt; have hstp := HS.out.step (oR := .cells #[] 5) HLT.out hown2 hf2 (Nat.lt_of_lt_of_le (by simp) hgrow2.size); have HSTP := Lib.hid hstp; clear hown2 hgrow2 hnil2 hf2 hb2 hstp)
          go_roundw
          case rel => exact ⟨k + 1, by omega, by rw [HW.out], HSTP.out⟩
          case measure => rw [HW.out]; simp [intOf]; omega
      · obtain rfl : k = l.length := by omega
        have hdn := hst.done hc1
        have HDN := Lib.hid hdn
        clear hst hdn
        go_wp2
        go_ret
        exact ⟨_, rfl, HDN.out.1, HDN.out.2⟩
end Go.Proofs.Ytmggfdhlbjlpjaa
