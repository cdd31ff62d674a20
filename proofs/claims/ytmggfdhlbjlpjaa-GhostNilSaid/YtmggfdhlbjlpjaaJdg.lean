/-
  DERIVED. A judge in memory.
-/
import Derived.Test.YtmggfdhlbjlpjaaTaken
import Derived.Laws.CopyRow
namespace Go.Proofs.Ytmggfdhlbjlpjaa
open Go.RowKit
set_option linter.unusedSimpArgs false
set_option linter.unusedVariables false

/-- The blocks of O, and those that came since. -/
def Grow (O : Nat → Prop) (w w' : World) : Nat → Prop := fun b => O b ∨ (w.heap.size ≤ b ∧ b < w'.heap.size)
theorem Grow.old {O : Nat → Prop} {w w' : World} {b : Nat} (h : O b) : Grow O w w' b := .inl h
theorem Grow.trans {O : Nat → Prop} {a b c : World} {x : Nat} (h : Grow (Grow O a b) b c x) (h1 : a.heap.size ≤ b.heap.size) (h2 : b.heap.size ≤ c.heap.size) : Grow O a c x := by
  rcases h with (h | h) | h
  · exact .inl h
  · exact .inr ⟨h.1, Nat.lt_of_lt_of_le h.2 h2⟩
  · exact .inr ⟨Nat.le_trans h1 h.1, h.2⟩

/-- From place o on these cells are a line, whose map is mb. -/
structure LineAt (w : World) (O : Nat → Prop) (cs : Array Value) (o mb : Nat) (l : LineP) : Prop where
  e0 : ∃ v, EndCs cs o l.e0 v ∧ Ob w O v l.e0.value
  e1 : ∃ v, EndCs cs (o + 10) l.e1 v ∧ Ob w O v l.e1.value
  s : cs[o + 20]? = some (.int .u32 l.session)
  m : cs[o + 21]? = some (.map (some mb))
  map : IsMap w mb l.sent
  om : O mb

theorem EndCs.congr {cs cs' : Array Value} {o : Nat} {x : EndP} {v : Value} (h : EndCs cs o x v) (e : ∀ k, o ≤ k → k < o + 10 → cs'[k]? = cs[k]?) : EndCs cs' o x v := by
  intro k hk
  rw [e (o + k) (by omega) (by omega)]
  exact h k hk

/-- What a line is, it stays. -/
theorem LineAt.keep {w w' : World} {O O' C : Nat → Prop} {cs cs' : Array Value} {o mb : Nat} {l : LineP} (h : LineAt w O cs o mb l) (k : Fr C w w') (hm : ¬ C mb) (hC : ∀ b cur, C b → ¬ Blk w b cur 5) (hO : ∀ b, O b → O' b)
    (e : ∀ k, o ≤ k → k < o + 22 → cs'[k]? = cs[k]?) : LineAt w' O' cs' o mb l := by
  obtain ⟨v0, a0, b0⟩ := h.e0
  obtain ⟨v1, a1, b1⟩ := h.e1
  refine ⟨⟨v0, a0.congr fun k h1 h2 => e k h1 (by omega), (b0.keep' k fun b cur _ hb hc => hC b cur hc hb).wide fun b h _ => hO b h⟩,
    ⟨v1, a1.congr fun k h1 h2 => e k (by omega) (by omega), (b1.keep' k fun b cur _ hb hc => hC b cur hc hb).wide fun b h _ => hO b h⟩, ?_, ?_, h.map.keep k hm, hO _ h.om⟩
  · rw [e _ (by omega) (by omega)]; exact h.s
  · rw [e _ (by omega) (by omega)]; exact h.m

/-- The lines lie in block q. -/
structure LinesAt (w : World) (O : Nat → Prop) (q : Nat) (cs : Array Value) (mb : Nat → Nat) (L : List LineP) : Prop where
  b : Blk w q cs 64
  o : O q
  at_ : ∀ i (h : i < L.length), LineAt w O cs (i * 22) (mb i) L[i]
  inj : ∀ i k, i < L.length → k < L.length → mb i = mb k → i = k

def jCells (a : Option Addr) (cap : Nat) (st : JP) : Array Value := #[.slice a st.lines.length cap, .int .i64 st.at_, .int .i64 st.rule, .int .i64 st.rat]

/-- The judge at j is st; its blocks are those of O. -/
def IsJ (w : World) (O : Nat → Prop) (j : Nat) (st : JP) : Prop :=
  (∀ b, O b → b < w.heap.size) ∧ O j ∧ ∃ a cap, Blk w j (jCells a cap st) 58 ∧ (0 < st.lines.length → ∃ q cs mb, a = some ⟨q, 0, none⟩ ∧ LinesAt w O q cs mb st.lines)

theorem not_blk_map {w : World} {b : Nat} {es : Array MapEntry} {ck : Nat} (h : MapB w b es ck) (cur : Array Value) (t : TypeId) : ¬ Blk w b cur t := by
  intro h'
  unfold MapB at h
  unfold Blk at h'
  rw [h] at h'
  cases h'
theorem IsMap.not_blk {w : World} {b : Nat} {ks : List Key} (h : IsMap w b ks) (cur : Array Value) (t : TypeId) : ¬ Blk w b cur t := let ⟨_, _, h, _⟩ := h; not_blk_map h cur t

theorem LinesAt.keep {w w' : World} {O O' C : Nat → Prop} {q : Nat} {cs : Array Value} {mb : Nat → Nat} {L : List LineP} (h : LinesAt w O q cs mb L) (k : Fr C w w') (hC : ∀ b, O b → ¬ C b) (hO : ∀ b, O b → O' b) : LinesAt w' O' q cs mb L := by
  refine ⟨k.blk h.b (hC _ h.o), hO _ h.o, fun i hi => ?_, h.inj⟩
  have hl := h.at_ i hi
  obtain ⟨v0, a0, b0⟩ := hl.e0
  obtain ⟨v1, a1, b1⟩ := hl.e1
  exact ⟨⟨v0, a0, (b0.keep k hC).wide fun b h _ => hO b h⟩, ⟨v1, a1, (b1.keep k hC).wide fun b h _ => hO b h⟩, hl.s, hl.m, hl.map.keep k (hC _ hl.om), hO _ hl.om⟩

theorem IsJ.keep {w w' : World} {O C : Nat → Prop} {j : Nat} {st : JP} (h : IsJ w O j st) (k : Fr C w w') (hC : ∀ b, O b → ¬ C b) : IsJ w' O j st := by
  obtain ⟨h1, h2, a, cap, h3, h4⟩ := h
  refine ⟨fun b hb => Nat.lt_of_lt_of_le (h1 b hb) k.size, h2, a, cap, k.blk h3 (hC _ h2), fun hl => ?_⟩
  obtain ⟨q, cs, mb, ha, hL⟩ := h4 hl
  exact ⟨q, cs, mb, ha, hL.keep k hC fun _ h => h⟩

/-- One line is another. -/
theorem LinesAt.put {w w' : World} {O O' : Nat → Prop} {q : Nat} {cs cs' : Array Value} {mb : Nat → Nat} {L : List LineP} (h : LinesAt w O q cs mb L) (i : Nat) (hi : i < L.length) (l' : LineP)
    (k : Fr (fun b => b = q ∨ b = mb i) w w') (hO : ∀ b, O b → O' b) (hb : Blk w' q cs' 64) (e : ∀ k, k < i * 22 ∨ i * 22 + 22 ≤ k → cs'[k]? = cs[k]?) (hl : LineAt w' O' cs' (i * 22) (mb i) l') : LinesAt w' O' q cs' mb (L.set i l') := by
  refine ⟨hb, hO _ h.o, fun m hm => ?_, fun a b ha hb => h.inj a b (by simpa using ha) (by simpa using hb)⟩
  have hm' : m < L.length := by simpa using hm
  by_cases hmi : i = m
  · subst hmi
    simpa using hl
  · have e1 : (L.set i l')[m] = L[m] := by simp [hmi]
    rw [e1]
    refine (h.at_ m hm').keep k ?_ ?_ hO fun k h1 h2 => e k (by omega)
    · rintro (hq | hq)
      · exact (h.at_ m hm').map.not_blk _ _ (hq ▸ h.b)
      · exact hmi (h.inj _ _ hi hm' hq.symm)
    · rintro b cur (rfl | rfl) hb
      · exact hb.unlike h.b (by decide) rfl
      · exact (h.at_ i hi).map.not_blk _ _ hb

theorem IsJ.put {w w' : World} {O : Nat → Prop} {j : Nat} {st : JP} {a : Option Addr} {cap q : Nat} {cs cs' : Array Value} {mb : Nat → Nat} (hO : ∀ b, O b → b < w.heap.size) (hj : O j) (hb : Blk w j (jCells a cap st) 58) (ha : a = some ⟨q, 0, none⟩) (h : LinesAt w O q cs mb st.lines)
    (i : Nat) (hi : i < st.lines.length) (l' : LineP) (k : Fr (fun b => b = q ∨ b = mb i) w w') (hb' : Blk w' q cs' 64) (e : ∀ k, k < i * 22 ∨ i * 22 + 22 ≤ k → cs'[k]? = cs[k]?) (hl : LineAt w' (Grow O w w') cs' (i * 22) (mb i) l') : IsJ w' (Grow O w w') j { st with lines := st.lines.set i l' } := by
  refine ⟨?_, .inl hj, a, cap, ?_, fun _ => ⟨q, cs', mb, ha, h.put i hi l' k (fun b h => .inl h) hb' e hl⟩⟩
  · rintro b (hb | hb)
    · exact Nat.lt_of_lt_of_le (hO b hb) k.size
    · exact hb.2
  · have : jCells a cap { st with lines := st.lines.set i l' } = jCells a cap st := by simp [jCells]
    rw [this]
    refine k.blk hb ?_
    rintro (hq | hq)
    · exact hb.unlike h.b (by decide) hq
    · exact (h.at_ i hi).map.not_blk _ _ (hq ▸ hb)

theorem EndTo.ahead {w W w' : World} {q o : Nat} {cs : Array Value} {x : EndP} {v : Value} (h : EndTo W w' q cs o x v) (k : Fr No w W) : EndTo w w' q cs o x v := let ⟨cs', a, b, c, d⟩ := h; ⟨cs', a, b, c, (k.no _).trans d⟩

theorem setRow_blk {w : World} {b : Nat} {cs : Array Value} {t : TypeId} (h : Blk w b cs t) (cs' : Array Value) : Blk (w.setRow b cs') b cs' t := setRow_heap w b cs cs' t _ h
theorem setRow_fr (w : World) (b : Nat) (cs' : Array Value) : Fr (fun k => k = b) w (w.setRow b cs') := by
  refine ⟨rfl, rfl, rfl, by simp [World.setRow], fun k hk hn => ?_⟩
  simp [World.setRow, Array.getElem?_modify]
  intro h; exact absurd h.symm hn
theorem endCells_get (x : EndP) (v : Value) (k : Nat) (hk : k < 10) : ∃ c, (endCells x v)[k]? = some c := by
  have : (endCells x v).length = 10 := rfl
  exact ⟨_, List.getElem?_eq_getElem (by omega)⟩

/-- A whole end is stored. -/
theorem store_end {w : World} {q o : Nat} {cs : Array Value} {x : EndP} {v : Value} (hb : Blk w q cs 64) (hE : EndCs cs o x v) (x' : EndP) (a : Option Addr) (n cap : Nat) :
    ∃ W, (storeCells ⟨q, o, none⟩ (endCells x' (.slice a n cap))).run Try.prog w = .ok () W ∧ EndTo w W q cs o x' (.slice a n cap) := by
  have hsz : o + 10 ≤ cs.size := by
    have h := hE 9 (by omega)
    obtain ⟨c, hc⟩ := endCells_get x v 9 (by omega)
    rw [hc] at h
    rcases Nat.lt_or_ge (o + 9) cs.size with h' | h'
    · omega
    · rw [Array.getElem?_eq_none h'] at h; cases h
  have hlen : (endCells x' (.slice a n cap)).length = 10 := rfl
  have h1 : ∀ u ∈ endCells x' (.slice a n cap), u.oneCell' = true := by
    intro u hu
    simp only [endCells, List.mem_cons, List.not_mem_nil, or_false] at hu
    rcases hu with rfl | rfl | rfl | rfl | rfl | rfl | rfl | rfl | rfl | rfl <;> rfl
  have hrun := run_storeCells_at (P := Try.prog) q o 64 (endCells x' (.slice a n cap)) 0 cs w hb (by rw [hlen]; omega) h1
  refine ⟨_, hrun, _, Go.Proofs.Ytmggfdhlbjlpjaa.setRow_blk hb _, fun k hk => ?_, fun k hk => ?_, setRow_fr w q _⟩
  · rw [List.getElem?_toArray, List.getElem?_append_left (by simp [hlen]; omega), List.getElem?_append_right (by simp; omega)]
    congr 1
    simp; omega
  · rw [List.getElem?_toArray]
    by_cases h : k < o
    · rw [List.getElem?_append_left (by simp; omega), List.getElem?_append_left (by simp; omega), List.getElem?_take_of_lt (by omega)]
      simp
    · rw [List.getElem?_append_right (by simp [hlen]; omega), List.getElem?_drop]
      simp [hlen]
      congr 1; omega

theorem EndTo.other {W w' : World} {q o : Nat} {cs : Array Value} {x : EndP} {v : Value} (h : EndTo W w' q cs o x v) {k : Nat} {u : Value} (hk : cs[k]? = some u) (ho : k < o ∨ o + 10 ≤ k) : w'.cell? ⟨q, k, none⟩ = some u := by
  obtain ⟨cs', a, b, c, d⟩ := h
  rw [a.cell, c k ho]; exact hk

/-- What a fact leaves of a line. -/
def LineTo (w w' : World) (O : Nat → Prop) (q : Nat) (cs : Array Value) (o mb : Nat) (l' : LineP) : Prop :=
  ∃ cs', Blk w' q cs' 64 ∧ (∀ k, k < o ∨ o + 22 ≤ k → cs'[k]? = cs[k]?) ∧ LineAt w' (Grow O w w') cs' o mb l' ∧ Fr (fun b => b = q ∨ b = mb) w w'

section
variable {w w' : World} {O : Nat → Prop} {q o mb : Nat} {cs : Array Value} {l : LineP} {x : EndP} {v : Value}
theorem LineTo.same (hb : Blk w q cs 64) (h : LineAt w O cs o mb l) (k : Fr No w w') : LineTo w w' O q cs o mb l :=
  ⟨cs, k.blk hb id, fun _ _ => rfl, h.keep k id (fun _ _ h => h.elim) (fun _ h => .inl h) fun _ _ _ => rfl, k.no _⟩

theorem q_ne_map (hb : Blk w q cs 64) (h : LineAt w O cs o mb l) : ¬ mb = q := fun e => h.map.not_blk _ _ (e ▸ hb)

theorem LineTo.e0 (hb : Blk w q cs 64) (h : LineAt w O cs o mb l) (k : EndTo w w' q cs o x v) (hv : Ob w' (Grow O w w') v x.value) : LineTo w w' O q cs o mb { l with e0 := x } := by
  obtain ⟨cs', h1, h2, h3, h4⟩ := k
  refine ⟨cs', h1, fun k hk => h3 k (by omega), ?_, h4.wide fun _ h _ => .inl h⟩
  obtain ⟨v1, a1, b1⟩ := h.e1
  refine ⟨⟨v, h2, hv⟩, ⟨v1, a1.congr fun k h1 h2 => h3 k (by omega), (b1.keep' h4 ?_).wide fun _ h _ => .inl h⟩, ?_, ?_, h.map.keep h4 (q_ne_map hb h), .inl h.om⟩
  · rintro b cur _ hb' rfl
    exact hb'.unlike hb (by decide) rfl
  · rw [h3 _ (by omega)]; exact h.s
  · rw [h3 _ (by omega)]; exact h.m

theorem LineTo.e1 (hb : Blk w q cs 64) (h : LineAt w O cs o mb l) (k : EndTo w w' q cs (o + 10) x v) (hv : Ob w' (Grow O w w') v x.value) : LineTo w w' O q cs o mb { l with e1 := x } := by
  obtain ⟨cs', h1, h2, h3, h4⟩ := k
  refine ⟨cs', h1, fun k hk => h3 k (by omega), ?_, h4.wide fun _ h _ => .inl h⟩
  obtain ⟨v1, a1, b1⟩ := h.e0
  refine ⟨⟨v1, a1.congr fun k h1 h2 => h3 k (by omega), (b1.keep' h4 ?_).wide fun _ h _ => .inl h⟩, ⟨v, h2, hv⟩, ?_, ?_, h.map.keep h4 (q_ne_map hb h), .inl h.om⟩
  · rintro b cur _ hb' rfl
    exact hb'.unlike hb (by decide) rfl
  · rw [h3 _ (by omega)]; exact h.s
  · rw [h3 _ (by omega)]; exact h.m

/-- What an end's value was, it is still. -/
theorem Ob.stay (hb : Blk w q cs 64) {x' : EndP} {v' : Value} {o' : Nat} (k : EndTo w w' q cs o' x' v') {l : List UInt8} (h : Ob w O v l) : Ob w' (Grow O w w') v l := by
  refine (h.keep' k.frq ?_).wide fun _ h _ => .inl h
  rintro b cur _ hb' rfl
  exact hb'.unlike hb (by decide) rfl
theorem LineTo.of0 (hb : Blk w q cs 64) (h : LineAt w O cs o mb l) (hv : Ob w O v x.value) (k : EndTo w w' q cs o x v) : LineTo w w' O q cs o mb { l with e0 := x } := LineTo.e0 hb h k (Ob.stay hb k hv)
theorem LineTo.of1 (hb : Blk w q cs 64) (h : LineAt w O cs o mb l) (hv : Ob w O v x.value) (k : EndTo w w' q cs (o + 10) x v) : LineTo w w' O q cs o mb { l with e1 := x } := LineTo.e1 hb h k (Ob.stay hb k hv)
/-- The map of the line is another. -/
theorem LineTo.mp {W : World} {ks : List Key} (hb : Blk w q cs 64) (h : LineAt w O cs o mb l) (k0 : Fr No w W) (k1 : Fr (fun x => x = mb) W w') (hm : IsMap w' mb ks) : LineTo w w' O q cs o mb { l with sent := ks } := by
  have k : Fr (fun x => x = mb) w w' := (k0.no _).trans k1
  have hkeep : ∀ {v : Value} {l : List UInt8}, Ob w O v l → Ob w' (Grow O w w') v l := by
    intro v l hv
    refine (hv.keep' k ?_).wide fun _ h _ => .inl h
    rintro b cur _ hb' rfl
    exact h.map.not_blk _ _ hb'
  obtain ⟨v0, a0, b0⟩ := h.e0
  obtain ⟨v1, a1, b1⟩ := h.e1
  exact ⟨cs, k.blk hb fun e => q_ne_map hb h e.symm, fun _ _ => rfl, ⟨⟨v0, a0, hkeep b0⟩, ⟨v1, a1, hkeep b1⟩, h.s, h.m, hm, .inl h.om⟩, k.wide fun _ h _ => .inr h⟩
end

/-- A session begins: the line's number, and its map. -/
theorem LineTo.session {w W1 w' : World} {O : Nat → Prop} {q o mb rr : Nat} {cs : Array Value} {l : LineP} {ks : List Key} (hb : Blk w q cs 64) (h : LineAt w O cs o mb l) (s : Int) (k1 : Fr (fun b => b = q) w W1) (hb1 : Blk W1 q (cs.setIfInBounds (o + 20) (.int .u32 s)) 64)
    (k2 : Fr (fun b => b = mb ∨ b = rr) W1 w') (hr : w.heap.size ≤ rr) (hm : IsMap w' mb ks) : LineTo w w' O q cs o mb { l with session := s, sent := ks } := by
  have hql := hb.lt
  have k : Fr (fun b => b = q ∨ b = mb) w w' := (k1.wide (O' := fun b => b = q ∨ b = mb) fun _ h _ => .inl h).more k2 (by rintro x (h | h) hx; exact .inr h; omega)
  have hkeep : ∀ {v : Value} {l : List UInt8}, Ob w O v l → Ob w' (Grow O w w') v l := by
    intro v l hv
    refine (hv.keep' k ?_).wide fun _ h _ => .inl h
    rintro b cur _ hb' (rfl | rfl)
    · exact hb'.unlike hb (by decide) rfl
    · exact h.map.not_blk _ _ hb'
  obtain ⟨v0, a0, b0⟩ := h.e0
  obtain ⟨v1, a1, b1⟩ := h.e1
  have hsz : o + 20 < cs.size := by
    have h := h.s
    rcases Nat.lt_or_ge (o + 20) cs.size with h' | h'
    · exact h'
    · rw [Array.getElem?_eq_none h'] at h; cases h
  have hne : ∀ k, k ≠ o + 20 → (cs.setIfInBounds (o + 20) (.int .u32 s))[k]? = cs[k]? := fun k hk => Array.getElem?_setIfInBounds_ne (fun e => hk e.symm)
  refine ⟨_, k2.blk hb1 ?_, fun k hk => hne k (by omega), ⟨⟨v0, a0.congr fun k _ _ => hne k (by omega), hkeep b0⟩, ⟨v1, a1.congr fun k _ _ => hne k (by omega), hkeep b1⟩, ?_, ?_, hm, .inl h.om⟩, k⟩
  · rintro (e | e)
    · exact q_ne_map hb h e.symm
    · omega
  · simp [Array.getElem?_setIfInBounds, hsz]
  · rw [hne _ (by omega)]; exact h.m

/-- How many entries are still to come, as the memory tells it. -/
def remW (w : World) (b r : Nat) : Nat := match w.heap[b]?, w.heap[r]? with
  | some (.map es _), some (.mapIter _ _ seen _) => (leftOf es seen).size
  | _, _ => 0
theorem It.rem {w : World} {b r ck : Nat} {L : List (Key × Nat)} {seen : Array Nat} (h : It w b r ck L seen) : remW w b r = left L seen := by
  have h1 := h.m
  unfold MapB at h1
  unfold remW
  rw [h1, h.i]
  show (leftOf (entries L).toArray seen).size = _
  rw [leftOf_entries]
  simp [entries, left]
theorem filter_le {α : Type} {f g : α → Bool} (h : ∀ x, g x = true → f x = true) : ∀ L : List α, (L.filter g).length ≤ (L.filter f).length
  | [] => Nat.le_refl _
  | a :: r => by
    have ih := filter_le h r
    simp only [List.filter_cons]
    cases hg : g a with
    | true => rw [h a hg]; simpa using ih
    | false =>
      cases f a with
      | true => simp; omega
      | false => simpa using ih
theorem filter_lt {α : Type} {f g : α → Bool} (h : ∀ x, g x = true → f x = true) {p : α} (hf : f p = true) (hg : g p = false) : ∀ L : List α, p ∈ L → (L.filter g).length < (L.filter f).length
  | [], hp => by cases hp
  | a :: r, hp => by
    simp only [List.filter_cons]
    rcases List.mem_cons.1 hp with rfl | hp'
    · rw [hf, hg]
      have := filter_le h r
      simp; omega
    · have ih := filter_lt h hf hg r hp'
      cases hga : g a with
      | true => rw [h a hga]; simpa using ih
      | false =>
        cases f a with
        | true => simp; omega
        | false => simpa using ih
theorem left_push {L : List (Key × Nat)} {seen : Array Nat} {p : Key × Nat} (hp : p ∈ L) (hs : seen.contains p.2 = false) : left L (seen.push p.2) < left L seen := by
  unfold left
  refine filter_lt (fun x hx => ?_) (by rw [hs]; rfl) (by simp) L hp
  simp only [Bool.not_eq_true', ← Bool.not_eq_true] at hx ⊢
  intro h
  apply hx
  simp at h ⊢
  exact .inl h

/-- Going through the map: what was struck, and what was let. -/
structure Swp (ks : List Key) (bad : Key → Prop) (L : List (Key × Nat)) (seen : Array Nat) : Prop where
  sub : ∀ k, k ∈ L.map (·.1) → k ∈ ks
  out : ∀ k, k ∈ ks → k ∉ L.map (·.1) → bad k
  good : ∀ p ∈ L, seen.contains p.2 = true → ¬ bad p.1
theorem Swp.start {ks : List Key} {bad : Key → Prop} {L : List (Key × Nat)} (h : ∀ k, k ∈ L.map (·.1) ↔ k ∈ ks) : Swp ks bad L #[] :=
  ⟨fun k hk => (h k).1 hk, fun k hk hn => absurd ((h k).2 hk) hn, fun p _ hs => by simp at hs⟩
theorem Swp.let {ks : List Key} {bad : Key → Prop} {L : List (Key × Nat)} {seen : Array Nat} (h : Swp ks bad L seen) (hn : (L.map (·.2)).Nodup) {p : Key × Nat} (hp : p ∈ L) (hb : ¬ bad p.1) : Swp ks bad L (seen.push p.2) := by
  refine ⟨h.sub, h.out, fun q hq hs => ?_⟩
  simp at hs
  rcases hs with hs | hs
  · exact h.good q hq (by simpa using hs)
  · obtain ⟨i, hi, rfl⟩ := List.getElem_of_mem hp
    obtain ⟨k, hk, rfl⟩ := List.getElem_of_mem hq
    have := nodup_at hn (i := k) (j := i) (by simpa using hk) (by simpa using hi) (by simpa using hs)
    subst this
    exact hb
theorem Swp.strike {ks : List Key} {bad : Key → Prop} {L L' : List (Key × Nat)} {seen : Array Nat} (h : Swp ks bad L seen) (hn : (L.map (·.2)).Nodup) {p : Key × Nat} (hp : p ∈ L) (hb : bad p.1) (hL : ∀ q, q ∈ L' ↔ q ∈ L ∧ q ≠ p) : Swp ks bad L' (seen.push p.2) := by
  refine ⟨fun k hk => ?_, fun k hk hnk => ?_, fun q hq hs => ?_⟩
  · obtain ⟨q, hq, rfl⟩ := List.mem_map.1 hk
    exact h.sub _ (List.mem_map.2 ⟨q, ((hL q).1 hq).1, rfl⟩)
  · by_cases hkl : k ∈ L.map (·.1)
    · obtain ⟨q, hq, rfl⟩ := List.mem_map.1 hkl
      by_cases hqp : q = p
      · subst hqp; exact hb
      · exact absurd (List.mem_map.2 ⟨q, (hL q).2 ⟨hq, hqp⟩, rfl⟩) hnk
    · exact h.out k hk hkl
  · have hq' := (hL q).1 hq
    simp at hs
    rcases hs with hs | hs
    · exact h.good q hq'.1 (by simpa using hs)
    · exfalso
      apply hq'.2
      obtain ⟨i, hi, rfl⟩ := List.getElem_of_mem hp
      obtain ⟨k, hk, hkq⟩ := List.getElem_of_mem hq'.1
      subst hkq
      have := nodup_at hn (i := k) (j := i) (by simpa using hk) (by simpa using hi) (by simpa using hs)
      subst this
      rfl
theorem Swp.done {ks : List Key} {bad : Key → Prop} [DecidablePred bad] {L : List (Key × Nat)} {seen : Array Nat} (h : Swp ks bad L seen) (ha : ∀ p ∈ L, seen.contains p.2 = true) (k : Key) : k ∈ L.map (·.1) ↔ k ∈ ks.filter fun k => !decide (bad k) := by
  simp only [List.mem_filter, Bool.not_eq_true', decide_eq_false_iff_not]
  constructor
  · intro hk
    refine ⟨h.sub k hk, ?_⟩
    obtain ⟨p, hp, rfl⟩ := List.mem_map.1 hk
    exact h.good p hp (ha p hp)
  · rintro ⟨h1, h2⟩
    by_cases hk : k ∈ L.map (·.1)
    · exact hk
    · exact absurd (h.out k h1 hk) h2

end Go.Proofs.Ytmggfdhlbjlpjaa
