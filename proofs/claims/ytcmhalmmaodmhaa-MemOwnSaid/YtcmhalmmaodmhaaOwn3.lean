/-
  DERIVED. For MemOwn: Apart.
-/
import Derived.Test.YtcmhalmmaodmhaaOwn2
import Derived.Deep.RegionHeld3
namespace Go.Proofs.Ytcmhalmmaodmhaa
open Go.RowKit
set_option linter.unusedSimpArgs false
set_option linter.unusedVariables false

/-- A slice that isn't nil. -/
def Nn (v : Value) : Prop := v ≠ .slice none 0 0

theorem Lf.keep' {bs : List Nat} {w w' : World} {v : Value} {g n m : Nat} {f : Nat → Int} (h : Lf w v g n m f) (k : Chg bs w w') (hg : Nn v → g ∉ bs) : Lf w' v g n m f := by
  obtain ⟨a, cap, hv, hm, h⟩ := h
  rcases h with h | ⟨h1, h2, h3, cur, h4, h5, h6⟩
  · exact ⟨a, cap, hv, hm, .inl h⟩
  · exact ⟨a, cap, hv, hm, .inr ⟨h1, h2, h3, cur, k.blk h4 (hg (by rw [hv, h1]; intro e; cases e)), h5, h6⟩⟩

theorem Lf.lt' {w : World} {v : Value} {g n m : Nat} {f : Nat → Int} (h : Lf w v g n m f) (hn : Nn v) : g < w.heap.size := by
  obtain ⟨a, cap, hv, hm, h⟩ := h
  rcases h with ⟨rfl, rfl, rfl⟩ | ⟨h1, h2, h3, cur, h4, h5, h6⟩
  · exact absurd hv hn
  · exact h4.lt

theorem Lf.val {w : World} {v : Value} {g n m : Nat} {f : Nat → Int} (h : Lf w v g n m f) {k : Nat} (hk : k < n) : ∃ cap, v = .slice (some ⟨g, 0, none⟩) n cap :=
  let ⟨cap, _, hv, _⟩ := h.at hk; ⟨cap, hv⟩

/-- Three byte slices, each in a row of its own. -/
structure Fam (w : World) (V : Nat → Value) (G N M : Nat → Nat) : Prop where
  lf : ∀ j, j < 3 → Lf w (V j) (G j) (N j) (M j) (mkB j)
  dis : ∀ j k, j < 3 → k < 3 → j ≠ k → Nn (V j) → Nn (V k) → G j ≠ G k

theorem Fam.keep {w w' : World} {V : Nat → Value} {G N M : Nat → Nat} (h : Fam w V G N M) {bs : List Nat} (k : Chg bs w w') (hb : ∀ j, j < 3 → Nn (V j) → G j ∉ bs) : Fam w' V G N M :=
  ⟨fun j hj => (h.lf j hj).keep' k (hb j hj), h.dis⟩

theorem Fam.congr {w : World} {V : Nat → Value} {G N M N' M' : Nat → Nat} (h : Fam w V G N M) (hN : ∀ j, j < 3 → N j = N' j) (hM : ∀ j, j < 3 → M j = M' j) : Fam w V G N' M' :=
  ⟨fun j hj => by rw [← hN j hj, ← hM j hj]; exact h.lf j hj, h.dis⟩

theorem nn_some (a : Addr) (n c : Nat) : Nn (.slice (some a) n c) := by intro e; cases e

/-- A byte of list i is set. -/
theorem Fam.set {w : World} {V : Nat → Value} {G N M : Nat → Nat} (h : Fam w V G N M) {i : Nat} (hi : i < 3) (hk : M i < N i) :
    Fam (w.setCell ⟨G i, M i, none⟩ (.int .u8 (mkB i (M i)))) V G N (fun j => if j = i then M i + 1 else M j) := by
  obtain ⟨cap, u, hv, _, _⟩ := (h.lf i hi).at hk
  have hni : Nn (V i) := by rw [hv]; exact nn_some _ _ _
  refine ⟨fun j hj => ?_, h.dis⟩
  by_cases he : j = i
  · subst he
    show Lf _ _ _ _ (if j = j then _ else _) _
    rw [if_pos rfl]
    exact (h.lf j hj).set hk
  · show Lf _ _ _ _ (if j = i then _ else _) _
    rw [if_neg he]
    exact (h.lf j hj).keep' (bs := [G i]) ((Chg.refl _ _).setCell (by simp) _) (fun hn => by simp; exact h.dis j i hj hi he hn hni)

/-- A row of three slices. -/
def Rw (w : World) (b : Nat) (V : Nat → Value) : Prop := ∃ cur, Blk w b cur 22 ∧ ∀ j, j < 3 → cur[j]? = some (V j)

theorem Rw.cell {w : World} {b : Nat} {V : Nat → Value} (h : Rw w b V) {j : Nat} (hj : j < 3) : w.cell? ⟨b, j, none⟩ = some (V j) := by
  obtain ⟨cur, hb, hc⟩ := h; rw [hb.cell]; exact hc j hj
theorem Rw.free {w : World} {b : Nat} {V : Nat → Value} (h : Rw w b V) (j : Nat) : w.frozen? ⟨b, j, none⟩ = false := let ⟨_, hb, _⟩ := h; hb.free j
theorem Rw.lt {w : World} {b : Nat} {V : Nat → Value} (h : Rw w b V) : b < w.heap.size := let ⟨_, hb, _⟩ := h; hb.lt
theorem Rw.keep {bs : List Nat} {w w' : World} {b : Nat} {V : Nat → Value} (h : Rw w b V) (k : Chg bs w w') (hn : b ∉ bs) : Rw w' b V :=
  let ⟨cur, hb, hc⟩ := h; ⟨cur, k.blk hb hn, hc⟩
theorem Rw.set {w : World} {b : Nat} {V : Nat → Value} (h : Rw w b V) {i : Nat} (hi : i < 3) (v : Value) : Rw (w.setCell ⟨b, i, none⟩ v) b (fun j => if j = i then v else V j) := by
  obtain ⟨cur, hb, hc⟩ := h
  refine ⟨_, hb.set i v, fun j hj => ?_⟩
  have hs : i < cur.size := by
    have := hc i hi
    rcases Nat.lt_or_ge i cur.size with h | h
    · exact h
    · rw [Array.getElem?_eq_none h] at this; cases this
  rw [Array.getElem?_setIfInBounds]
  by_cases he : j = i
  · subst he; simp [hs]
  · rw [if_neg (fun e => he e.symm)]
    show _ = some (if j = i then v else V j)
    rw [if_neg he]; exact hc j hj

/-- The three slices that grow, and the three that came. -/
structure Gr (w : World) (L gb lo n : Nat) (V V' : Nat → Value) (G G' N : Nat → Nat) : Prop where
  fam : Fam w V' G' N N
  pre : ∀ j, j < 3 → Lf w (V j) (G j) n n (mkB j)
  dis0 : ∀ j k, j < 3 → k < 3 → j ≠ k → Nn (V j) → Nn (V k) → G j ≠ G k
  rl : Rw w L V
  rg : Rw w gb V'
  wh : ∀ j, j < 3 → Nn (V' j) → (G' j = G j ∧ Nn (V j)) ∨ lo ≤ G' j
  lo1 : L < lo ∧ gb < lo ∧ lo ≤ w.heap.size ∧ L ≠ gb
  lo2 : ∀ j, j < 3 → Nn (V j) → G j < lo ∧ G j ≠ L ∧ G j ≠ gb

/-- What an append did. -/
def Alt (w1 w2 : World) (v : Value) (g g' n : Nat) (f : Nat → Int) : Prop :=
  (g' = g ∧ v ≠ .slice none 0 0 ∧ Chg [g] w1 w2 ∧ ∀ u n0, n0 ≤ n → Lf w1 u g n0 n0 f → Lf w2 u g n0 n0 f) ∨ (w1.heap.size ≤ g' ∧ Chg [] w1 w2)

theorem Gr.step {w w1 w2 : World} {L gb lo n g' i : Nat} {V V' : Nat → Value} {G G' N : Nat → Nat} {v' : Value} (h : Gr w L gb lo n V V' G G' N) (hi : i < 3) (k : Chg [] w w1)
    (alt : Alt w1 w2 (V' i) (G' i) g' (N i) (mkB i)) (hl : Lf w2 v' g' (N i + 1) (N i + 1) (mkB i)) (hN : ∀ j, j < 3 → n ≤ N j) :
    Gr (w2.setCell ⟨gb, i, none⟩ v') L gb lo n V (fun j => if j = i then v' else V' j) G (fun j => if j = i then g' else G' j) (fun j => if j = i then N i + 1 else N j) := by
  have z := h.lo1
  have zk := k.size
  have k3 : Chg [gb] w2 (w2.setCell ⟨gb, i, none⟩ v') := (Chg.refl _ _).setCell (by simp) _
  have out : ∀ j, j < 3 → Nn (V' j) → G' j ≠ gb ∧ G' j ≠ L := by
    intro j hj hn
    rcases h.wh j hj hn with ⟨e, hn0⟩ | e
    · have := h.lo2 j hj hn0; rw [e]; exact ⟨this.2.2, this.2.1⟩
    · omega
  have z2 : w1.heap.size ≤ w2.heap.size := by rcases alt with ⟨_, _, k2, _⟩ | ⟨_, k2⟩ <;> exact k2.size
  -- through the append
  have lf2 : ∀ j, j < 3 → j ≠ i → Lf w2 (V' j) (G' j) (N j) (N j) (mkB j) := by
    intro j hj hji
    have h1 := (h.fam.lf j hj).keep' k (by simp)
    rcases alt with ⟨e, hn, k2, _⟩ | ⟨_, k2⟩
    · exact h1.keep' k2 (fun hnj => by simp; exact h.fam.dis j i hj hi hji hnj hn)
    · exact h1.keep' k2 (by simp)
  have pre2 : ∀ j, j < 3 → Lf w2 (V j) (G j) n n (mkB j) := by
    intro j hj
    have h1 := (h.pre j hj).keep' k (by simp)
    rcases alt with ⟨e, hn, k2, hu⟩ | ⟨_, k2⟩
    · rcases h.wh i hi hn with ⟨e2, hni⟩ | e2
      · by_cases hji : j = i
        · subst hji
          have := hu (V j) n (hN j hj) (by rw [e2]; exact h1)
          rw [e2] at this; exact this
        · exact h1.keep' k2 (fun hnj => by simp; rw [e2]; exact h.dis0 j i hj hi hji hnj hni)
      · exact h1.keep' k2 (fun hnj => by have := (h.lo2 j hj hnj).1; simp; omega)
    · exact h1.keep' k2 (by simp)
  have rl2 : Rw w2 L V := by
    have h1 := h.rl.keep k (by simp)
    rcases alt with ⟨e, hn, k2, _⟩ | ⟨_, k2⟩
    · exact h1.keep k2 (by simp; exact fun e => (out i hi hn).2 e.symm)
    · exact h1.keep k2 (by simp)
  have rg2 : Rw w2 gb V' := by
    have h1 := h.rg.keep k (by simp)
    rcases alt with ⟨e, hn, k2, _⟩ | ⟨_, k2⟩
    · exact h1.keep k2 (by simp; exact fun e => (out i hi hn).1 e.symm)
    · exact h1.keep k2 (by simp)
  have hgb : Nn v' → g' ≠ gb := by
    intro _
    rcases alt with ⟨e, hn, _⟩ | ⟨e, _⟩
    · rw [e]; exact (out i hi hn).1
    · omega
  have gne : ∀ j, j < 3 → j ≠ i → Nn (V' j) → g' ≠ G' j := by
    intro j hj hji hn
    rcases alt with ⟨e, hni, _⟩ | ⟨e, _⟩
    · rw [e]; exact h.fam.dis i j hi hj (fun e => hji e.symm) hni hn
    · have := (h.fam.lf j hj).lt' hn; omega
  refine ⟨⟨fun j hj => ?_, fun j m hj hm hjm => ?_⟩, fun j hj => ?_, h.dis0, ?_, rg2.set hi v', fun j hj hn => ?_, ?_, h.lo2⟩
  · by_cases e : j = i
    · subst e; simp only [if_true]; exact hl.keep' k3 (fun hn => by simp; exact hgb hn)
    · simp only [e, if_false]; exact (lf2 j hj e).keep' k3 (fun hn => by simp; exact (out j hj hn).1)
  · by_cases e : j = i
    · have e2 : m ≠ i := fun e2 => hjm (e.trans e2.symm)
      simp only [e, e2, if_true, if_false]
      exact fun _ hn => gne m hm e2 hn
    · by_cases e2 : m = i
      · simp only [e, e2, if_true, if_false]
        exact fun hn _ h => gne j hj e hn h.symm
      · simp only [e, e2, if_false]; exact h.fam.dis j m hj hm hjm
  · exact (pre2 j hj).keep' k3 (fun hn => by simp; exact (h.lo2 j hj hn).2.2)
  · exact rl2.keep k3 (by simp; exact z.2.2.2)
  · by_cases e : j = i
    · subst e
      simp only [if_true]
      rcases alt with ⟨e, hni, _⟩ | ⟨e, _⟩
      · rw [e]; exact h.wh j hj hni
      · right; omega
    · simp only [e, if_false] at hn ⊢; exact h.wh j hj hn
  · have : (w2.setCell ⟨gb, i, none⟩ v').heap.size = w2.heap.size := by simp [World.setCell]
    omega

theorem Gr.row {w w1 w2 : World} {L gb lo n g' i : Nat} {V V' : Nat → Value} {G G' N : Nat → Nat} (h : Gr w L gb lo n V V' G G' N) (hi : i < 3) (k : Chg [] w w1)
    (alt : Alt w1 w2 (V' i) (G' i) g' (N i) (mkB i)) : Rw w2 gb V' := by
  have z := h.lo1
  have h1 := h.rg.keep k (by simp)
  rcases alt with ⟨e, hn, k2, _⟩ | ⟨_, k2⟩
  · refine h1.keep k2 ?_
    simp
    intro e2
    rcases h.wh i hi hn with ⟨e3, hn0⟩ | e3
    · have := h.lo2 i hi hn0; exact this.2.2 (by rw [← e3, ← e2])
    · omega
  · exact h1.keep k2 (by simp)

theorem Gr.chg {w0 w w1 w2 : World} {L gb lo n g' i : Nat} {V V' : Nat → Value} {G G' N : Nat → Nat} {v' : Value} {bs : List Nat} (h : Gr w L gb lo n V V' G G' N) (hi : i < 3) (k0 : Chg bs w0 w) (k : Chg [] w w1)
    (alt : Alt w1 w2 (V' i) (G' i) g' (N i) (mkB i)) (hb : ∀ j, j < 3 → Nn (V j) → G j ∈ bs) (hlo : w0.heap.size ≤ lo) (hgb : w0.heap.size ≤ gb) : Chg bs w0 (w2.setCell ⟨gb, i, none⟩ v') := by
  refine Chg.setCell ?_ (fun h => by have : gb < w0.heap.size := h; omega) _
  have k1 := k0.more k (by simp)
  rcases alt with ⟨e, hn, k2, _⟩ | ⟨_, k2⟩
  · refine k1.more k2 (fun x hx hlt => ?_)
    simp at hx
    subst hx
    rcases h.wh i hi hn with ⟨e2, hni⟩ | e2
    · rw [e2]; exact hb i hi hni
    · omega
  · exact k1.more k2 (by simp)

theorem Gr.congr {w w' : World} {L gb lo n : Nat} {V V' : Nat → Value} {G G' N N' : Nat → Nat} (h : Gr w L gb lo n V V' G G' N) (k : Chg [] w w') (e : ∀ j, j < 3 → N j = N' j) : Gr w' L gb lo n V V' G G' N' :=
  ⟨(h.fam.keep k (by simp)).congr e e, fun j hj => (h.pre j hj).keep' k (by simp), h.dis0, h.rl.keep k (by simp), h.rg.keep k (by simp), h.wh, by have := h.lo1; have := k.size; omega, h.lo2⟩

/-- The row that is made of the three. -/
theorem own3 {wr w2 : World} {v' : Value} {V : Nat → Value} (ho : w2.ownsRow wr.heap.size 22 1 v' 3 [V 0, V 1, V 2]) (hg : (wr.alloc (.cells #[] 22)).grownBy w2 (some wr.heap.size)) :
    ∃ gb capb, v' = .slice (some ⟨gb, 0, none⟩) 3 capb ∧ Rw w2 gb V ∧ wr.heap.size ≤ gb ∧ Chg [] wr w2 := by
  obtain ⟨h1, h2⟩ := ho
  rcases h2 with ⟨rfl, h⟩ | ⟨g, cap, cur, rfl, hgb, hh, hnc, hcm, hsz, htk⟩
  · cases h
  · refine ⟨g, cap, rfl, ⟨cur, hh, fun j hj => ?_⟩, hgb, ?_⟩
    · have e : (cur.toList.take (3 * 1))[j]? = some (V j) := by
        rw [htk]
        match j, hj with
        | 0, _ => rfl
        | 1, _ => rfl
        | 2, _ => rfl
      rw [List.getElem?_take_of_lt (by omega)] at e
      simpa using e
    · exact ((Chg.refl [] wr).alloc (.cells #[] 22)).more (bs' := [wr.heap.size]) ⟨hg.os, hg.tape, hg.output, hg.size, fun k hk hnk => hg.block k hk (fun e => hnk (by simp at e; simp [e]))⟩ (by simp)

theorem Try.info22 : (Try.prog.info? 22).map (fun i => (i.zero, i.size, i.bytes)) = some (some (.slice none 0 0), 1, 24) := by kernel_rfl

set_option maxRecDepth 1000000 in
set_option maxHeartbeats 4000000 in
theorem apart_one (L cl n : Nat) (V : Nat → Value) (G : Nat → Nat) (bs : List Nat) (w : World) (hL : Rw w L V) (hF : Fam w V G (fun _ => n) (fun _ => 0)) (hn : n ≤ 4096) (hb : ∀ j, j < 3 → Nn (V j) → G j ∈ bs) (hLb : L ∉ bs) :
    Calls Try.prog 17 #[.slice (some ⟨L, 0, none⟩) 3 cl] w fun e w' => e = .returned (.bool true) ∧ Chg bs w w' := by
  have HB : Hid (∀ j, j < 3 → Nn (V j) → G j ∈ bs) := hb
  have HL : Hid (Rw w L V) := hL
  clear hb hL
  go_enter Try.func17, Try.ntmps17
  go_wp2
  go_loopw [3] (fun vi wr => ∃ i : Nat, i ≤ 3 ∧ vi = .int .i64 i ∧ Fam wr V G (fun _ => n) (fun j => if j < i then n else 0) ∧ Chg bs w wr) (fun i _ => 3 - (intOf i).toNat)
  case atStart => exact ⟨0, by omega, rfl, hF, Chg.refl _ _⟩
  case round =>
    obtain ⟨i, hi, rfl, hf, hg⟩ := hrel
    clear hF
    by_cases hlt : i < 3
    · have h1 : (i : Int) < 3 := by omega
      go_wp2
      go_loopw [4] (fun vk wr => ∃ k : Nat, k ≤ n ∧ vk = .int .i64 k ∧ Fam wr V G (fun _ => n) (fun j => if j < i then n else if j = i then k else 0) ∧ Chg bs w wr) (fun k _ => n - (intOf k).toNat)
      case atStart => exact ⟨0, by omega, rfl, hf.congr (fun _ _ => rfl) (fun j _ => by split <;> simp), hg⟩
      case round =>
        obtain ⟨k, hk, rfl, hf2, hg2⟩ := hrel
        clear hf hg
        have hc := (HL.out.keep hg2 hLb).cell hlt
        by_cases hkn : k < n
        · have h2 : (k : Int) < (n : Int) := by omega
          obtain ⟨cap, u, hv, hu, hfz⟩ := (hf2.lf i hlt).at hkn
          rw [hv] at hc
          have hS := hf2.set hlt (show (if i < i then n else if i = i then k else 0) < n by simpa using hkn)
          simp only [Nat.lt_irrefl, if_false, if_true] at hS
          have hG : Chg bs w (wr.setCell ⟨G i, k, none⟩ (.int .u8 (mkB i k))) := hg2.setCell (fun _ => HB.out i hlt (by rw [hv]; exact nn_some _ _ _)) _
          have H1 : Hid _ := hS
          have H2 : Hid _ := hG
          clear hS hG hf2 hg2 hv
          go_wp2
          have k2 : k ≤ 1000000 := by omega
          go_still_tail 9, (by kernel_rfl)
          still_call (mark_any i k _ hi k2)
          repeat still_step
          refine wpStill_nil ?_
          change wpList _ _ _ _ _ wr.drew
          go_wp2
          go_roundw
          case rel => exact ⟨k + 1, by omega, by go_num, (H1.out.keep (bs := []) ((Chg.refl [] _).drew) (by simp)).congr (fun _ _ => rfl) (fun j _ => by by_cases e : j = i <;> simp [e]), H2.out.drew⟩
          case measure => simp [intOf]; omega
        · obtain rfl : k = n := by omega
          obtain ⟨a, cap, hv, _⟩ := hf2.lf i hlt
          rw [hv] at hc
          clear hv
          go_wp2
          go_roundw
          case rel => exact ⟨i + 1, by omega, by go_num, hf2.congr (fun _ _ => rfl) (fun j _ => by by_cases e : j = i <;> by_cases e2 : j < i <;> simp [e, e2] <;> omega), hg2⟩
          case measure => simp [intOf]; omega
    · obtain rfl : i = 3 := by omega
      have hf3 : Fam wr V G (fun _ => n) (fun _ => n) := hf.congr (fun _ _ => rfl) (fun j hj => by simp [hj])
      have hL3 : Rw wr L V := HL.out.keep hg hLb
      obtain ⟨i0, hi0, hz0, hz1, hz2⟩ := info_parts Try.info22
      have hown : (wr.alloc (.cells #[] 22)).ownsRow wr.heap.size 22 1 (.slice (some ⟨wr.heap.size, 0, none⟩) 0 0) 0 [] :=
        ⟨rfl, .inr ⟨wr.heap.size, 0, #[], rfl, Nat.le_refl _, Blk.new _ _ _, Nat.le_refl _, by unfold maxLen; omega, rfl, rfl⟩⟩
      have hsrc : ∀ j u, [V 0, V 1, V 2][j]? = some u → (wr.alloc (.cells #[] 22)).cell? ((⟨L, 0, none⟩ : Addr).add j) = some u := by
        intro j u hu
        rw [add_at, Nat.zero_add]
        match j with
        | 0 => simp at hu; subst hu; exact cell_kept _ (hL3.cell (by omega))
        | 1 => simp at hu; subst hu; exact cell_kept _ (hL3.cell (by omega))
        | 2 => simp at hu; subst hu; exact cell_kept _ (hL3.cell (by omega))
        | j + 3 => simp at hu
      have hone : ∀ u ∈ [V 0, V 1, V 2], u.oneCell' = true := by
        have each : ∀ j, j < 3 → (V j).oneCell' = true := fun j hj => by obtain ⟨a, cap, hv, _⟩ := hf3.lf j hj; rw [hv]; rfl
        intro u hu
        simp at hu
        rcases hu with rfl | rfl | rfl
        · exact each 0 (by omega)
        · exact each 1 (by omega)
        · exact each 2 (by omega)
      have HS : Hid _ := hsrc
      have HO : Hid _ := hone
      have H6 : Hid (wr.heap.size ≤ (wr.alloc (.cells #[] 22)).heap.size) := by show _ ≤ _; simp
      have HG0 : Hid (w.heap.size ≤ wr.heap.size) := hg.size
      have HLw : Hid (L < wr.heap.size) := hL3.lt
      clear hf hsrc hone
      go_wp2_with (at_builtin; refine wpList_append_own _ rfl _ _ 33 rfl wr.heap.size 22 i0 (.slice none 0 0) 1 24 Try.underlying33 hi0 hz0 hz1 hz2 rfl (by decide) _ _ _ rfl hown ⟨L, 0, none⟩ 3 cl [V 0, V 1, V 2] rfl rfl HS.out HO.out (by unfold maxLen; omega) (by omega) H6.out ?_; intro v1 w2 hown1 hgrow1 hnil1)
      have HO3 : Hid (∃ gb capb, v1 = .slice (some ⟨gb, 0, none⟩) 3 capb ∧ Rw w2 gb V ∧ wr.heap.size ≤ gb ∧ Chg [] wr w2) := own3 hown1 hgrow1
      clear hown1 hgrow1 hnil1 hown
      obtain ⟨gb, capb, rfl, hR2, hgb, k2⟩ := HO3.out
      have PL : Hid (w.heap.size ≤ w2.heap.size ∧ w.heap.size ≤ gb ∧ gb < w2.heap.size ∧ L < gb) := by have := HG0.out; have := HLw.out; have := hR2.lt; have := k2.size; show _ ∧ _; omega
      have G0 : Gr w2 L gb w2.heap.size n V V G G (fun _ => n + 0) := ⟨hf3.keep k2 (by simp), fun j hj => (hf3.lf j hj).keep' k2 (by simp), hf3.dis, hL3.keep k2 (by simp), hR2, fun j hj hn => .inl ⟨rfl, hn⟩, by have := PL.out; omega, fun j hj hn => ⟨by have := (hf3.lf j hj).lt' hn; have := k2.size; omega, fun e => hLb (e ▸ HB.out j hj hn), by have := (hf3.lf j hj).lt' hn; omega⟩⟩
      have g2 : Chg bs w w2 := hg.more k2 (by simp)
      clear hf3 hL3 HO3 hR2 hgb k2 HS HO H6 hg HLw HG0
      go_loopw [6] (fun vm wr => ∃ (m : Nat) (V' : Nat → Value) (G' : Nat → Nat), m ≤ 40 ∧ vm = .int .i64 m ∧ Gr wr L gb w2.heap.size n V V' G G' (fun _ => n + m) ∧ Chg bs w wr) (fun m _ => 40 - (intOf m).toNat)
      case atStart => exact ⟨0, V, G, by omega, rfl, G0, g2⟩
      case round =>
        obtain ⟨m, V', G', hm, rfl, hG, hg⟩ := hrel
        clear G0 g2
        by_cases hm40 : m < 40
        · have h1 : (m : Int) < 40 := by omega
          go_wp2
          go_loopw [7] (fun vi wr => ∃ (i : Nat) (V' : Nat → Value) (G' : Nat → Nat), i ≤ 3 ∧ vi = .int .i64 i ∧ Gr wr L gb w2.heap.size n V V' G G' (fun j => if j < i then n + m + 1 else n + m) ∧ Chg bs w wr) (fun i _ => 3 - (intOf i).toNat)
          case atStart => exact ⟨0, V', G', by omega, rfl, hG.congr (Chg.refl _ _) (fun j _ => by simp), hg⟩
          case round =>
            obtain ⟨i, V1, G1, hi, rfl, hG1, hg1⟩ := hrel
            clear hG hg
            by_cases hlt : i < 3
            · have h2 : (i : Int) < 3 := by omega
              have hc := hG1.rg.cell hlt
              have hlf := hG1.fam.lf i hlt
              simp only [Nat.lt_irrefl, if_false] at hlf
              obtain ⟨a1, cap1, hv1, _⟩ := hlf
              have hlf1 := hG1.fam.lf i hlt
              simp only [Nat.lt_irrefl, if_false] at hlf1
              rw [hv1] at hc hlf1
              have HG : Hid _ := hG1
              have HV : Hid (V1 i = .slice a1 (n + m) cap1) := hv1
              have hmb : n + m ≤ 1000000 := by omega
              have hb1 := Blk.new wr #[.int .u8 (mkB i (n + m))] 5
              have hlf2 : Lf (wr.alloc (.cells #[.int .u8 (mkB i (n + m))] 5)).drew (.slice a1 (n + m) cap1) (G1 i) (n + m) (n + m) (mkB i) := hlf1.keep' ((Chg.refl [] wr).alloc _).drew (by simp)
              have hbc := hb1.drew.cell 0
              rw [show (#[Value.int .u8 (mkB i (n + m))] : Array Value)[0]? = some (.int .u8 (mkB i (n + m))) from rfl] at hbc
              have HL2 : Hid _ := hlf2
              have HBC : Hid _ := hbc
              have HK : Hid (Chg [] wr (wr.alloc (.cells #[.int .u8 (mkB i (n + m))] 5)).drew) := ((Chg.refl [] wr).alloc _).drew
              have hcA : (wr.alloc (.cells #[.int .u8 (mkB i (n + m))] 5)).cell? ⟨gb, i, none⟩ = some (.slice a1 (n + m) cap1) := cell_kept _ hc
              have hgl : gb < wr.heap.size := lt_of_cell? hc
              have hge : gb ≠ wr.heap.size := by omega
              clear hG1 hv1 hlf1 hb1 hlf2 hbc
              go_wp2
              go_region_law (first
                  | (refine step_lf_append (by rfl) _ _ (by rfl) _ (G1 i) (n + m) (mkB i) (by rfl) HL2.out wr.heap.size (by rfl) HBC.out hmb ?_; intro v4 g4 w4 hl4 alt4 hlt4; have A4 : Hid (Alt _ w4 (V1 i) (G1 i) g4 (n + m) (mkB i)) := (by rw [HV.out]; exact alt4); clear alt4; have HL4 : Hid (Lf w4 v4 g4 (n + m + 1) (n + m + 1) (mkB i)) := hl4; obtain ⟨a4, cap4, rfl, _⟩ := hl4; have R4 : Hid (Rw w4 gb V1) := HG.out.row hlt HK.out (by simpa using A4.out); have S4 := R4.out.cell hlt; rw [HV.out] at S4; have F4 := R4.out.free i)
                  | (go_simp; go_at_call 39; refine (mark_any i (n + m) _ hi hmb).mono ?_; rintro e w' ⟨rfl, rfl⟩))
              all_goals
                have hl5 : Lf w4 (.slice a4 (n + m + 1) cap4) g4 (n + m + 1) (n + m + 1) (mkB i) := HL4.out
                have G5 : Hid (Gr (w4.setCell ⟨gb, i, none⟩ (.slice a4 (n + m + 1) cap4)) L gb w2.heap.size n V (fun j => if j = i then (.slice a4 (n + m + 1) cap4) else V1 j) G (fun j => if j = i then g4 else G1 j) (fun j => if j < i + 1 then n + m + 1 else n + m)) :=
                  (HG.out.step hlt HK.out (by simpa using A4.out) (by simpa using hl5) (fun j _ => by show n ≤ if j < i then _ else _; split <;> omega)).congr (Chg.refl _ _) (fun j _ => by by_cases e : j = i <;> by_cases e2 : j < i <;> simp [e, e2] <;> omega)
                have C5 : Hid (Chg bs w (w4.setCell ⟨gb, i, none⟩ (.slice a4 (n + m + 1) cap4))) := HG.out.chg hlt hg1 HK.out (by simpa using A4.out) HB.out (by have := PL.out; omega) (by have := PL.out; omega)
                clear hg1 hcA hgl hge hl5
                go_wp2
                go_roundw
                case rel => exact ⟨i + 1, _, _, by omega, by go_num, G5.out, C5.out⟩
                case measure => simp [intOf]; omega
            · obtain rfl : i = 3 := by omega
              go_wp2
              go_roundw
              case rel => exact ⟨m + 1, V1, G1, by omega, by go_num, hG1.congr (Chg.refl _ _) (fun j hj => by simp [hj]; omega), hg1⟩
              case measure => simp [intOf]; omega
        · obtain rfl : m = 40 := by omega
          go_wp2
          go_loopw [8] (fun vi wr => ∃ i : Nat, i ≤ 3 ∧ vi = .int .i64 i ∧ Gr wr L gb w2.heap.size n V V' G G' (fun _ => n + 40) ∧ Chg bs w wr) (fun i _ => 3 - (intOf i).toNat)
          case atStart => exact ⟨0, by omega, rfl, hG, hg⟩
          case round =>
            obtain ⟨i, hi, rfl, hG1, hg1⟩ := hrel
            clear hG hg
            by_cases hlt : i < 3
            · have h2 : (i : Int) < 3 := by omega
              go_wp2
              go_loopw [9] (fun vk wr => ∃ k : Nat, k ≤ n + 40 ∧ vk = .int .i64 k ∧ Gr wr L gb w2.heap.size n V V' G G' (fun _ => n + 40) ∧ Chg bs w wr) (fun k _ => n + 40 - (intOf k).toNat)
              case atStart => exact ⟨0, by omega, rfl, hG1, hg1⟩
              case round =>
                obtain ⟨k, hk, rfl, hG2, hg2⟩ := hrel
                clear hG1 hg1
                have hc := hG2.rg.cell hlt
                have HG2 : Hid (Gr wr L gb w2.heap.size n V V' G G' (fun _ => n + 40)) := hG2
                by_cases hk40 : k < n + 40
                · have h3 : (k : Int) < (n : Int) + 40 := by omega
                  have hk5 : k ≤ 1000000 := by omega
                  obtain ⟨cap1, hv1⟩ := (hG2.fam.lf i hlt).val hk40
                  have hcell := (hG2.fam.lf i hlt).cell hk40
                  rw [hv1] at hc
                  clear hG2 hv1
                  go_wp2
                  go_quiet ((go_at_call 39; exact Calls.quiet_of_same (mark_any i k _ hi hk5)))
                  go_wp2
                  go_roundw
                  case rel => exact ⟨k + 1, by omega, by go_num, HG2.out.congr ((Chg.refl [] wr).drewN nq) (fun _ _ => rfl), hg2.drewN nq⟩
                  case measure => simp [intOf]; omega
                · obtain rfl : k = n + 40 := by omega
                  obtain ⟨a1, cap1, hv1, _⟩ := hG2.fam.lf i hlt
                  rw [hv1] at hc
                  clear hv1 hG2
                  go_wp2
                  go_loopw [10] (fun vk wr => ∃ k : Nat, k ≤ n ∧ vk = .int .i64 k ∧ Gr wr L gb w2.heap.size n V V' G G' (fun _ => n + 40) ∧ Chg bs w wr) (fun k _ => n - (intOf k).toNat)
                  case atStart => exact ⟨0, by omega, rfl, HG2.out, hg2⟩
                  case round =>
                    obtain ⟨k, hk, rfl, hG3, hg3⟩ := hrel
                    clear hg2 HG2 hc
                    have hc := hG3.rl.cell hlt
                    have HG3 : Hid (Gr wr L gb w2.heap.size n V V' G G' (fun _ => n + 40)) := hG3
                    by_cases hkn : k < n
                    · have h3 : (k : Int) < (n : Int) := by omega
                      have hk5 : k ≤ 1000000 := by omega
                      obtain ⟨cap2, hv2⟩ := (hG3.pre i hlt).val hkn
                      have hcell := (hG3.pre i hlt).cell hkn
                      rw [hv2] at hc
                      clear hG3 hv2
                      go_wp2
                      go_quiet ((go_at_call 39; exact Calls.quiet_of_same (mark_any i k _ hi hk5)))
                      go_wp2
                      go_roundw
                      case rel => exact ⟨k + 1, by omega, by go_num, HG3.out.congr ((Chg.refl [] wr).drewN nq) (fun _ _ => rfl), hg3.drewN nq⟩
                      case measure => simp [intOf]; omega
                    · obtain rfl : k = n := by omega
                      obtain ⟨a2, cap2, hv2, _⟩ := hG3.pre i hlt
                      rw [hv2] at hc
                      clear hv2 hG3
                      go_wp2
                      go_roundw
                      case rel => exact ⟨i + 1, by omega, by go_num, HG3.out, hg3⟩
                      case measure => simp [intOf]; omega
            · obtain rfl : i = 3 := by omega
              go_wp2
              go_ret
              exact ⟨rfl, hg1⟩

end Go.Proofs.Ytcmhalmmaodmhaa
