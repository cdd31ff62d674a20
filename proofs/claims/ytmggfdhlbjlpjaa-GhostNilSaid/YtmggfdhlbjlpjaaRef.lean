/-
  DERIVED. The reference's judge: its list of what was sent, and the walk of 'sent'.
-/
import Derived.Test.YtmggfdhlbjlpjaaConns
namespace Go.Proofs.Ytmggfdhlbjlpjaa
open Go.RowKit
set_option linter.unusedSimpArgs false
set_option linter.unusedVariables false

/-- The list of what was sent: a row of its own in O, the data each in a row of its own in O. -/
def Srow (w : World) (base : Nat) (O : Nat → Prop) (v : Value) (S : List FactP) : Prop :=
  ∃ vs : Nat → Value, w.ownsRow base 43 8 v S.length (fcells S vs S.length) ∧ (∀ g, v.ownBlock = some g → O g) ∧ ∀ i (h : i < S.length), Ob w O (vs i) S[i].data

theorem Srow.crow {w : World} {base : Nat} {O : Nat → Prop} {v : Value} {S : List FactP} (h : Srow w base O v S) : Crow w base O v S := let ⟨vs, a, _, b⟩ := h; ⟨vs, a, fun i hi => (b i hi).bs⟩
theorem Srow.nil (w : World) (base : Nat) (O : Nat → Prop) : Srow w base O (.slice none 0 0) [] := ⟨fun _ => .slice none 0 0, World.ownsRow_nil _ _ _ _, fun g h => (by cases h), fun i h => absurd h (by simp)⟩
theorem Srow.base {w : World} {base : Nat} {O : Nat → Prop} {v : Value} {S : List FactP} (h : Srow w base O v S) : Srow w 0 O v S := by
  obtain ⟨vs, ⟨a1, a2⟩, b, c⟩ := h
  refine ⟨vs, ⟨a1, ?_⟩, b, c⟩
  rcases a2 with a2 | ⟨g, cap, cur, h1, _, h3⟩
  · exact .inl a2
  · exact .inr ⟨g, cap, cur, h1, Nat.zero_le _, h3⟩
theorem Srow.keep {w w' : World} {base : Nat} {O O' C : Nat → Prop} {v : Value} {S : List FactP} (h : Srow w base O v S) (k : Fr C w w') (h1 : ∀ g cur, O g → Blk w g cur 43 → ¬ C g) (h2 : ∀ g cur, O g → Blk w g cur 5 → ¬ C g) (h3 : ∀ b, O b → b < w.heap.size → O' b) : Srow w' base O' v S := by
  obtain ⟨vs, a, b, c⟩ := h
  exact ⟨vs, owns_keep a fun g hg => k.block g (owns_block a hg).2.choose_spec.lt (h1 g _ (b g hg) (owns_block a hg).2.choose_spec), fun g hg => h3 g (b g hg) (owns_block a hg).2.choose_spec.lt,
    fun i hi => (((c i hi).wide (C := fun b => O b ∧ b < w.heap.size) fun b h hl => ⟨h, hl⟩).keep' k fun b cur h => h2 b cur h.1).wide fun b h _ => h3 b h.1 h.2⟩

/-- The list behind an append. -/
theorem Srow.more {W w1 : World} {base : Nat} {O : Nat → Prop} {v vf : Value} {S : List FactP} {f : FactP} {vs : Nat → Value} {g cap1 : Nat} (ho1 : W.ownsRow base 43 8 v S.length (fcells S vs S.length)) (hO : ∀ g, v.ownBlock = some g → O g) (hd1 : ∀ i (h : i < S.length), Ob W O (vs i) S[i].data) (hvf : Ob W O vf f.data)
    (h1 : w1.ownsRow base 43 8 (.slice (some ⟨g, 0, none⟩) (S.length + 1) cap1) (S.length + 1) (fcells S vs S.length ++ (factCells f vf).toList)) (h2 : W.grownBy w1 v.ownBlock) (h3 : v.ownBlock = some g ∨ g = W.heap.size) (h4 : g < w1.heap.size) :
    Srow w1 base (Grow O W w1) (.slice (some ⟨g, 0, none⟩) (S.length + 1) cap1) (S ++ [f]) := by
  refine ⟨fun i => if i < S.length then vs i else vf, ?_, fun g' hg => ?_, fun i hi => ?_⟩
  · have := fcells_append S [f] vs (fun _ => vf) 1 (by simp)
    rw [List.length_append]
    show w1.ownsRow base 43 8 _ (S.length + 1) (fcells (S ++ [f]) (fun i => if i < S.length then vs i else vf) (S.length + 1))
    rw [this]
    exact h1
  · cases hg
    rcases h3 with h3 | h3
    · exact .inl (hO _ h3)
    · exact .inr ⟨by show W.heap.size ≤ g; omega, h4⟩
  · have k2 := grown_fr h2
    have hkeep : ∀ {u : Value} {d : List UInt8}, Ob W O u d → Ob w1 (Grow O W w1) u d := fun hb => (hb.keep' k2 fun b cur hb hc e => by
      obtain ⟨_, cur', hc'⟩ := owns_block ho1 e.symm
      exact hc.unlike hc' (by decide) rfl).wide fun b h _ => .inl h
    by_cases hil : i < S.length
    · simp only [hil, if_true]
      rw [List.getElem_append_left hil]
      exact hkeep (hd1 i hil)
    · simp only [hil, if_false]
      rw [List.length_append] at hi
      have : (S ++ [f])[i] = f := by rw [List.getElem_append_right (by omega)]; simp
      rw [this]
      exact hkeep hvf

theorem fact_one {f : FactP} {vf : Value} (h : ∃ a c, vf = .slice a f.data.length c) : ∀ u ∈ (factCells f vf).toList, u.oneCell' = true := by
  intro u hu
  obtain ⟨a', c', hv⟩ := h
  subst hv
  simp only [factCells, List.mem_cons, List.not_mem_nil, or_false] at hu
  rcases hu with rfl | rfl | rfl | rfl | rfl | rfl | rfl | rfl <;> rfl

theorem wpList_append_s {W : World} {ops : Array Oper} {rest : List Oper} {o : Oper} {a : Act} {Q : Exit → Act → World → Prop} (hgd : o.guard = none) (s x : Operand) (ho : o.op = .call { callee := .builtin .append, args := #[s, x], argTypes := #[26, 26] })
    (base : Nat) (O : Nat → Prop) (v : Value) (S : List FactP) (f : FactP) (vf : Value) (hs : a.eval s = v) (hown : Srow W base O v S) (B : Nat) (hx : a.eval x = .slice (some ⟨B, 0, none⟩) 1 1) (hB : W.heap[B]? = some (.cells (factCells f vf) 43 (0, 0))) (hvf : Ob W O vf f.data) (hn : S.length ≤ 4000) (hbase : base ≤ W.heap.size)
    (h : ∀ g cap1 w1, Srow w1 base (Grow O W w1) (.slice (some ⟨g, 0, none⟩) (S.length + 1) cap1) (S ++ [f]) → W.grownBy w1 v.ownBlock → (v.ownBlock = some g ∨ g = W.heap.size) → wpList Try.prog ops Q rest (a.put o.dst (.slice (some ⟨g, 0, none⟩) (S.length + 1) cap1)) w1) :
    wpList Try.prog ops Q (o :: rest) a W := by
  obtain ⟨i0, hi0, hz0, hz1, hz2⟩ := info_parts Try.info43
  obtain ⟨vs, ho1, hO, hd1⟩ := hown
  refine wpList_append_lies _ hgd s x 26 ho base 43 i0 _ 8 72 Try.underlying26 hi0 hz0 hz1 hz2 rfl (by omega) v S.length (fcells S vs S.length) hs ho1 ⟨B, 0, none⟩ 1 1 (factCells f vf).toList hx rfl (World.news_of_block hB) (fact_one hvf.shape) (by omega) (by unfold maxLen; omega) (by omega) hbase W.heap.size rfl ?_
  intro g cap1 w1 h1 h2 h3 h4
  exact h g cap1 w1 (Srow.more ho1 hO hd1 hvf h1 h2 h3 h4) h2 h3

theorem step_append_s {W : World} {ops : Array Oper} {o : Oper} {a : Act} {K : Act → World → Prop} {Q : Exit → Act → World → Prop} {E : Prop} (hgd : o.guard = none) (s x : Operand) (ho : o.op = .call { callee := .builtin .append, args := #[s, x], argTypes := #[26, 26] })
    (base : Nat) (O : Nat → Prop) (v : Value) (S : List FactP) (f : FactP) (vf : Value) (hs : a.eval s = v) (hown : Srow W base O v S) (B : Nat) (hx : a.eval x = .slice (some ⟨B, 0, none⟩) 1 1) (hB : W.heap[B]? = some (.cells (factCells f vf) 43 (0, 0))) (hvf : Ob W O vf f.data) (hn : S.length ≤ 4000) (hbase : base ≤ W.heap.size)
    (h : ∀ g cap1 w1, Srow w1 base (Grow O W w1) (.slice (some ⟨g, 0, none⟩) (S.length + 1) cap1) (S ++ [f]) → W.grownBy w1 v.ownBlock → (v.ownBlock = some g ∨ g = W.heap.size) → K (a.put o.dst (.slice (some ⟨g, 0, none⟩) (S.length + 1) cap1)) w1) :
    if Region.wanted o (yielded ops a.tmps) = true then Oper.wp Try.prog o a W K Q else E := by
  obtain ⟨i0, hi0, hz0, hz1, hz2⟩ := info_parts Try.info43
  obtain ⟨vs, ho1, hO, hd1⟩ := hown
  refine step_append_lies _ hgd s x 26 ho base 43 i0 _ 8 72 Try.underlying26 hi0 hz0 hz1 hz2 rfl (by omega) v S.length (fcells S vs S.length) hs ho1 ⟨B, 0, none⟩ 1 1 (factCells f vf).toList hx rfl (World.news_of_block hB) (fact_one hvf.shape) (by omega) (by unfold maxLen; omega) (by omega) hbase W.heap.size rfl ?_
  intro g cap1 w1 h1 h2 h3 h4
  exact h g cap1 w1 (Srow.more ho1 hO hd1 hvf h1 h2 h3 h4) h2 h3

/-- Such a unit was sent by the other end. -/
def FactP.meets (f s : FactP) : Bool := s.conn == f.conn && (s.side != f.side && (s.session == f.session && (s.number == f.number && decide (s.data = f.data))))

def rCells (ve vse vst : Value) (st : JP) : Array Value := #[ve, vse, vst, .int .i64 st.at_, .int .i64 st.rule, .int .i64 st.rat]

theorem any_prefix_none {S : List FactP} {p : FactP → Bool} (h : ∀ i (hi : i < S.length), p S[i] = false) : S.any p = false := by
  rw [Bool.eq_false_iff]
  intro e
  obtain ⟨s, hs, hp⟩ := List.any_eq_true.1 e
  obtain ⟨i, hi, rfl⟩ := List.getElem_of_mem hs
  rw [h i hi] at hp
  cases hp
theorem any_at {S : List FactP} {p : FactP → Bool} {i : Nat} (hi : i < S.length) (h : p S[i] = true) : S.any p = true := List.any_eq_true.2 ⟨_, List.getElem_mem hi, h⟩

set_option maxRecDepth 1000000 in
set_option maxHeartbeats 8000000 in
theorem sent_any (O O' : Nat → Prop) (j : Nat) (ve vse vst : Value) (st : JP) (S : List FactP) (f : FactP) (vf : Value) (w : World) (hb : Blk w j (rCells ve vse vst st) 48) (hS : Srow w 0 O vst S) (hn : S.length ≤ 4000) (hf : Bs w O' vf f.data) :
    Calls Try.prog 25 #[.pointer (some ⟨j, 0, none⟩), factV f vf] w fun e w' => e = .returned (.bool (S.any f.meets)) ∧ Fr No w w' := by
  have j2 : w.cell? ⟨j, 2, none⟩ = some vst := hb.cell 2
  have hltj := hb.lt
  obtain ⟨sa, sc, rfl⟩ := hS.crow.shape
  have HF := Lib.hid hS.crow.fs
  have hfv : ∃ a' c', vf = .slice a' f.data.length c' := let ⟨a, c, h, _⟩ := hf; ⟨a, c, h⟩
  obtain ⟨a', cap', rfl⟩ := hfv
  have HD := Lib.hid hf
  have HN := Lib.hid hn
  clear hb hS hf hn
  obtain ⟨fm, hfm⟩ : ∃ fm, fm = f.meets := ⟨_, rfl⟩
  rw [← hfm]
  have HFM := Lib.hid hfm
  clear hfm
  obtain ⟨kind, conn, side, sess, number, on, code, data⟩ := f
  dsimp only at HD
  show Calls Try.prog 25 #[.pointer (some ⟨j, 0, none⟩), .agg #[.int .i64 kind, .int .i64 conn, .int .i64 side, .int .u32 sess, .int .u32 number, .bool on, .int .i64 code, .slice a' data.length cap']] w _
  have K0 := (Fr.refl No w).alloc (.cells #[.int .i64 kind, .int .i64 conn, .int .i64 side, .int .u32 sess, .int .u32 number, .bool on, .int .i64 code, .slice a' data.length cap'] 43)
  have B0 := Blk.new w #[.int .i64 kind, .int .i64 conn, .int .i64 side, .int .u32 sess, .int .u32 number, .bool on, .int .i64 code, .slice a' data.length cap'] 43
  have HK := Lib.hid K0
  have HB := Lib.hid B0
  clear K0 B0
  go_enter Try.func25, Try.ntmps25
  go_wp2
  generalize w.alloc (.cells #[.int .i64 kind, .int .i64 conn, .int .i64 side, .int .u32 sess, .int .u32 number, .bool on, .int .i64 code, .slice a' data.length cap'] 43) = W0 at HK HB ⊢
  generalize hB0 : w.heap.size = B0 at HB ⊢
  go_loopw [5] (fun vk wr => ∃ k : Nat, k ≤ S.length ∧ vk = .int .i64 k ∧ Hid (∀ i (h : i < k) (h2 : i < S.length), fm S[i] = false) ∧ Fr No W0 wr) (fun k _ => S.length - (intOf k).toNat)
  case atStart => exact ⟨0, Nat.zero_le _, rfl, Lib.hid fun i h => absurd h (by omega), Fr.refl _ _⟩
  case round =>
    obtain ⟨k, hk, rfl, HQ, hfr⟩ := hrel
    have HFR := Lib.hid hfr
    have HW := Lib.hid (HK.out.trans hfr)
    have j2' : wr.cell? ⟨j, 2, none⟩ = some (.slice sa S.length sc) := HW.out.old j2 id
    have bB := hfr.blk HB.out id
    have b1 : wr.cell? ⟨B0, 1, none⟩ = some (.int .i64 conn) := bB.cell 1
    have b2 : wr.cell? ⟨B0, 2, none⟩ = some (.int .i64 side) := bB.cell 2
    have b3 : wr.cell? ⟨B0, 3, none⟩ = some (.int .u32 sess) := bB.cell 3
    have b4 : wr.cell? ⟨B0, 4, none⟩ = some (.int .u32 number) := bB.cell 4
    have b7 : wr.cell? ⟨B0, 7, none⟩ = some (.slice a' data.length cap') := bB.cell 7
    have bl := bB.lt
    clear hfr bB
    by_cases hlt : k < S.length
    · have g1 : (k : Int) < (S.length : Int) := by omega
      have g0 : (0 : Int) ≤ (k : Int) := by omega
      have hk8 : k < 4000 := by have := HN.out; omega
      have hkw : wrap64 ((k : Int) + 1) = (k : Int) + 1 := by unfold wrap64; omega
      obtain ⟨_, b, off, vs, rfl, _, hbs, hc⟩ := HF.out.at_ hlt
      obtain ⟨d0, d1, d2, d3, d4, d5, d6, d7⟩ := fact_cells hc
      have hw := HW.out
      have c0 := hw.old d0 id
      have c1 := hw.old d1 id
      have c2 := hw.old d2 id
      have c3 := hw.old d3 id
      have c4 := hw.old d4 id
      have c5 := hw.old d5 id
      have c6 := hw.old d6 id
      have c7 := hw.old d7 id
      clear d0 d1 d2 d3 d4 d5 d6 d7 hc hw
      have hbl := lt_of_cell? c0
      dsimp only at hbl
      have hvf : ∃ av cv, vs = .slice av S[k].data.length cv := let ⟨av, cv, h, _⟩ := hbs; ⟨av, cv, h⟩
      obtain ⟨av, cv, rfl⟩ := hvf
      have HBS := Lib.hid hbs
      clear hbs
      obtain ⟨skind, sconn, sside, ssess, snumber, son, scode, sdata, hsk⟩ : ∃ skind sconn sside ssess snumber son scode sdata, S[k] = ⟨skind, sconn, sside, ssess, snumber, son, scode, sdata⟩ := ⟨_, _, _, _, _, _, _, _, rfl⟩
      rw [hsk] at c0 c1 c2 c3 c4 c5 c6 c7 HBS
      dsimp only at c0 c1 c2 c3 c4 c5 c6 c7 HBS
      have HSK := Lib.hid hsk
      have HLT := Lib.hid hlt
      clear hsk
      have hx := HFM.out
      have HMT : Hid (fm S[k] = (sconn == conn && (sside != side && (ssess == sess && (snumber == number && decide (sdata = data)))))) := by
        show _ = _; rw [hx]; exact congrArg (FactP.meets _) HSK.out
      clear hx
      have X := (Fr.refl No wr).alloc (.cells #[.int .i64 skind, .int .i64 sconn, .int .i64 sside, .int .u32 ssess, .int .u32 snumber, .bool son, .int .i64 scode, .slice av sdata.length cv] 43)
      have cv1 : (convert 41 9 (.slice av sdata.length cv)).run Try.prog (wr.alloc (.cells #[.int .i64 skind, .int .i64 sconn, .int .i64 sside, .int .u32 ssess, .int .u32 snumber, .bool son, .int .i64 scode, .slice av sdata.length cv] 43)) = .ok (.string (strV sdata)) _ :=
        let ⟨_, _, h, _, r⟩ := (HBS.out.keep (HW.out.trans X) fun _ _ => id); by cases h; exact conv_rd r
      have cv2 : (convert 41 9 (.slice a' data.length cap')).run Try.prog (wr.alloc (.cells #[.int .i64 skind, .int .i64 sconn, .int .i64 sside, .int .u32 ssess, .int .u32 snumber, .bool son, .int .i64 scode, .slice av sdata.length cv] 43)) = .ok (.string (strV data)) _ :=
        let ⟨_, _, h, _, r⟩ := (HD.out.keep (HW.out.trans X) fun _ _ => id); by cases h; exact conv_rd r
      have HX := Lib.hid X
      clear X
      have hcs : fm S[k] = true ∨ fm S[k] = false := by cases fm S[k] <;> simp
      rcases hcs with hm | hm
      · have HA := Lib.hid (any_at (p := fm) HLT.out hm)
        rw [HMT.out] at hm
        simp only [Bool.and_eq_true] at hm
        obtain ⟨e1, e2, e3, e4, e5⟩ := hm
        have e5' : sdata = data := of_decide_eq_true e5
        subst e5'
        clear e5 HMT
        go_wp2
        go_ret
        exact ⟨ret_bool HA.out.symm, HW.out.trans HX.out⟩
      · have HQ1 : Hid (∀ i (h : i < k + 1) (h2 : i < S.length), fm S[i] = false) := by
          intro i h h2
          by_cases e : i = k
          · subst e; exact hm
          · exact HQ.out i (by omega) h2
        rw [HMT.out] at hm
        clear HMT
        have fin : (sconn == conn) = false ∨ ((sconn == conn) = true ∧ (sside != side) = false) ∨ ((sconn == conn) = true ∧ (sside != side) = true ∧ (ssess == sess) = false) ∨ ((sconn == conn) = true ∧ (sside != side) = true ∧ (ssess == sess) = true ∧ (snumber == number) = false) ∨ ((sconn == conn) = true ∧ (sside != side) = true ∧ (ssess == sess) = true ∧ (snumber == number) = true ∧ decide (sdata = data) = false) := by
          cases h1 : (sconn == conn) <;> cases h2 : (sside != side) <;> cases h3 : (ssess == sess) <;> cases h4 : (snumber == number) <;> simp_all
        clear hm
        rcases fin with e1 | ⟨e1, e2⟩ | ⟨e1, e2, e3⟩ | ⟨e1, e2, e3, e4⟩ | ⟨e1, e2, e3, e4, e5⟩
        · clear cv1 cv2
          go_wp2
          go_roundw
          case rel => exact ⟨k + 1, by omega, by go_num, HQ1, HFR.out.trans HX.out⟩
          case measure => simp [intOf, hkw]; omega
        · clear cv1 cv2
          go_wp2
          go_roundw
          case rel => exact ⟨k + 1, by omega, by go_num, HQ1, HFR.out.trans HX.out⟩
          case measure => simp [intOf, hkw]; omega
        · clear cv1 cv2
          go_wp2
          go_roundw
          case rel => exact ⟨k + 1, by omega, by go_num, HQ1, HFR.out.trans HX.out⟩
          case measure => simp [intOf, hkw]; omega
        · clear cv1 cv2
          go_wp2
          go_roundw
          case rel => exact ⟨k + 1, by omega, by go_num, HQ1, HFR.out.trans HX.out⟩
          case measure => simp [intOf, hkw]; omega
        · have e6 : ((strV sdata).toList == (strV data).toList) = false := by rw [strV_toList, strV_toList]; simpa using e5
          clear e5
          go_wp2
          go_roundw
          case rel => exact ⟨k + 1, by omega, by go_num, HQ1, HFR.out.trans HX.out⟩
          case measure => simp [intOf, hkw]; omega
    · have e : k = S.length := by omega
      have h1 : ¬ ((k : Int) < (S.length : Int)) := by omega
      have HA : Hid (S.any fm = false) := any_prefix_none fun i hi => HQ.out i (by omega) hi
      go_wp2
      go_ret
      exact ⟨ret_bool HA.out.symm, HW.out⟩
end Go.Proofs.Ytmggfdhlbjlpjaa
