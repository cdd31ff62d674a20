/-
  DERIVED. The reference's judge: the walk of 'begin'.
-/
import Derived.Test.YtmggfdhlbjlpjaaRef
namespace Go.Proofs.Ytmggfdhlbjlpjaa
open Go.RowKit
set_option linter.unusedSimpArgs false
set_option linter.unusedVariables false

/-- What stays behind a beginning of a session. -/
def FactP.stays (f s : FactP) : Bool := !(s.conn == f.conn && (s.side == 1 && s.session == f.session))

theorem take_filter' {p : FactP → Bool} {l : List FactP} {k : Nat} (hk : k < l.length) : (l.take (k + 1)).filter p = (l.take k).filter p ++ (if p l[k] = true then [l[k]] else []) := by
  rw [List.take_succ_eq_append_getElem hk, List.filter_append]
  congr 1
  by_cases h : p l[k] = true <;> simp [h]

/-- On the way: what stays of the first k lies in a new row. -/
structure BegSt (w wr : World) (O : Nat → Prop) (L : List FactP) (v : Value) : Prop where
  r : Srow wr w.heap.size (Grow O w wr) v L
  f : Fr No w wr

theorem BegSt.keep {w wr W : World} {O : Nat → Prop} {L : List FactP} {v : Value} (h : BegSt w wr O L v) (k : Fr No wr W) : BegSt w W O L v :=
  ⟨h.r.keep k (fun _ _ _ _ => id) (fun _ _ _ _ => id) fun b hb _ => hb.elim .inl fun hb => .inr ⟨hb.1, Nat.lt_of_lt_of_le hb.2 k.size⟩, h.f.trans k⟩

theorem BegSt.step {w W w1 : World} {O : Nat → Prop} {L : List FactP} {v : Value} {f : FactP} {v' : Value} (h : BegSt w W O L v) (h1 : Srow w1 w.heap.size (Grow (Grow O w W) W w1) v' (L ++ [f])) (h2 : W.grownBy w1 v.ownBlock) : BegSt w w1 O (L ++ [f]) v' := by
  have k2 := grown_fr h2
  refine ⟨h1.keep (Fr.refl No _) (fun _ _ _ _ => id) (fun _ _ _ _ => id) fun b hb hl => hb.trans h.f.size k2.size, h.f.more k2 ?_⟩
  intro b hb hlt
  obtain ⟨vs, a, _, _⟩ := h.r
  exact absurd (Nat.lt_of_lt_of_le hlt (owns_block a hb.symm).1) (Nat.lt_irrefl _)

/-- One fact of the list. -/
theorem Srow.at_ {w : World} {base : Nat} {O : Nat → Prop} {v : Value} {S : List FactP} (h : Srow w base O v S) {k : Nat} (hk : k < S.length) : ∃ b cap vf, v = .slice (some ⟨b, 0, none⟩) S.length cap ∧ O b ∧ Ob w O vf S[k].data ∧ ∀ i u, (factCells S[k] vf)[i]? = some u → w.cell? ⟨b, k * 8 + i, none⟩ = some u := by
  obtain ⟨vs, ⟨_, h2⟩, hO, hd⟩ := h
  rcases h2 with ⟨_, h⟩ | ⟨g, cap, cur, rfl, hg, hh, hnc, hcm, hsz, htk⟩
  · omega
  · have hb : Blk w g cur 43 := hh
    refine ⟨g, cap, vs k, rfl, hO g rfl, hd k hk, fun i u hu => ?_⟩
    have hi : i < 8 := by
      rcases Nat.lt_or_ge i 8 with h | h
      · exact h
      · rw [Array.getElem?_eq_none (by show 8 ≤ i; omega)] at hu; cases hu
    have e := fcells_get S vs S.length k hk i hi
    rw [getD_eq S k hk, hu, ← htk, List.getElem?_take_of_lt (by omega)] at e
    rw [hb.cell]
    simpa using e

set_option maxRecDepth 1000000 in
set_option maxHeartbeats 8000000 in
theorem begin_any (O O' : Nat → Prop) (j q sc i : Nat) (ve vst : Value) (csq : Array Value) (st : JP) (S : List FactP) (f : FactP) (vf : Value) (n : Nat) (u0 : Value) (w : World) (hb : Blk w j (rCells ve (.slice (some ⟨q, 0, none⟩) n sc) vst st) 48) (hq : Blk w q csq 23) (hi : f.conn = (i : Int)) (hin : i < n) (hcs : csq[i]? = some u0) (hS : Srow w 0 O vst S) (hO : ∀ b, O b → b < w.heap.size) (hn : S.length ≤ 4000) (hf : ∃ a' c', vf = .slice a' f.data.length c') :
    Calls Try.prog 26 #[.pointer (some ⟨j, 0, none⟩), factV f vf] w fun e w' => e = .returned (.tuple #[]) ∧ ∃ vst', Blk w' j (rCells ve (.slice (some ⟨q, 0, none⟩) n sc) vst' st) 48 ∧ Blk w' q (csq.setIfInBounds i (.int .u32 f.session)) 23 ∧ Srow w' 0 (Grow O w w') vst' (S.filter f.stays) ∧ Fr (fun b => b = j ∨ b = q) w w' := by
  have j1 : w.cell? ⟨j, 1, none⟩ = some (.slice (some ⟨q, 0, none⟩) n sc) := hb.cell 1
  have j2 : w.cell? ⟨j, 2, none⟩ = some vst := hb.cell 2
  have q0 : w.cell? ⟨q, i, none⟩ = some u0 := by rw [hq.cell]; exact hcs
  have hltj := hb.lt
  have hltq := hq.lt
  have hjq : ¬ j = q := hb.unlike hq (by decide)
  have HBJ := Lib.hid hb
  have HBQ := Lib.hid hq
  have HI := Lib.hid hi
  have HJQ := Lib.hid hjq
  have HOO := Lib.hid hO
  have HS := Lib.hid hS
  obtain ⟨sa, sc2, rfl⟩ := hS.crow.shape
  have HN := Lib.hid hn
  obtain ⟨a', cap', rfl⟩ := hf
  clear hb hq hi hn hS hO hcs
  obtain ⟨fm, hfm⟩ : ∃ fm, fm = f.stays := ⟨_, rfl⟩
  rw [← hfm]
  have HFM := Lib.hid hfm
  clear hfm
  obtain ⟨kind, conn, side, sess, number, on, code, data⟩ := f
  dsimp only at HI
  have hi0 := HI.out
  subst hi0
  clear HI
  show Calls Try.prog 26 #[.pointer (some ⟨j, 0, none⟩), .agg #[.int .i64 kind, .int .i64 (i : Int), .int .i64 side, .int .u32 sess, .int .u32 number, .bool on, .int .i64 code, .slice a' data.length cap']] w _
  have K0 := (Fr.refl No w).alloc (.cells #[.int .i64 kind, .int .i64 (i : Int), .int .i64 side, .int .u32 sess, .int .u32 number, .bool on, .int .i64 code, .slice a' data.length cap'] 43)
  have B0 := Blk.new w #[.int .i64 kind, .int .i64 (i : Int), .int .i64 side, .int .u32 sess, .int .u32 number, .bool on, .int .i64 code, .slice a' data.length cap'] 43
  have HB := Lib.hid B0
  have HK := Lib.hid K0
  clear K0 B0
  go_enter Try.func26, Try.ntmps26
  go_wp2
  generalize w.alloc (.cells #[.int .i64 kind, .int .i64 (i : Int), .int .i64 side, .int .u32 sess, .int .u32 number, .bool on, .int .i64 code, .slice a' data.length cap'] 43) = W0 at HK HB ⊢
  obtain ⟨B0, hB0⟩ : ∃ B0, B0 = w.heap.size := ⟨_, rfl⟩
  rw [← hB0] at HB ⊢
  have HB0 := Lib.hid hB0
  clear hB0
  go_loopw [5, 4] (fun vk vx wr => ∃ (k : Nat) (vl : Value), k ≤ S.length ∧ vk = .int .i64 k ∧ vl = vx ∧ BegSt W0 wr O ((S.take k).filter fm) vl) (fun k _ _ => S.length - (intOf k).toNat)
  case atStart => exact ⟨0, _, Nat.zero_le _, rfl, rfl, Srow.nil _ _ _, Fr.refl _ _⟩
  case round =>
    obtain ⟨k, vl, hk, rfl, rfl, hst⟩ := hrel
    have HST := Lib.hid hst
    have HW := Lib.hid (HK.out.trans hst.f)
    have j1' : wr.cell? ⟨j, 1, none⟩ = some (.slice (some ⟨q, 0, none⟩) n sc) := HW.out.old j1 id
    have j2' : wr.cell? ⟨j, 2, none⟩ = some (.slice sa S.length sc2) := HW.out.old j2 id
    have bB := hst.f.blk HB.out id
    have b1 : wr.cell? ⟨B0, 1, none⟩ = some (.int .i64 (i : Int)) := bB.cell 1
    have b3 : wr.cell? ⟨B0, 3, none⟩ = some (.int .u32 sess) := bB.cell 3
    have bl := bB.lt
    clear bB
    by_cases hlt : k < S.length
    · have g1 : (k : Int) < (S.length : Int) := by omega
      have g0 : (0 : Int) ≤ (k : Int) := by omega
      have hk8 : k < 4000 := by have := HN.out; omega
      have hkw : wrap64 ((k : Int) + 1) = (k : Int) + 1 := by unfold wrap64; omega
      obtain ⟨b, cp, vs, hsl, _, hbs, hc⟩ := HS.out.at_ hlt
      cases hsl
      obtain ⟨d0, d1, d2, d3, d4, d5, d6, d7⟩ := fact_cells (o := k * 8) hc
      have hw := HW.out
      have c0 := hw.old d0 id
      have c1 := hw.old d1 id
      have c2 := hw.old d2 id
      have c3 := hw.old d3 id
      have c4 := hw.old d4 id
      have c5 := hw.old d5 id
      have c6 := hw.old d6 id
      have c7 := hw.old d7 id
      clear d0 d1 d2 d3 d4 d5 d6 d7 hc hw
      have hbl := lt_of_cell? c0
      dsimp only at hbl
      obtain ⟨av, cv, rfl⟩ := hbs.shape
      have HBS := Lib.hid hbs
      clear hbs
      obtain ⟨lc, hlc⟩ : ∃ lc, lc = (S.take k).filter fm := ⟨_, rfl⟩
      rw [← hlc] at hst
      have hlen : lc.length ≤ 4000 := by rw [hlc]; exact Nat.le_trans (List.length_filter_le ..) (by rw [List.length_take]; omega)
      obtain ⟨la, lcap, rfl⟩ := hst.r.crow.shape
      have HSL := Lib.hid hst
      have HLEN := Lib.hid hlen
      have htf := take_filter' (p := fm) hlt
      rw [← hlc] at htf
      have HTF := Lib.hid htf
      clear hlc hst hlen htf
      have hx := HFM.out
      have HMT : Hid (fm S[k] = !(S[k].conn == (i : Int) && (S[k].side == 1 && S[k].session == sess))) := by
        show _ = _; rw [hx]; rfl
      clear hx
      obtain ⟨sf, hsf⟩ : ∃ sf, sf = S[k] := ⟨_, rfl⟩
      rw [← hsf] at c0 c1 c2 c3 c4 c5 c6 c7 HBS HMT HTF
      clear hsf
      obtain ⟨skind, sconn, sside, ssess, snumber, son, scode, sdata⟩ := sf
      dsimp only at c0 c1 c2 c3 c4 c5 c6 c7 HBS HMT
      have X := (Fr.refl No wr).alloc (.cells #[.int .i64 skind, .int .i64 sconn, .int .i64 sside, .int .u32 ssess, .int .u32 snumber, .bool son, .int .i64 scode, .slice av sdata.length cv] 43)
      have HX := Lib.hid X
      clear X
      have hcs : fm ⟨skind, sconn, sside, ssess, snumber, son, scode, sdata⟩ = true ∨ fm ⟨skind, sconn, sside, ssess, snumber, son, scode, sdata⟩ = false := by cases fm ⟨skind, sconn, sside, ssess, snumber, son, scode, sdata⟩ <;> simp
      rcases hcs with hm | hm
      · rw [if_pos hm] at HTF
        rw [HMT.out] at hm
        clear HMT
        have fin : (sconn != (i : Int)) = true ∨ ((sconn != (i : Int)) = false ∧ (sside != 1) = true) ∨ ((sconn != (i : Int)) = false ∧ (sside != 1) = false ∧ (ssess != sess) = true) := by
          unfold bne
          cases h1 : (sconn == (i : Int)) <;> cases h2 : (sside == 1) <;> cases h3 : (ssess == sess) <;> simp_all
        clear hm
        have X2 := Lib.hid (HX.out.alloc (.cells #[.int .i64 skind, .int .i64 sconn, .int .i64 sside, .int .u32 ssess, .int .u32 snumber, .bool son, .int .i64 scode, .slice av sdata.length cv] 43))
        rcases fin with e1 | ⟨e1, e2⟩ | ⟨e1, e2, e3⟩
        · go_wp2_with (at_builtin; refine wpList_append_s (by rfl) _ _ (by rfl) W0.heap.size (Grow O W0 ((wr.alloc _).alloc _)) (.slice la lc.length lcap) lc ⟨skind, sconn, sside, ssess, snumber, son, scode, sdata⟩ (.slice av sdata.length cv) (by rfl) (HSL.out.keep X2.out).r (wr.heap.size + 1) (by rfl) (by exact alloc_at (wr.alloc _) _ (by simp)) (((HBS.out.keep (HW.out.trans X2.out) fun _ _ => id)).wide fun b hb _ => .inl hb) HLEN.out (by have := HSL.out.f.size; simp; omega) ?_; intro g cap1 w4 h1 h2 h3; have st4 := (HSL.out.keep X2.out).step h1 h2)
          go_wp2
          go_roundw
          case rel => exact ⟨k + 1, _, by omega, by go_num, rfl, by rw [HTF.out]; exact st4⟩
          case measure => simp [intOf, hkw]; omega
        · go_wp2_with (at_builtin; refine wpList_append_s (by rfl) _ _ (by rfl) W0.heap.size (Grow O W0 ((wr.alloc _).alloc _)) (.slice la lc.length lcap) lc ⟨skind, sconn, sside, ssess, snumber, son, scode, sdata⟩ (.slice av sdata.length cv) (by rfl) (HSL.out.keep X2.out).r (wr.heap.size + 1) (by rfl) (by exact alloc_at (wr.alloc _) _ (by simp)) (((HBS.out.keep (HW.out.trans X2.out) fun _ _ => id)).wide fun b hb _ => .inl hb) HLEN.out (by have := HSL.out.f.size; simp; omega) ?_; intro g cap1 w4 h1 h2 h3; have st4 := (HSL.out.keep X2.out).step h1 h2)
          go_wp2
          go_roundw
          case rel => exact ⟨k + 1, _, by omega, by go_num, rfl, by rw [HTF.out]; exact st4⟩
          case measure => simp [intOf, hkw]; omega
        · go_wp2_with (at_builtin; refine wpList_append_s (by rfl) _ _ (by rfl) W0.heap.size (Grow O W0 ((wr.alloc _).alloc _)) (.slice la lc.length lcap) lc ⟨skind, sconn, sside, ssess, snumber, son, scode, sdata⟩ (.slice av sdata.length cv) (by rfl) (HSL.out.keep X2.out).r (wr.heap.size + 1) (by rfl) (by exact alloc_at (wr.alloc _) _ (by simp)) (((HBS.out.keep (HW.out.trans X2.out) fun _ _ => id)).wide fun b hb _ => .inl hb) HLEN.out (by have := HSL.out.f.size; simp; omega) ?_; intro g cap1 w4 h1 h2 h3; have st4 := (HSL.out.keep X2.out).step h1 h2)
          go_wp2
          go_roundw
          case rel => exact ⟨k + 1, _, by omega, by go_num, rfl, by rw [HTF.out]; exact st4⟩
          case measure => simp [intOf, hkw]; omega
      · rw [if_neg (by rw [hm]; decide), List.append_nil] at HTF
        rw [HMT.out] at hm
        clear HMT
        have fin : (sconn != (i : Int)) = false ∧ (sside != 1) = false ∧ (ssess != sess) = false := by
          unfold bne
          cases h1 : (sconn == (i : Int)) <;> cases h2 : (sside == 1) <;> cases h3 : (ssess == sess) <;> simp_all
        clear hm
        obtain ⟨e1, e2, e3⟩ := fin
        go_wp2
        go_roundw
        case rel => exact ⟨k + 1, _, by omega, by go_num, rfl, by rw [HTF.out]; exact HSL.out.keep HX.out⟩
        case measure => simp [intOf, hkw]; omega
    · have e : k = S.length := by omega
      subst e
      have h1 : ¬ ((S.length : Int) < (S.length : Int)) := by omega
      rw [List.take_length] at HST hst
      obtain ⟨la, lcap, hvl⟩ := hst.r.crow.shape
      generalize (S.filter fm).length = ln at hvl
      subst hvl
      have hzf := (HW.out.blk HBJ.out id).free 2
      have hqf := (HW.out.blk HBQ.out id).free i
      have hl1 := lt_of_cell? j1'
      have hl2 := (HW.out.blk HBQ.out id).lt
      dsimp only at hl1
      have q0' := HW.out.old q0 id
      have gi : (i : Int) < (n : Int) := by omega
      have gi0 : (0 : Int) ≤ (i : Int) := by omega
      have hBj : ¬ B0 = j := by have := HB0.out; omega
      have hBq : ¬ B0 = q := by have := HB0.out; omega
      have hjB : ¬ j = B0 := by have := HB0.out; omega
      have hqB : ¬ q = B0 := by have := HB0.out; omega
      have hjq : ¬ j = q := HJQ.out
      have hqj : ¬ q = j := fun e => HJQ.out e.symm
      have BJ := HW.out.blk HBJ.out id
      have BQ := HW.out.blk HBQ.out id
      have w1J : Blk (wr.setCell ⟨j, 2, none⟩ (.slice la ln lcap)) j (rCells ve (.slice (some ⟨q, 0, none⟩) n sc) (.slice la ln lcap) st) 48 := BJ.set' 2 _ rfl
      have f1 : Fr (fun b => b = j) wr (wr.setCell ⟨j, 2, none⟩ (.slice la ln lcap)) := (Fr.refl (fun b => b = j) wr).setCell (p := ⟨j, 2, none⟩) (fun _ => rfl) _
      have w1Q := f1.blk BQ (fun e => hqj e)
      have hfin : ∀ W, Fr No (wr.setCell ⟨j, 2, none⟩ (.slice la ln lcap)) W → Blk (W.setCell ⟨q, i, none⟩ (.int .u32 sess)) j (rCells ve (.slice (some ⟨q, 0, none⟩) n sc) (.slice la ln lcap) st) 48 ∧ Blk (W.setCell ⟨q, i, none⟩ (.int .u32 sess)) q (csq.setIfInBounds i (.int .u32 sess)) 23 ∧ Srow (W.setCell ⟨q, i, none⟩ (.int .u32 sess)) 0 (Grow O w (W.setCell ⟨q, i, none⟩ (.int .u32 sess))) (.slice la ln lcap) (S.filter fm) ∧ Fr (fun b => b = j ∨ b = q) w (W.setCell ⟨q, i, none⟩ (.int .u32 sess)) := by
        intro W kW
        have f2 : Fr (fun b => b = q) W (W.setCell ⟨q, i, none⟩ (.int .u32 sess)) := (Fr.refl (fun b => b = q) W).setCell (p := ⟨q, i, none⟩) (fun _ => rfl) _
        have f3 : Fr (fun b => b = j ∨ b = q) wr (W.setCell ⟨q, i, none⟩ (.int .u32 sess)) := ((f1.more kW (fun _ h => h.elim)).wide (O' := fun b => b = j ∨ b = q) fun _ h _ => .inl h).more f2 fun _ h _ => .inr h
        refine ⟨f2.blk (kW.blk w1J id) (fun e => hjq e), (kW.blk w1Q id).set _ _, ?_, (HW.out.no _).trans f3⟩
        refine HST.out.r.base.keep f3 ?_ ?_ ?_
        · rintro g cur _ hb (rfl | rfl)
          · exact hb.unlike BJ (by decide) rfl
          · exact hb.unlike BQ (by decide) rfl
        · rintro g cur _ hb (rfl | rfl)
          · exact hb.unlike BJ (by decide) rfl
          · exact hb.unlike BQ (by decide) rfl
        · rintro b (hb | hb) hlt
          · exact .inl hb
          · exact .inr ⟨Nat.le_trans HK.out.size hb.1, Nat.lt_of_lt_of_le hlt f3.size⟩
      have HFIN := Lib.hid hfin
      have y1 : (wr.setCell ⟨j, 2, none⟩ (.slice la ln lcap)).cell? ⟨j, 1, none⟩ = some (.slice (some ⟨q, 0, none⟩) n sc) := w1J.cell 1
      have y2 := f1.old b1 hBj
      have y3 := f1.old b3 hBj
      have y4 := w1Q.free i
      have y5 := f1.old q0' hqj
      have y6 := w1Q.lt
      clear hfin w1J f1 w1Q BJ BQ hst
      go_wp2
      clear j1' b1 b3 q0' hqf hzf j2' q0 j1 j2
      generalize wr.setCell ⟨j, 2, none⟩ (.slice la ln lcap) = W1 at y1 y2 y3 y4 y5 y6 HFIN ⊢
      go_region_held (fun W => W.cell? ⟨j, 1, none⟩ = some (.slice (some ⟨q, 0, none⟩) n sc) ∧ W.cell? ⟨B0, 1, none⟩ = some (.int .i64 (i : Int)) ∧ W.cell? ⟨B0, 3, none⟩ = some (.int .u32 sess)) (go_keep) (fail)
      go_wp2
      go_end0
      have hF := HFIN.out W1.drew (Fr.refl No W1).drew
      exact ⟨rfl, _, hF⟩
end Go.Proofs.Ytmggfdhlbjlpjaa
