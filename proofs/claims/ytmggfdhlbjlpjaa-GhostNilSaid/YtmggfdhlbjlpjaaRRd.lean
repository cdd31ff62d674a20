/-
  DERIVED. The reference's rule leaves a judge.
-/
import Derived.Test.YtmggfdhlbjlpjaaRRc
namespace Go.Proofs.Ytmggfdhlbjlpjaa
open Go.RowKit
set_option linter.unusedSimpArgs false
set_option linter.unusedVariables false

theorem REnds.same {w : World} {O : Nat → Prop} {v : Value} {L : List LineP} (h : REnds w O v L) (i : Nat) (hi : i < L.length) (l' : LineP) (h0 : l'.e0 = L[i].e0) (h1 : l'.e1 = L[i].e1) : REnds w O v (L.set i l') := by
  obtain ⟨a, cap, hv, h⟩ := h
  refine ⟨a, cap, by simpa using hv, fun hl => ?_⟩
  obtain ⟨q, cs, eb, ha, hq, hb, hx, hinj⟩ := h (by simpa using hl)
  refine ⟨q, cs, eb, ha, hq, hb, fun m hm => ?_, fun a b ha hb => hinj a b (by simpa using ha) (by simpa using hb)⟩
  have hm' : m < L.length := by simpa using hm
  refine ⟨(hx m hm').1, ?_⟩
  by_cases e : i = m
  · subst e
    have : (L.set i l')[i]'hm = l' := by simp
    rw [this]
    have := (hx i hm').2
    unfold RLine at *
    rw [h0, h1]; exact this
  · have : (L.set i l')[m]'hm = L[m] := by simp [e]
    rw [this]; exact (hx m hm').2

theorem RSess.put {w : World} {O : Nat → Prop} {q sc : Nat} {css : Array Value} {L : List LineP} (hq : O q) (s : Int) (i : Nat) (hi : i < L.length) (hb : Blk w q (css.setIfInBounds i (.int .u32 s)) 23) (hc : ∀ i (h : i < L.length), css[i]? = some (.int .u32 L[i].session)) (l' : LineP) (hs : l'.session = s) : RSess w O (.slice (some ⟨q, 0, none⟩) L.length sc) (L.set i l') := by
  refine ⟨_, sc, by simp, fun hl => ⟨q, _, rfl, hq, hb, fun m hm => ?_⟩⟩
  have hm' : m < L.length := by simpa using hm
  rw [Array.getElem?_setIfInBounds]
  by_cases e : i = m
  · subst e
    have h0 := hc i hi
    have hsz : i < css.size := by
      rcases Nat.lt_or_ge i css.size with h | h
      · exact h
      · rw [Array.getElem?_eq_none h] at h0; cases h0
    have : (L.set i l')[i]'hm = l' := by simp
    rw [this, if_pos rfl, if_pos hsz, hs]
  · have : (L.set i l')[m]'hm = L[m] := by simp [e]
    rw [this, if_neg e]; exact hc m hm'

theorem owned {w : World} {base : Nat} {O : Nat → Prop} {v : Value} {S : List FactP} (h : Srow w base O v S) {x : Nat} (hx : some x = v.ownBlock) : O x ∧ ∃ cur, Blk w x cur 43 := let ⟨_, a, b, _⟩ := h; ⟨b x hx.symm, (owns_block a hx.symm).2⟩

theorem rrule_any (O O' : Nat → Prop) (j : Nat) (st : JP) (f : FactP) (vf : Value) (N : Int) (n : Nat) (w : World) (hj : IsR w O j st n) (hf : Bs w O' vf f.data) (hd : ∀ b, O' b → ¬ O b) (hlen : f.data.length ≤ 140737488351232) (hfo : f.Ok) (hok : st.Ok N) (hN : N ≤ 2000) (hn : n ≤ 4000) :
    Calls Try.prog 19 #[.pointer (some ⟨j, 0, none⟩), factV f vf] w fun e w' => e = .returned (.int .i64 (st.judge f).2) ∧ IsR w' (Grow O w w') j (st.judge f).1 (n + 1) ∧ Fr O w w' := by
  obtain ⟨hO, hoj, ve, vse, vst, S, hbj, hE, hS, hR, hSo, hSn⟩ := id hj
  obtain ⟨a, cap, rfl, hE2⟩ := id hE
  by_cases hin : f.In st.lines.length
  · obtain ⟨k1, k8, c0, c1, hs⟩ := hin
    obtain ⟨as', sc, rfl, hS2⟩ := id hS
    obtain ⟨q, cs69, eb, rfl, hq, hb69, hx, hinj⟩ := hE2 (by omega)
    obtain ⟨qs, css, rfl, hqs, hbs, hcs⟩ := hS2 (by omega)
    obtain ⟨i, hi⟩ : ∃ i : Nat, f.conn = i := ⟨f.conn.toNat, by omega⟩
    have hi2 : i < st.lines.length := by omega
    have hline : st.line i = st.lines[i] := by simp [JP.line, hi2]
    have hjg : st.judge f = ({ st with lines := st.lines.set i (st.lines[i].see f).1 }, (st.lines[i].see f).2) := by
      unfold JP.judge
      rw [if_pos ⟨k1, k8, c0, c1, hs⟩, hi]
      simp [hline]
    rw [hjg]
    obtain ⟨⟨ok0, len0⟩, ⟨ok1, len1⟩⟩ := hok i hi2
    obtain ⟨⟨cc, hcc⟩, hob, cs, h0, h1, hb68, hE0, hE1, hh0, hh1⟩ := hx i hi2
    have hqi : w.cell? ⟨q, i, none⟩ = some (.slice (some ⟨eb i, 0, none⟩) 2 cc) := by rw [hb69.cell]; exact hcc
    have hsc := hcs i hi2
    have hnb : ∀ x, O' x → ¬ x = eb i := fun x hx e => hd x hx (e ▸ hob)
    have hnn : S.length ≤ 4000 := by omega
    have hmk := meets_key hSo i hi2 f hi hs
    have hk : f.kind = 1 ∨ f.kind = 3 ∨ (f.kind = 2 ∨ f.kind = 4 ∨ f.kind = 5 ∨ f.kind = 6 ∨ f.kind = 7 ∨ f.kind = 8) := by omega
    have unO : ∀ {b : Nat} {c : Array Value} {t : TypeId}, t ≠ 48 → t ≠ 43 → Blk w b c t → ¬ (b = j ∨ some b = vst.ownBlock) := by
      rintro b c t h1 h2 hb (h | h)
      · exact hb.unlike hbj h1 h
      · obtain ⟨cur, hcur⟩ := (owned hR h).2
        exact hb.unlike hcur h2 rfl
    rcases hk with hk | hk | hk
    · have hse : st.lines[i].see f = ({ st.lines[i] with sent := st.lines[i].sent ++ [f.key f.side] }, 0) := by unfold LineP.see; simp [hk]
      rw [hse]
      have fin : Calls Try.prog 19 #[.pointer (some ⟨j, 0, none⟩), factV f vf] w fun e w' => e = .returned (.int .i64 0) ∧ ∃ vst', Blk w' j (rCells (.slice (some ⟨q, 0, none⟩) st.lines.length cap) (.slice (some ⟨qs, 0, none⟩) st.lines.length sc) vst' st) 48 ∧ Srow w' 0 (Grow O w w') vst' (S ++ [f.sent]) ∧ Fr (fun x => x = j ∨ some x = vst.ownBlock) w w' := by
        rcases hs with hs | hs
        · exact rr_k1_s1 O' j q qs (eb i) _ i cap sc cc vst st f st.lines[i] h0 vf cs w hbj hqi css hbs hsc hb68 hE0 hh0 hf hi2 hi hk hs O S hR hO hnn hlen
        · exact rr_k1_s2 O' j q qs (eb i) _ i cap sc cc vst st f st.lines[i] h1 vf cs w hbj hqi css hbs hsc hb68 hE1 hh1 hf hi2 hi hk hs O S hR hO hnn hlen
      refine fin.mono ?_
      rintro e w' ⟨rfl, vst', y1, y2, k⟩
      refine ⟨rfl, ⟨?_, .inl hoj, _, _, vst', _, y1, ?_, ?_, y2, hSo.push i hi2 f hi hs _ rfl, by simp; omega⟩, k.wide ?_⟩
      · rintro b (hb | hb)
        · exact Nat.lt_of_lt_of_le (hO b hb) k.size
        · exact hb.2
      · exact (hE.keep k (fun b c _ h => unO (by decide) (by decide) h) (fun b c _ h => unO (by decide) (by decide) h) fun _ h => .inl h).same i hi2 _ rfl rfl
      · exact (hS.keep k (fun b c _ h => unO (by decide) (by decide) h) fun _ h => .inl h).set i hi2 _ rfl
      · rintro x (rfl | hx) _
        · exact hoj
        · exact (owned hR hx).1
    · have hse : st.lines[i].see f = ({ st.lines[i] with session := f.session, sent := st.lines[i].sent.filter fun k => !(k.side == 1 && k.session == f.session) }, 0) := by unfold LineP.see; simp [hk]
      rw [hse]
      have fin : Calls Try.prog 19 #[.pointer (some ⟨j, 0, none⟩), factV f vf] w fun e w' => e = .returned (.int .i64 0) ∧ ∃ vst', Blk w' j (rCells (.slice (some ⟨q, 0, none⟩) st.lines.length cap) (.slice (some ⟨qs, 0, none⟩) st.lines.length sc) vst' st) 48 ∧ Blk w' qs (css.setIfInBounds i (.int .u32 f.session)) 23 ∧ Srow w' 0 (Grow O w w') vst' (S.filter f.stays) ∧ Fr (fun x => x = j ∨ x = qs) w w' := by
        rcases hs with hs | hs
        · exact rr_k3_s1 O' j q qs (eb i) _ i cap sc cc vst st f st.lines[i] h0 vf cs w hbj hqi css hbs hsc hb68 hE0 hh0 hf hi2 hi hk hs O S hR hO hnn
        · exact rr_k3_s2 O' j q qs (eb i) _ i cap sc cc vst st f st.lines[i] h1 vf cs w hbj hqi css hbs hsc hb68 hE1 hh1 hf hi2 hi hk hs O S hR hO hnn
      refine fin.mono ?_
      rintro e w' ⟨rfl, vst', y1, y3, y2, k⟩
      have un3 : ∀ {b : Nat} {c : Array Value} {t : TypeId}, t ≠ 48 → t ≠ 23 → Blk w b c t → ¬ (b = j ∨ b = qs) := by
        rintro b c t h1 h2 hb (h | h)
        · exact hb.unlike hbj h1 h
        · exact hb.unlike hbs h2 h
      refine ⟨rfl, ⟨?_, .inl hoj, _, _, vst', _, y1, ?_, ?_, y2, hSo.cut i hi2 f hi _ rfl, Nat.le_trans (List.length_filter_le ..) (by omega)⟩, k.wide ?_⟩
      · rintro b (hb | hb)
        · exact Nat.lt_of_lt_of_le (hO b hb) k.size
        · exact hb.2
      · exact (hE.keep k (fun b c _ h => un3 (by decide) (by decide) h) (fun b c _ h => un3 (by decide) (by decide) h) fun _ h => .inl h).same i hi2 _ rfl rfl
      · have := RSess.put (O := Grow O w w') (sc := sc) (.inl hqs) f.session i hi2 y3 hcs { st.lines[i] with session := f.session, sent := st.lines[i].sent.filter fun k => !(k.side == 1 && k.session == f.session) } rfl
        exact this
      · rintro x (rfl | rfl) _
        · exact hoj
        · exact hqs
    · have fin : Calls Try.prog 19 #[.pointer (some ⟨j, 0, none⟩), factV f vf] w fun e w' => e = .returned (.int .i64 (st.lines[i].see f).2) ∧ RLine w' (Grow O w w') (eb i) (st.lines[i].see f).1 ∧ Fr (fun b => b = eb i) w w' := by
        have obb : ∀ bb, S.any f.meets = bb → (bb = true ↔ f.key (3 - f.side) ∈ st.lines[i].sent) := fun bb h => h ▸ hmk
        rcases hs with hs | hs
        · have g : Calls Try.prog 19 #[.pointer (some ⟨j, 0, none⟩), factV f vf] w fun e w' => e = .returned (.int .i64 (st.lines[i].see f).2) ∧ ∃ x' h', (st.lines[i].see f).1 = { st.lines[i] with e0 := x' } ∧ REndTo w w' (eb i) cs 0 x' h' ∧ (h' = false → x'.value = []) := by
            rcases hk with hk | hk | hk | hk | hk | hk
            · exact rr_k2_s1 O' j q qs (eb i) _ i cap sc cc vst st f st.lines[i] h0 vf cs w hbj hqi css hbs hsc hb68 hE0 hh0 hf hi2 hi hk hs O S hR hnn _ rfl (obb _ rfl) hnb
            · exact rr_k4_s1 O' j q qs (eb i) _ i cap sc cc vst st f st.lines[i] h0 vf cs w hbj hqi css hbs hsc hb68 hE0 hh0 hf hi2 hi hk hs
            · exact rr_k5_s1 O' j q qs (eb i) _ i cap sc cc vst st f st.lines[i] h0 vf cs w hbj hqi css hbs hsc hb68 hE0 hh0 hf hi2 hi hk hs N ok0 (by omega) hfo.number
            · exact rr_k6_s1 O' j q qs (eb i) _ i cap sc cc vst st f st.lines[i] h0 vf cs w hbj hqi css hbs hsc hb68 hE0 hh0 hf hi2 hi hk hs
            · exact rr_k7_s1 O' j q qs (eb i) _ i cap sc cc vst st f st.lines[i] h0 vf cs w hbj hqi css hbs hsc hb68 hE0 hh0 hf hi2 hi hk hs
            · exact rr_k8_s1 O' j q qs (eb i) _ i cap sc cc vst st f st.lines[i] h0 vf cs w hbj hqi css hbs hsc hb68 hE0 hh0 hf hi2 hi hk hs hlen hnb
          refine g.mono ?_
          rintro e w' ⟨rfl, x', h', e1, k, hh⟩
          rw [e1]
          exact ⟨rfl, RLine.to0 hob hE1 hh1 k hh, let ⟨_, _, _, _, d⟩ := k; d⟩
        · have g : Calls Try.prog 19 #[.pointer (some ⟨j, 0, none⟩), factV f vf] w fun e w' => e = .returned (.int .i64 (st.lines[i].see f).2) ∧ ∃ x' h', (st.lines[i].see f).1 = { st.lines[i] with e1 := x' } ∧ REndTo w w' (eb i) cs 11 x' h' ∧ (h' = false → x'.value = []) := by
            rcases hk with hk | hk | hk | hk | hk | hk
            · exact rr_k2_s2 O' j q qs (eb i) _ i cap sc cc vst st f st.lines[i] h1 vf cs w hbj hqi css hbs hsc hb68 hE1 hh1 hf hi2 hi hk hs O S hR hnn _ rfl (obb _ rfl) hnb
            · exact rr_k4_s2 O' j q qs (eb i) _ i cap sc cc vst st f st.lines[i] h1 vf cs w hbj hqi css hbs hsc hb68 hE1 hh1 hf hi2 hi hk hs
            · exact rr_k5_s2 O' j q qs (eb i) _ i cap sc cc vst st f st.lines[i] h1 vf cs w hbj hqi css hbs hsc hb68 hE1 hh1 hf hi2 hi hk hs N ok1 (by omega) hfo.number
            · exact rr_k6_s2 O' j q qs (eb i) _ i cap sc cc vst st f st.lines[i] h1 vf cs w hbj hqi css hbs hsc hb68 hE1 hh1 hf hi2 hi hk hs
            · exact rr_k7_s2 O' j q qs (eb i) _ i cap sc cc vst st f st.lines[i] h1 vf cs w hbj hqi css hbs hsc hb68 hE1 hh1 hf hi2 hi hk hs
            · exact rr_k8_s2 O' j q qs (eb i) _ i cap sc cc vst st f st.lines[i] h1 vf cs w hbj hqi css hbs hsc hb68 hE1 hh1 hf hi2 hi hk hs hlen hnb
          refine g.mono ?_
          rintro e w' ⟨rfl, x', h', e1, k, hh⟩
          rw [e1]
          exact ⟨rfl, RLine.to1 hob hE0 hh0 k hh, let ⟨_, _, _, _, d⟩ := k; d⟩
      refine fin.mono ?_
      rintro e w' ⟨rfl, hl, k⟩
      have hss := sees_sent st.lines[i] f (by omega)
      refine ⟨rfl, (IsR.put hO hoj hbj hq hb69 hx hinj hS hR hSo hSn hi2 hss.1 hss.2 k hl).more (Nat.le_succ n), k.wide ?_⟩
      rintro x rfl _
      exact hob
  · have hjg : st.judge f = (st, 1) := by unfold JP.judge; rw [if_neg hin]
    rw [hjg]
    obtain ⟨a', c', hv, _⟩ := hf
    refine (rrule_out j _ cap a f vf w (hbj.cell 0) ⟨a', c', hv⟩ hin).mono ?_
    rintro e w' ⟨rfl, k⟩
    refine ⟨rfl, ((hj.grow k).wide (fun _ h => .inl h) ?_).more (Nat.le_succ n), k.no _⟩
    rintro b (hb | hb)
    · exact Nat.lt_of_lt_of_le (hO b hb) k.size
    · exact hb.2

end Go.Proofs.Ytmggfdhlbjlpjaa
