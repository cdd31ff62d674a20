/-
  DERIVED. For MemOwn: mark, Spare, and a byte slice that grows in a block of its own.
-/
import Derived.Test.YtcmhalmmaodmhaaMade
import Derived.Laws.CopyOwn
import Derived.StillTailTactics
import Derived.Deep.RegionLawGrows
namespace Go.Proofs.Ytcmhalmmaodmhaa
open Go.RowKit
set_option linter.unusedSimpArgs false
set_option linter.unusedVariables false

/-- The byte that list i has in place k. -/
def mkB (i k : Nat) : Int := (17 * (i : Int) + 5 * (k : Int) + 3) % 256

theorem mark_any (i k : Nat) (w : World) (hi : i ≤ 3) (hk : k ≤ 1000000) :
    Calls Try.prog 39 #[.int .i64 i, .int .i64 k] w fun e w' => e = .returned (.int .u8 (mkB i k)) ∧ w' = w := by
  have e1 : IntKind.u8.wrap (17 * (i : Int) + 5 * (k : Int) + 3) = mkB i k := by unfold mkB; rfl
  have h1 : 0 ≤ 17 * (i : Int) + 5 * (k : Int) + 3 := by omega
  have h2 : 17 * (i : Int) + 5 * (k : Int) + 3 ≤ 6000000 := by omega
  have HE : Hid _ := e1
  clear e1
  go_enter Try.func39, Try.ntmps39
  go_wp2
  go_ret
  exact ⟨by first | rfl | (rw [← HE.out]; done) | (rw [← HE.out]; rfl), rfl⟩

/-- A byte slice of n bytes, in the row of block g; its first m bytes are f. -/
def Lf (w : World) (v : Value) (g n m : Nat) (f : Nat → Int) : Prop := ∃ a cap, v = .slice a n cap ∧ m ≤ n ∧
  ((a = none ∧ n = 0 ∧ cap = 0) ∨ (a = some ⟨g, 0, none⟩ ∧ n ≤ cap ∧ cap ≤ maxLen ∧ ∃ cur, Blk w g cur 5 ∧ cur.size = cap ∧ ∀ k, k < m → cur[k]? = some (.int .u8 (f k))))

theorem Lf.keep {bs : List Nat} {w w' : World} {v : Value} {g n m : Nat} {f : Nat → Int} (h : Lf w v g n m f) (k : Chg bs w w') (hg : g ∉ bs) : Lf w' v g n m f := by
  obtain ⟨a, cap, hv, hm, h⟩ := h
  rcases h with h | ⟨h1, h2, h3, cur, h4, h5, h6⟩
  · exact ⟨a, cap, hv, hm, .inl h⟩
  · exact ⟨a, cap, hv, hm, .inr ⟨h1, h2, h3, cur, k.blk h4 hg, h5, h6⟩⟩

theorem Lf.le {w : World} {v : Value} {g n m m' : Nat} {f : Nat → Int} (h : Lf w v g n m f) (hm : m' ≤ m) : Lf w v g n m' f := by
  obtain ⟨a, cap, hv, hl, h⟩ := h
  rcases h with h | ⟨h1, h2, h3, cur, h4, h5, h6⟩
  · exact ⟨a, cap, hv, by omega, .inl h⟩
  · exact ⟨a, cap, hv, by omega, .inr ⟨h1, h2, h3, cur, h4, h5, fun k hk => h6 k (by omega)⟩⟩

/-- One more byte is set. -/
theorem Lf.set {w : World} {v : Value} {g n m : Nat} {f : Nat → Int} (h : Lf w v g n m f) (hm : m < n) :
    Lf (w.setCell ⟨g, m, none⟩ (.int .u8 (f m))) v g n (m + 1) f := by
  obtain ⟨a, cap, hv, hl, h⟩ := h
  rcases h with ⟨_, h, _⟩ | ⟨h1, h2, h3, cur, h4, h5, h6⟩
  · omega
  · refine ⟨a, cap, hv, by omega, .inr ⟨h1, h2, h3, _, h4.set m _, by simpa using h5, fun k hk => ?_⟩⟩
    by_cases he : k = m
    · subst he
      rw [Array.getElem?_setIfInBounds]
      rw [if_pos rfl, if_pos (by omega)]
    · rw [Array.getElem?_setIfInBounds, if_neg (fun e => he e.symm)]
      exact h6 k (by omega)

theorem Lf.cell {w : World} {v : Value} {g n m : Nat} {f : Nat → Int} (h : Lf w v g n m f) {k : Nat} (hk : k < m) : w.cell? ⟨g, k, none⟩ = some (.int .u8 (f k)) := by
  obtain ⟨a, cap, hv, hl, h⟩ := h
  rcases h with ⟨_, h, _⟩ | ⟨h1, h2, h3, cur, h4, h5, h6⟩
  · omega
  · rw [h4.cell]; exact h6 k hk

/-- Where it lies. -/
theorem Lf.at {w : World} {v : Value} {g n m : Nat} {f : Nat → Int} (h : Lf w v g n m f) {k : Nat} (hk : k < n) :
    ∃ cap u, v = .slice (some ⟨g, 0, none⟩) n cap ∧ w.cell? ⟨g, k, none⟩ = some u ∧ w.frozen? ⟨g, k, none⟩ = false := by
  obtain ⟨a, cap, hv, hl, h⟩ := h
  rcases h with ⟨_, h, _⟩ | ⟨h1, h2, h3, cur, h4, h5, h6⟩
  · omega
  · subst h1
    exact ⟨cap, cur[k]'(by omega), hv, by rw [h4.cell]; simp, h4.free k⟩

theorem Lf.lt {w : World} {v : Value} {g n m : Nat} {f : Nat → Int} (h : Lf w v g n m f) (hn : 0 < n) : g < w.heap.size := by
  obtain ⟨cap, u, _, hc, _⟩ := h.at hn
  exact lt_of_cell? hc

theorem Lf.congr {w : World} {v : Value} {g n m : Nat} {f f' : Nat → Int} (h : Lf w v g n m f) (e : ∀ k, k < m → f k = f' k) : Lf w v g n m f' := by
  obtain ⟨a, cap, hv, hl, h⟩ := h
  rcases h with h | ⟨h1, h2, h3, cur, h4, h5, h6⟩
  · exact ⟨a, cap, hv, hl, .inl h⟩
  · exact ⟨a, cap, hv, hl, .inr ⟨h1, h2, h3, cur, h4, h5, fun k hk => by rw [h6 k hk, e k hk]⟩⟩

/-- What a row of its own says. -/
theorem lf_of_owns {w : World} {base n : Nat} {v : Value} {xs : List Value} {f : Nat → Int} (h : w.ownsRow base 5 1 v n xs) (hf : ∀ k, k < n → xs[k]? = some (.int .u8 (f k))) :
    ∃ g, Lf w v g n n f ∧ base ≤ g ∧ (v ≠ .slice none 0 0 → g < w.heap.size) := by
  obtain ⟨h1, h2⟩ := h
  rcases h2 with ⟨rfl, rfl⟩ | ⟨g, cap, cur, rfl, hg, hh, hnc, hcm, hsz, htk⟩
  · exact ⟨base, ⟨none, 0, rfl, Nat.le_refl _, .inl ⟨rfl, rfl, rfl⟩⟩, Nat.le_refl _, fun h => absurd rfl h⟩
  · refine ⟨g, ⟨_, cap, rfl, Nat.le_refl _, .inr ⟨rfl, hnc, hcm, cur, hh, by omega, fun k hk => ?_⟩⟩, hg, fun _ => Blk.lt hh⟩
    have e1 := hf k hk
    rw [← htk, Nat.mul_one, List.getElem?_take_of_lt hk] at e1
    simpa using e1

set_option maxRecDepth 100000 in
/-- 'append(v, c)': in place, or a new row. -/
theorem lf_append {w : World} {v : Value} {g n : Nat} {f : Nat → Int} (ty : TypeId) (h : Lf w v g n n f) (b : Nat) (hb : w.cell? ⟨b, 0, none⟩ = some (.int .u8 (f n))) (hn : n ≤ 1000000) :
    ∃ v' g' w', (Builtin.append_ #[22, 22] ty #[v, .slice (some ⟨b, 0, none⟩) 1 1]).run Try.prog w = .ok v' w' ∧ Lf w' v' g' (n + 1) (n + 1) f ∧
      ((g' = g ∧ v ≠ .slice none 0 0 ∧ Chg [g] w w' ∧ ∀ u n0, n0 ≤ n → Lf w u g n0 n0 f → Lf w' u g n0 n0 f) ∨ (w.heap.size ≤ g' ∧ Chg [] w w')) ∧ g' < w'.heap.size := by
  obtain ⟨i0, hi, hz0, hz1, hz2⟩ := info_parts Try.info5
  have hnew : ∀ j u, [Value.int .u8 (f n)][j]? = some u → w.cell? ((⟨b, 0, none⟩ : Addr).add j) = some u := by
    intro j u hu
    match j with
    | 0 => simp at hu; subst hu; simpa [add_at] using hb
    | j + 1 => simp at hu
  have h1 : ∀ u ∈ [Value.int .u8 (f n)], u.oneCell' = true := by intro u hu; simp at hu; subst hu; rfl
  obtain ⟨a, cap, rfl, hm, h⟩ := h
  have grown : ∀ (v' : Value) (w' : World) (xs : List Value), xs.length = n → (∀ k, k < n → xs[k]? = some (.int .u8 (f k))) → w'.ownsRow w.heap.size 5 1 v' (n + 1) (xs ++ [Value.int .u8 (f n)]) → w.grownBy w' none →
      ∃ g', Lf w' v' g' (n + 1) (n + 1) f ∧ w.heap.size ≤ g' ∧ Chg [] w w' ∧ g' < w'.heap.size := by
    intro v' w' xs hl hx ho hg
    have hf : ∀ k, k < n + 1 → (xs ++ [Value.int .u8 (f n)])[k]? = some (.int .u8 (f k)) := by
      intro k hk
      by_cases he : k = n
      · subst he; rw [List.getElem?_append_right (by omega), hl]; simp
      · rw [List.getElem?_append_left (by omega)]; exact hx k (by omega)
    obtain ⟨g', a1, a2, a3⟩ := lf_of_owns ho hf
    refine ⟨g', a1, a2, ⟨hg.os, hg.tape, hg.output, hg.size, fun k hk _ => hg.block k hk (by simp)⟩, a3 ?_⟩
    rintro rfl
    obtain ⟨_, _, e, _⟩ := a1
    cases e
  rcases h with ⟨rfl, rfl, rfl⟩ | ⟨rfl, hnc, hcm, cur, hbl, hsz, hcur⟩
  · obtain ⟨v', w', hr, ho, hg, _⟩ := run_append_own (P := Try.prog) w w.heap.size 22 ty 5 i0 (.int .u8 0) 1 1 Try.underlying22 hi hz0 hz1 hz2 rfl (by decide) (.slice none 0 0) 0 [] (World.ownsRow_nil _ _ _ _) ⟨b, 0, none⟩ 1 1 [Value.int .u8 (f 0)] rfl hnew h1 (by unfold maxLen; omega) (by omega) (Nat.le_refl _)
    obtain ⟨g', a1, a2, a3, a4⟩ := grown v' w' [] rfl (fun k hk => by omega) (by simpa using ho) hg
    exact ⟨v', g', w', hr, a1, .inr ⟨a2, a3⟩, a4⟩
  · by_cases hroom : n + 1 ≤ cap
    · have hr := run_append_room (P := Try.prog) w 22 ty 5 i0 Try.underlying22 hi g n cap cur hbl ⟨b, 0, none⟩ 1 1 [Value.int .u8 (f n)] (by rw [hz1]; rfl) hnew h1 hroom (by rw [hz1]; simp; omega)
      rw [hz1] at hr
      have hbl' : Blk (w.setRow g (cur.toList.take (n * 1) ++ [Value.int .u8 (f n)] ++ cur.toList.drop (n * 1 + [Value.int .u8 (f n)].length)).toArray) g (cur.toList.take (n * 1) ++ [Value.int .u8 (f n)] ++ cur.toList.drop (n * 1 + [Value.int .u8 (f n)].length)).toArray 5 := setRow_heap w g cur _ 5 _ hbl
      have hsize : (cur.toList.take (n * 1) ++ [Value.int .u8 (f n)] ++ cur.toList.drop (n * 1 + [Value.int .u8 (f n)].length)).toArray.size = cap := by simp; omega
      have hget : ∀ k, k < n + 1 → (cur.toList.take (n * 1) ++ [Value.int .u8 (f n)] ++ cur.toList.drop (n * 1 + [Value.int .u8 (f n)].length)).toArray[k]? = some (.int .u8 (f k)) := by
        intro k hk
        by_cases he : k = n
        · subst he
          simp only [Nat.mul_one, List.append_assoc, List.getElem?_toArray]
          rw [List.getElem?_append_right (by simp; omega)]
          simp [show min k cur.size = k by omega]
        · simp only [Nat.mul_one, List.append_assoc, List.getElem?_toArray]
          rw [List.getElem?_append_left (by simp; omega), List.getElem?_take_of_lt (by omega)]
          simpa using hcur k (by omega)
      refine ⟨_, g, _, hr, ⟨_, cap, rfl, Nat.le_refl _, .inr ⟨rfl, hroom, hcm, _, hbl', hsize, hget⟩⟩, .inl ⟨rfl, (by intro e; cases e), ⟨rfl, rfl, rfl, by simp [World.setRow], fun k _ hk => setRow_other w g k _ (fun e => hk (by simp [e]))⟩, fun u n0 h0 hu => ?_⟩, hbl'.lt⟩
      obtain ⟨a0, c0, hv0, hm0, hu⟩ := hu
      rcases hu with hu | ⟨u1, u2, u3, cur0, u4, u5, u6⟩
      · exact ⟨a0, c0, hv0, hm0, .inl hu⟩
      · have hsame : cur0 = cur := by
          unfold Blk at u4 hbl
          rw [hbl] at u4
          injection u4 with u4
          injection u4 with u4
          exact u4.symm
        subst hsame
        exact ⟨a0, c0, hv0, hm0, .inr ⟨u1, u2, u3, _, hbl', by rw [hsize]; omega, fun k hk => hget k (by omega)⟩⟩
    · obtain ⟨v', w', hr, ho, hg⟩ := run_append_arg_grows (P := Try.prog) w 22 ty 5 i0 (.int .u8 0) 1 1 Try.underlying22 hi hz0 hz1 hz2 rfl (by decide) ⟨g, 0, none⟩ n cap (cur.toList.take n) (by simp; omega) (fun j u hu => by
        have hj : j < n := by
          rcases Nat.lt_or_ge j n with h | h
          · exact h
          · rw [List.getElem?_eq_none (by simp; omega)] at hu; cases hu
        rw [add_at, Nat.zero_add, hbl.cell]
        rw [List.getElem?_take_of_lt hj] at hu
        simpa using hu) ⟨b, 0, none⟩ 1 1 [Value.int .u8 (f n)] rfl hnew (by omega) (by unfold maxLen; omega) (by omega)
      obtain ⟨g', a1, a2, a3, a4⟩ := grown v' w' _ (by simp; omega) (fun k hk => by rw [List.getElem?_take_of_lt hk]; simpa using hcur k hk) ho hg
      exact ⟨v', g', w', hr, a1, .inr ⟨a2, a3⟩, a4⟩

/-- .. in a walk. -/
theorem wpList_lf_append {ops : Array Oper} {rest : List Oper} {o : Oper} {a : Act} {Q : Exit → Act → World → Prop} {w : World} (hgd : o.guard = none) (s x : Operand)
    (ho : o.op = .call { callee := .builtin .append, args := #[s, x], argTypes := #[22, 22] })
    (v : Value) (g n : Nat) (f : Nat → Int) (hs : a.eval s = v) (h : Lf w v g n n f) (b : Nat) (hx : a.eval x = .slice (some ⟨b, 0, none⟩) 1 1) (hb : w.cell? ⟨b, 0, none⟩ = some (.int .u8 (f n))) (hn : n ≤ 1000000)
    (hK : ∀ v' g' w', Lf w' v' g' (n + 1) (n + 1) f → ((g' = g ∧ v ≠ .slice none 0 0 ∧ Chg [g] w w' ∧ ∀ u n0, n0 ≤ n → Lf w u g n0 n0 f → Lf w' u g n0 n0 f) ∨ (w.heap.size ≤ g' ∧ Chg [] w w')) → g' < w'.heap.size → wpList Try.prog ops Q rest (a.put o.dst v') w') :
    wpList Try.prog ops Q (o :: rest) a w := by
  obtain ⟨v', g', w', hr, h1, h2, h3⟩ := lf_append o.type h b hb hn
  refine wpList_plain hgd fun K hK' => ?_
  unfold Oper.wp execOp
  simp only [ho, resolve, invoke, builtin, Sem.run_bind, Sem.run_pure, Result.andThen_ok, List.map_toArray, List.map_cons, List.map_nil, hs, hx, hr]
  exact hK' _ _ (hK v' g' w' h1 h2 h3)

/-- .. in a region that draws its order. -/
theorem step_lf_append {ops : Array Oper} {o : Oper} {a : Act} {K : Act → World → Prop} {Q : Exit → Act → World → Prop} {E : Prop} {w : World} (hgd : o.guard = none) (s x : Operand)
    (ho : o.op = .call { callee := .builtin .append, args := #[s, x], argTypes := #[22, 22] })
    (v : Value) (g n : Nat) (f : Nat → Int) (hs : a.eval s = v) (h : Lf w v g n n f) (b : Nat) (hx : a.eval x = .slice (some ⟨b, 0, none⟩) 1 1) (hb : w.cell? ⟨b, 0, none⟩ = some (.int .u8 (f n))) (hn : n ≤ 1000000)
    (hK : ∀ v' g' w', Lf w' v' g' (n + 1) (n + 1) f → ((g' = g ∧ v ≠ .slice none 0 0 ∧ Chg [g] w w' ∧ ∀ u n0, n0 ≤ n → Lf w u g n0 n0 f → Lf w' u g n0 n0 f) ∨ (w.heap.size ≤ g' ∧ Chg [] w w')) → g' < w'.heap.size → K (a.put o.dst v') w') :
    if Region.wanted o (yielded ops a.tmps) = true then Oper.wp Try.prog o a w K Q else E := by
  have hw : Region.wanted o (yielded ops a.tmps) = true := by simp [Region.wanted, hgd]
  rw [if_pos hw]
  obtain ⟨v', g', w', hr, h1, h2, h3⟩ := lf_append o.type h b hb hn
  unfold Oper.wp execOp
  simp only [ho, resolve, invoke, builtin, Sem.run_bind, Sem.run_pure, Result.andThen_ok, List.map_toArray, List.map_cons, List.map_nil, hs, hx, hr]
  exact hK v' g' w' h1 h2 h3

end Go.Proofs.Ytcmhalmmaodmhaa
