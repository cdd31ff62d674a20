/-
  DERIVED. 'append([]byte{}, b...)' and 'string(b)', as the law texts use them; the document's New and Load.
-/
import Derived.Test.YtcmhalmmaodmhaaRef
import Derived.Laws.BytesString
namespace Go.Proofs.Ytcmhalmmaodmhaa
open Go.RowKit
set_option linter.unusedSimpArgs false
set_option linter.unusedVariables false

/-- The string of these bytes. -/
def mkStr (xs : List Int) : ByteArray := xs.foldl (fun r n => r.push (UInt8.ofNat n.toNat)) ByteArray.empty

theorem conv_run {v : Value} {q : Nat} {xs : List Int} {w : World} (h : Bs w v q xs) :
    (convert 22 9 v).run Try.prog w = .ok (.string (mkStr xs)) w := by
  obtain ⟨a, cap, rfl, hl, hr⟩ := h
  rw [run_convert_bytes_string w 22 9 5 a xs.length cap Try.underlying22 Try.underlying5 Try.underlying9]
  by_cases h0 : 0 < xs.length
  · obtain ⟨rfl, hrow⟩ := hr h0
    refine run_bytesToString w _ _ _ xs ?_
    have := run_loadCells_list (P := Try.prog) w ⟨q, 0, none⟩ (xs.map (Value.int .u8)) (fun j u hu => by
      have hj : j < xs.length := by
        rcases Nat.lt_or_ge j xs.length with h | h
        · exact h
        · rw [List.getElem?_eq_none (by simpa using h)] at hu; cases hu
      rw [add_at, Nat.zero_add, hrow.cell hj]
      simp [hj] at hu
      simp [List.getD, hj, hu])
    simpa using this
  · obtain rfl : xs = [] := by
      cases xs with
      | nil => rfl
      | cons x l => exact absurd (by simp) h0
    cases a with
    | none =>
      simp [Conv.bytesToString, mkStr, Sem.run_pure]
    | some x =>
      refine run_bytesToString w x 0 cap [] ?_
      simpa using run_loadCells_list (P := Try.prog) w x [] (by simp)

/-- 'append([]byte{}, b...)'. -/
theorem wpList_bytes {ops : Array Oper} {rest : List Oper} {o : Oper} {a : Act} {Q : Exit → Act → World → Prop} {w : World} (hgd : o.guard = none) (s x : Operand)
    (ho : o.op = .call { callee := .builtin .append, args := #[s, x], argTypes := #[22, 22] })
    (g : Nat) (hs : a.eval s = .slice (some ⟨g, 0, none⟩) 0 0) (hg : Blk w g #[] 5) (ax : Option Addr) (n c : Nat) (hx : a.eval x = .slice ax n c) (xs : List Int) (hn : xs.length = n) (hcap : n ≤ 140737488351232)
    (hc : 0 < n → ∃ y, ax = some y ∧ ∀ i, i < xs.length → w.cell? (y.add i) = some (.int .u8 (xs.getD i 0)))
    (h : ∀ cap w' q, Bs w' (.slice (some ⟨q, 0, none⟩) n cap) q xs → g ≤ q → q < w'.heap.size → Chg [g] w w' → wpList Try.prog ops Q rest (a.put o.dst (.slice (some ⟨q, 0, none⟩) n cap)) w') : wpList Try.prog ops Q (o :: rest) a w := by
  obtain ⟨i0, hi, hz0, hz1, hz2⟩ := info_parts Try.info5
  have hgl := hg.lt
  by_cases h0 : n = 0
  · subst h0
    obtain rfl : xs = [] := List.length_eq_zero_iff.1 hn
    refine wpList_plain hgd fun K hK => ?_
    have hr : (Builtin.append_ #[22, 22] o.type #[.slice (some ⟨g, 0, none⟩) 0 0, .slice ax 0 c]).run Try.prog w = .ok (.slice (some ⟨g, 0, none⟩) 0 0) w := by
      have hsrc : Src Try.prog i0.size 22 (.slice ax 0 c) 0 [] w := by
        cases ax with
        | none => exact Src.ofNil w Try.underlying22 c
        | some y => exact Src.ofSlice w Try.underlying22 y 0 c [] (by simp) (by simp) (by simp)
      have := run_append_room_src (P := Try.prog) w 22 22 o.type 5 i0 Try.underlying22 hi g 0 0 0 (.slice ax 0 c) 0 [] hsrc (by omega) (by simp) (by simp)
      simpa [World.setCells] using this
    unfold Oper.wp execOp
    simp only [ho, resolve, invoke, builtin, Sem.run_bind, Sem.run_pure, Result.andThen_ok, List.map_toArray, List.map_cons, List.map_nil, hs, hx, hr]
    exact hK _ _ (h 0 w g ⟨_, 0, rfl, Nat.le_refl _, fun h => absurd h (by simp)⟩ (Nat.le_refl _) hgl (Chg.refl _ _))
  · obtain ⟨y, rfl, hcell⟩ := hc (by omega)
    have hown : w.ownsRow g 5 1 (.slice (some ⟨g, 0, none⟩) 0 0) 0 [] :=
      ⟨rfl, .inr ⟨g, 0, #[], rfl, Nat.le_refl _, hg, Nat.le_refl _, by unfold maxLen; omega, rfl, rfl⟩⟩
    refine wpList_append_own w hgd s x 22 ho g 5 i0 (.int .u8 0) 1 1 Try.underlying22 hi hz0 hz1 hz2 rfl (by decide) _ _ _ hs hown y n c (cellsOf xs) hx (by rw [cellsOf_length]; omega) (cellsOf_src hcell) (cellsOf_one xs) (by unfold maxLen; omega) (by omega) (by omega) ?_
    intro v' w1 hown' hgrow hnil
    have hv : v' ≠ .slice none 0 0 := fun h => by have := (hnil.1 h).1; cases this
    simp only [Nat.zero_add, List.nil_append] at hown'
    obtain ⟨_, hh⟩ := hown'
    rcases hh with ⟨rfl, _⟩ | ⟨q, cap, cur, rfl, hq, hhq, hnc, hcm, hsz, htk⟩
    · exact absurd rfl hv
    · refine h cap w1 q ⟨_, cap, by rw [hn], by omega, fun hp => ⟨rfl, cur, hhq, fun i hi => ?_⟩⟩ hq ?_ ⟨hgrow.os, hgrow.tape, hgrow.output, hgrow.size, fun k hk hnk => hgrow.block k hk (fun e => hnk (by simp [Value.ownBlock] at e; simp [e]))⟩
      · have e1 := cellsOf_get xs i hi
        rw [← htk, Nat.mul_one, List.getElem?_take_of_lt (by omega)] at e1
        simpa using e1
      · rcases Nat.lt_or_ge q w1.heap.size with h' | h'
        · exact h'
        · rw [Array.getElem?_eq_none h'] at hhq; cases hhq

end Go.Proofs.Ytcmhalmmaodmhaa
