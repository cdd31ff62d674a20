/-
  DERIVED. The walks of the laws' fixed nets, and of Awake.
-/
import Derived.Test.YtmggfdhlbjlpjaaCheck
namespace Go.Proofs.Ytmggfdhlbjlpjaa
open Go.RowKit
set_option linter.unusedSimpArgs false
set_option linter.unusedVariables false

def smallV : Value := .agg #[.int .u32 7, .int .i64 2, .int .i64 1, .int .i64 10, .int .u32 9]

set_option maxRecDepth 1000000 in
theorem small_any (w : World) : Calls Try.prog 20 #[] w fun e w' => e = .returned smallV ∧ Fr No w w' := by
  have k0 := Fr.refl No w
  go_enter Try.func20, Try.ntmps20
  go_wp2
  refine bodyPost_ret (v := smallV) (by simp [results, Try.results20, go_sem, smallV]) rfl ⟨rfl, ?_⟩
  exact k0.alloc _

/-- A net value: its two lists. -/
def netV (vh vd : Value) (ms : Int) : Value := .agg #[vh, vd, .int .u32 ms]

theorem prs_one {w : World} {O : Nat → Prop} {b : Nat} (hO : O b) (h : Blk w b #[.int .u32 7, .int .i64 2, .int .i64 1, .int .i64 10, .int .u32 9] 66) : Prs w O (.slice (some ⟨b, 0, none⟩) 1 1) [10] := by
  refine ⟨_, 1, [.int .u32 7, .int .i64 2, .int .i64 1, .int .i64 10, .int .u32 9], rfl, rfl, fun _ => ⟨b, 0, rfl, hO, fun j u hj => ?_⟩, ?_, ?_⟩
  · rw [h.cell, Nat.zero_add]; simpa using hj
  · intro u hu
    simp only [List.mem_cons, List.not_mem_nil, or_false] at hu
    rcases hu with rfl | rfl | rfl | rfl | rfl <;> rfl
  · intro i hi
    obtain rfl : i = 0 := by simp at hi; omega
    rfl

set_option maxRecDepth 1000000 in
theorem lone_any (w : World) : Calls Try.prog 17 #[] w fun e w' => ∃ vh vd, e = .returned (netV vh vd 50) ∧ Prs w' (fun b => w.heap.size ≤ b ∧ b < w'.heap.size) vh [10] ∧ Prs w' (fun b => w.heap.size ≤ b ∧ b < w'.heap.size) vd [10] ∧ Fr No w w' := by
  have k0 := (Fr.refl No w).alloc (.cells #[.slice none 0 0, .slice none 0 0, .int .u32 0] 25)
  go_enter Try.func17, Try.ntmps17
  go_wp2_with (go_at_call 20; refine (small_any _).mono ?_; rintro e w1 ⟨rfl, hk1⟩; unfold smallV; have hz1 := hk1.size; simp at hz1; have rb := hk1.blk (Blk.new w _ _) id; have rl := rb.lt; have l1 : w.heap.size < w1.heap.size + 1 := Nat.lt_succ_of_lt rl; have l2 : w.heap.size < w1.heap.size + 1 + 1 := Nat.lt_succ_of_lt l1; have n0 := Nat.ne_of_lt rl; have n1 : w.heap.size ≠ w1.heap.size + 1 := Nat.ne_of_lt (Nat.lt_succ_of_lt rl); have n2 : w.heap.size ≠ w1.heap.size + 1 + 1 := Nat.ne_of_lt (Nat.lt_succ_of_lt (Nat.lt_succ_of_lt rl)); have r0 : w1.cell? ⟨w.heap.size, 0, none⟩ = some (.slice none 0 0) := rb.cell 0; have r1 : w1.cell? ⟨w.heap.size, 1, none⟩ = some (.slice none 0 0) := rb.cell 1; have r2 : w1.cell? ⟨w.heap.size, 2, none⟩ = some (.int .u32 0) := rb.cell 2; have f0 := rb.free 0; have f1 := rb.free 1; have f2 := rb.free 2; have K1 := Lib.hid (k0.trans hk1); have HRB := Lib.hid rb; clear rb hk1 k0)
  refine bodyPost_ret (v := netV (.slice (some ⟨w1.heap.size + 1, 0, none⟩) 1 1) (.slice (some ⟨w1.heap.size + 1 + 1, 0, none⟩) 1 1) 50) (by simp [results, Try.results17, go_sem, netV, rl, l1, l2, r0, r1, r2]) rfl ⟨_, _, rfl, ?_, ?_, ?_⟩
  · refine prs_one ⟨by omega, by simp⟩ ?_
    exact ((Fr.refl No _).alloc _).blk (alloc_at _ _ (by simp [World.setCell])) id
  · exact prs_one ⟨by omega, by simp⟩ (alloc_at _ _ (by simp [World.setCell]))
  · exact (((((K1.out.setCell (p := ⟨w.heap.size, 0, none⟩) (fun h => absurd h (Nat.lt_irrefl _)) _).setCell (p := ⟨w.heap.size, 1, none⟩) (fun h => absurd h (Nat.lt_irrefl _)) _).setCell (p := ⟨w.heap.size, 2, none⟩) (fun h => absurd h (Nat.lt_irrefl _)) _).alloc _).alloc _).alloc _

def aw1 : FactP := ⟨3, 0, 2, 1, 0, false, 0, []⟩
def aw2 : FactP := ⟨1, 0, 1, 1, 1, false, 0, [5]⟩
def aw3 : FactP := ⟨2, 0, 2, 1, 1, false, 0, [5]⟩
def aw4 : FactP := ⟨8, 0, 2, 0, 0, true, 0, [5]⟩
theorem aw_check : check ([10].zip [10]) [aw1, aw2, aw3, aw4] = (0, 0) := by decide
theorem aw_check2 : check ([10].zip [10]) [aw3, aw4] = (2, 0) := by decide
theorem aw_good : ∀ f ∈ [aw1, aw2, aw3, aw4], f.Good := by
  intro f hf
  simp only [List.mem_cons, List.not_mem_nil, or_false] at hf
  rcases hf with rfl | rfl | rfl | rfl
  all_goals exact ⟨⟨by decide, by decide, by decide⟩, by decide⟩
theorem aw_net : NetOk ([10].zip [10]) := by
  intro p hp
  simp only [List.zip_cons_cons, List.zip_nil_left, List.mem_cons, List.not_mem_nil, or_false] at hp
  subst hp
  decide

/-- The row of Awake's facts. -/
def awRow (D : Nat) : Array Value := #[.int .i64 3, .int .i64 0, .int .i64 2, .int .u32 1, .int .u32 0, .bool false, .int .i64 0, .slice none 0 0, .int .i64 1, .int .i64 0, .int .i64 1, .int .u32 1, .int .u32 1, .bool false, .int .i64 0, .slice (some ⟨D, 0, none⟩) 1 1,
  .int .i64 2, .int .i64 0, .int .i64 2, .int .u32 1, .int .u32 1, .bool false, .int .i64 0, .slice (some ⟨D, 0, none⟩) 1 1, .int .i64 8, .int .i64 0, .int .i64 2, .int .u32 0, .int .u32 0, .bool true, .int .i64 0, .slice (some ⟨D, 0, none⟩) 1 1]

theorem aw_bs {w : World} {O : Nat → Prop} {D : Nat} (hO : O D) (h : Blk w D #[.int .u8 5] 5) : Bs w O (.slice (some ⟨D, 0, none⟩) 1 1) [5] :=
  ⟨_, 1, rfl, fun h => (by cases h), fun _ => ⟨D, 0, rfl, hO, fun i hi => by
    obtain rfl : i = 0 := by simp at hi; omega
    exact h.cell 0⟩⟩

theorem awRow_cell {w : World} {L D : Nat} (h : Blk w L (awRow D) 43) {f : FactP} {vf : Value} {o : Nat} (e : ∀ k, k < 8 → (awRow D)[o + k]? = (factCells f vf)[k]?) : ∀ k u, (factCells f vf)[k]? = some u → w.cell? ⟨L, o + k, none⟩ = some u := by
  intro k u hu
  have hk : k < 8 := by
    rcases Nat.lt_or_ge k 8 with h | h
    · exact h
    · rw [Array.getElem?_eq_none (by show 8 ≤ k; omega)] at hu; cases hu
  rw [h.cell, e k hk, hu]

theorem aw_fs {w : World} {R O : Nat → Prop} {L D : Nat} (hR : R L) (hO : O D) (h : Blk w L (awRow D) 43) (hd : Blk w D #[.int .u8 5] 5) : Fs w R O (.slice (some ⟨L, 0, none⟩) 4 4) [aw1, aw2, aw3, aw4] := by
  have hb := aw_bs (O := O) hO hd
  refine ⟨_, 4, rfl, by decide, fun h => (by cases h), fun _ => ⟨L, 0, rfl, hR, fun i hi => ?_⟩⟩
  have hi4 : i < 4 := hi
  have h8 : ∀ k, k < 8 → k = 0 ∨ k = 1 ∨ k = 2 ∨ k = 3 ∨ k = 4 ∨ k = 5 ∨ k = 6 ∨ k = 7 := by omega
  rcases (by omega : i = 0 ∨ i = 1 ∨ i = 2 ∨ i = 3) with rfl | rfl | rfl | rfl
  · exact ⟨.slice none 0 0, ⟨none, 0, rfl, fun _ => rfl, fun h => absurd h (Nat.lt_irrefl 0)⟩, awRow_cell h (f := aw1) (o := 0) fun k hk => by rcases h8 k hk with rfl | rfl | rfl | rfl | rfl | rfl | rfl | rfl <;> rfl⟩
  · exact ⟨_, hb, awRow_cell h (f := aw2) (o := 8) fun k hk => by rcases h8 k hk with rfl | rfl | rfl | rfl | rfl | rfl | rfl | rfl <;> rfl⟩
  · exact ⟨_, hb, awRow_cell h (f := aw3) (o := 16) fun k hk => by rcases h8 k hk with rfl | rfl | rfl | rfl | rfl | rfl | rfl | rfl <;> rfl⟩
  · exact ⟨_, hb, awRow_cell h (f := aw4) (o := 24) fun k hk => by rcases h8 k hk with rfl | rfl | rfl | rfl | rfl | rfl | rfl | rfl <;> rfl⟩

theorem aw_fs2 {w : World} {R O : Nat → Prop} {L D : Nat} (hR : R L) (hO : O D) (h : Blk w L (awRow D) 43) (hd : Blk w D #[.int .u8 5] 5) : Fs w R O (.slice (some ⟨L, 16, none⟩) 2 2) [aw3, aw4] := by
  have hb := aw_bs (O := O) hO hd
  refine ⟨_, 2, rfl, by decide, fun h => (by cases h), fun _ => ⟨L, 16, rfl, hR, fun i hi => ?_⟩⟩
  have hi4 : i < 2 := hi
  have h8 : ∀ k, k < 8 → k = 0 ∨ k = 1 ∨ k = 2 ∨ k = 3 ∨ k = 4 ∨ k = 5 ∨ k = 6 ∨ k = 7 := by omega
  rcases (by omega : i = 0 ∨ i = 1) with rfl | rfl
  · exact ⟨_, hb, awRow_cell h (f := aw3) (o := 16) fun k hk => by rcases h8 k hk with rfl | rfl | rfl | rfl | rfl | rfl | rfl | rfl <;> rfl⟩
  · exact ⟨_, hb, awRow_cell h (f := aw4) (o := 24) fun k hk => by rcases h8 k hk with rfl | rfl | rfl | rfl | rfl | rfl | rfl | rfl <;> rfl⟩

set_option maxRecDepth 1000000 in
set_option maxHeartbeats 8000000 in
theorem awake_any (w : World) : Calls Try.prog 7 #[] w fun e w' => e = .returned (.bool true) ∧ Fr No w w' := by
  have k0 := Fr.refl No w
  go_enter Try.func7, Try.ntmps7
  go_wp2_with (go_at_call 17; refine (lone_any _).mono ?_; rintro e w1 ⟨vh, vd, rfl, ph, pd, hk1⟩; unfold netV; obtain ⟨ah, ch, _, rfl, _⟩ := id ph; obtain ⟨ad, cd, _, rfl, _⟩ := id pd; have HPH := Lib.hid ph; have HPD := Lib.hid pd; have HK1 := Lib.hid hk1; clear ph pd hk1)
  have hL := Blk.new ((w1.alloc (.cells #[.slice ah 1 ch, .slice ad 1 cd, .int .u32 50] 25)).alloc (.cells #[.int .u8 5] 5)) (awRow (w1.heap.size + 1)) 43
  have hD := ((Fr.refl No _).alloc (.cells (awRow (w1.heap.size + 1)) 43)).blk (Blk.new (w1.alloc (.cells #[.slice ah 1 ch, .slice ad 1 cd, .int .u32 50] 25)) #[.int .u8 5] 5) id
  have hN := (((Fr.refl No _).alloc (.cells #[.int .u8 5] 5)).alloc (.cells (awRow (w1.heap.size + 1)) 43)).blk (Blk.new w1 #[.slice ah 1 ch, .slice ad 1 cd, .int .u32 50] 25) id
  have hk3 : Fr No w1 (((w1.alloc (.cells #[.slice ah 1 ch, .slice ad 1 cd, .int .u32 50] 25)).alloc (.cells #[.int .u8 5] 5)).alloc (.cells (awRow (w1.heap.size + 1)) 43)) := ((((Fr.refl No w1).alloc _).alloc _).alloc _)
  simp only [World.size_alloc] at hL hD
  change Code.wp _ _ _ _ (((w1.alloc (.cells #[.slice ah 1 ch, .slice ad 1 cd, .int .u32 50] 25)).alloc (.cells #[.int .u8 5] 5)).alloc (.cells (awRow (w1.heap.size + 1)) 43))
  generalize ((w1.alloc (.cells #[.slice ah 1 ch, .slice ad 1 cd, .int .u32 50] 25)).alloc (.cells #[.int .u8 5] 5)).alloc (.cells (awRow (w1.heap.size + 1)) 43) = W3 at hL hD hN hk3 ⊢
  have CK1 : ∀ W, Fr No W3 W → Calls Try.prog 15 #[.agg #[.slice ah 1 ch, .slice ad 1 cd, .int .u32 50], .slice (some ⟨w1.heap.size + 1 + 1, 0, none⟩) 4 4] W fun e w' => e = .returned (.agg #[.int .i64 0, .int .i64 0]) ∧ Fr No W w' := by
    intro W hW
    have := check_any (fun b => w.heap.size ≤ b ∧ b < w1.heap.size) (fun b => w.heap.size ≤ b ∧ b < w1.heap.size) (fun b => b < W.heap.size) (fun b => b < W.heap.size) (.slice ah 1 ch) (.slice ad 1 cd) (.slice (some ⟨w1.heap.size + 1 + 1, 0, none⟩) 4 4) [10] [10] 50 [aw1, aw2, aw3, aw4] W
      (HPH.out.keep (hk3.trans hW) fun _ _ => id) (HPD.out.keep (hk3.trans hW) fun _ _ => id) (by decide) aw_net (aw_fs (hW.blk hL id).lt (hW.blk hD id).lt (hW.blk hL id) (hW.blk hD id)) aw_good (by decide) (fun _ h => h) (fun _ h => h)
    rw [aw_check] at this
    exact this
  have CK2 : ∀ W, Fr No W3 W → Calls Try.prog 15 #[.agg #[.slice ah 1 ch, .slice ad 1 cd, .int .u32 50], .slice (some ⟨w1.heap.size + 1 + 1, 16, none⟩) 2 2] W fun e w' => e = .returned (.agg #[.int .i64 2, .int .i64 0]) ∧ Fr No W w' := by
    intro W hW
    have := check_any (fun b => w.heap.size ≤ b ∧ b < w1.heap.size) (fun b => w.heap.size ≤ b ∧ b < w1.heap.size) (fun b => b < W.heap.size) (fun b => b < W.heap.size) (.slice ah 1 ch) (.slice ad 1 cd) (.slice (some ⟨w1.heap.size + 1 + 1, 16, none⟩) 2 2) [10] [10] 50 [aw3, aw4] W
      (HPH.out.keep (hk3.trans hW) fun _ _ => id) (HPD.out.keep (hk3.trans hW) fun _ _ => id) (by decide) aw_net (aw_fs2 (hW.blk hL id).lt (hW.blk hD id).lt (hW.blk hL id) (hW.blk hD id)) (fun f hf => aw_good f (by simp at hf ⊢; rcases hf with rfl | rfl <;> simp)) (by decide) (fun _ h => h) (fun _ h => h)
    rw [aw_check2] at this
    exact this
  have n0 : W3.drew.cell? ⟨w1.heap.size, 0, none⟩ = some (.slice ah 1 ch) := hN.cell 0
  have n1 : W3.drew.cell? ⟨w1.heap.size, 1, none⟩ = some (.slice ad 1 cd) := hN.cell 1
  have n2 : W3.drew.cell? ⟨w1.heap.size, 2, none⟩ = some (.int .u32 50) := hN.cell 2
  have HC1 := Lib.hid CK1
  have HC2 := Lib.hid CK2
  have HK3 := Lib.hid (HK1.out.trans hk3)
  have kd : Fr No W3 W3.drew := (Fr.refl No W3).drew
  have HKD := Lib.hid kd
  clear CK1 CK2 hL hD hN hk3 k0 kd
  go_region_held (fun W => W.cell? ⟨w1.heap.size, 0, none⟩ = some (.slice ah 1 ch) ∧ W.cell? ⟨w1.heap.size, 1, none⟩ = some (.slice ad 1 cd) ∧ W.cell? ⟨w1.heap.size, 2, none⟩ = some (.int .u32 50)) (first | (exact ⟨n0, n1, n2⟩) | (exact ⟨m0, m1, m2⟩) | (exact ⟨o0, o1, o2⟩))
    ((first | (go_at_call 15; refine (HC2.out _ hk5).mono ?_; rintro e w5 ⟨rfl, hk6⟩; have o0 := hk6.old m0 id; have o1 := hk6.old m1 id; have o2 := hk6.old m2 id; have hk7 := hk5.trans hk6) | (go_at_call 15; refine (HC1.out _ HKD.out).mono ?_; rintro e w4 ⟨rfl, hk4⟩; have m0 := hk4.old n0 id; have m1 := hk4.old n1 id; have m2 := hk4.old n2 id; have hk5 := HKD.out.trans hk4)))
  go_wp2
  go_ret
  exact ⟨rfl, HK3.out.trans hk7⟩
end Go.Proofs.Ytmggfdhlbjlpjaa
