/-
  DERIVED. The walk of MemOwn.
-/
import Derived.Test.YtcmhalmmaodmhaaOwn3
import Derived.Test.YtcmhalmmaodmhaaPlaysAll
namespace Go.Proofs.Ytcmhalmmaodmhaa
open Go.RowKit
set_option linter.unusedSimpArgs false
set_option linter.unusedVariables false

set_option maxRecDepth 1000000 in
theorem clone_own (a : Option Addr) (n c : Nat) (xs : List Int) (w : World) (hn : xs.length = n) (hcap : n ≤ 140737488351232)
    (hc : 0 < n → ∃ x, a = some x ∧ ∀ i, i < xs.length → w.cell? (x.add i) = some (.int .u8 (xs.getD i 0))) :
    Calls Try.prog 38 #[.slice a n c] w fun e w' => ∃ v, e = .returned v ∧ w'.ownsRow w.heap.size 5 1 v n (cellsOf xs) ∧ Chg [] w w' := by
  cases a with
  | none =>
    have h0 : n = 0 := by
      rcases Nat.eq_zero_or_pos n with h | h
      · exact h
      · obtain ⟨x, hx, _⟩ := hc h; cases hx
    subst h0
    obtain rfl : xs = [] := List.length_eq_zero_iff.1 hn
    refine (clone_none 0 c w).mono ?_
    rintro e w' ⟨rfl, rfl⟩
    exact ⟨_, rfl, World.ownsRow_nil _ _ _ _, Chg.refl _ _⟩
  | some x =>
    have hcx : ∀ i, i < xs.length → w.cell? (x.add i) = some (.int .u8 (xs.getD i 0)) := fun i hi => by
      obtain ⟨y, hy, hcell⟩ := hc (by omega)
      cases hy
      exact hcell i hi
    have hne := fun w => Lib.run_eql_slice_nil (P := Try.prog) w 22 5 (some x) n c 0 0 Try.underlying22
    obtain ⟨i0, hi, hz0, hz1, hz2⟩ := info_parts Try.info5
    have hown : (w.alloc (.cells #[] 5)).ownsRow w.heap.size 5 1 (.slice (some ⟨w.heap.size, 0, none⟩) 0 0) 0 [] :=
      ⟨rfl, .inr ⟨w.heap.size, 0, #[], rfl, Nat.le_refl _, Blk.new _ _ _, Nat.le_refl _, by unfold maxLen; omega, rfl, rfl⟩⟩
    have hsrc : ∀ j u, (cellsOf xs)[j]? = some u → (w.alloc (.cells #[] 5)).cell? (x.add j) = some u := cellsOf_src fun i hi => cell_kept _ (hcx i hi)
    have HC : Hid _ := hcap
    have HN : Hid _ := hn
    have HS : Hid _ := hsrc
    clear hcap hc hn hsrc hcx
    go_enter Try.func38, Try.ntmps38
    have H1 : Hid ((cellsOf xs).length = n * 1) := by show _ = _; rw [cellsOf_length, HN.out]; omega
    have H4 : Hid (0 + n ≤ maxLen) := by show _ ≤ _; have := HC.out; unfold maxLen; omega
    have H5 : Hid ((0 + n) * 1 ≤ 140737488355328) := by show _ ≤ _; have := HC.out; omega
    have H6 : Hid (w.heap.size ≤ (w.alloc (.cells #[] 5)).heap.size) := by show _ ≤ _; simp
    go_wp2_with (at_builtin; refine wpList_append_own _ rfl _ _ 22 rfl w.heap.size 5 i0 (.int .u8 0) 1 1 Try.underlying22 hi hz0 hz1 hz2 rfl (by decide) _ _ _ rfl hown x n c (cellsOf xs) rfl H1.out HS.out (cellsOf_one xs) H4.out H5.out H6.out ?_; intro v' w1 hown' hgrow hnil)
    go_ret
    simp only [Nat.zero_add, List.nil_append] at hown'
    exact ⟨v', rfl, hown', Chg.of_below (((Below.refl _ w).alloc (Nat.le_refl _) _).grown hgrow (by simp) (by intro k hk; cases hk; exact Nat.le_refl _))⟩

theorem bytes_own (p q : Nat) (s : MS) (w : World) (f : Nat → Int) (h : IsMem w p q s) (hlen : s.B.length ≤ 4096) :
    Calls Try.prog 16 #[.pointer (some ⟨p, 0, none⟩)] w fun e w' => ∃ ax cx g, e = .returned (.slice ax s.B.length cx) ∧ Lf w' (.slice ax s.B.length cx) g s.B.length 0 f ∧ w.heap.size ≤ g ∧ Chg [] w w' := by
  obtain ⟨a, cap, c0, c1, c2, c3, c4, hf, hb, hl, hr⟩ := h.cells
  have hcl := clone_own a s.B.length cap s.B w rfl (by omega) (fun h0 => ⟨⟨q, 0, none⟩, (hr h0).1, fun i hi => by rw [add_at]; simpa using (hr h0).2.1.cell hi⟩)
  clear hr hl hb
  go_enter Try.func16, Try.ntmps16
  go_wp2_with (go_at_call 38; refine hcl.mono ?_; rintro e w1 ⟨v, rfl, hown, hch⟩)
  go_ret
  obtain ⟨g, h1, h2, _⟩ := lf_of_owns (f := fun k => s.B.getD k 0) hown (fun k hk => cellsOf_get s.B k hk)
  have h3 : Lf w1 v g s.B.length 0 f := (h1.le (Nat.zero_le _)).congr (fun k hk => by omega)
  obtain ⟨ax, cx, rfl, _⟩ := h1
  exact ⟨ax, cx, g, rfl, h3, h2, hch⟩

set_option maxRecDepth 1000000 in
theorem own_big (a : Option Addr) (n c : Nat) (xs : List Int) (w : World) (hn : xs.length = n) (hcap : n ≤ 140737488351232) (hbig : 4096 < n)
    (hx : 0 < n → ∃ x, a = some x ∧ ∀ i, i < xs.length → w.cell? (x.add i) = some (.int .u8 (xs.getD i 0))) :
    Calls Try.prog 3 #[.slice a n c] w fun e w' => e = .returned (.bool true) ∧ Chg [] w w' := by
  have HX : Hid (∀ W, Chg [] w W → (0 < n → ∃ x, a = some x ∧ ∀ i, i < xs.length → W.cell? (x.add i) = some (.int .u8 (xs.getD i 0)))) := fun W k h0 => let ⟨x, h1, h2⟩ := hx h0; ⟨x, h1, fun i hi => keep_cell k (h2 i hi)⟩
  have HC : Hid (n ≤ 140737488351232) := hcap
  have hd : decide ((4096 : Int) < (n : Int)) = true := by simp; omega
  clear hx hcap
  go_enter Try.func3, Try.ntmps3
  go_wp2_with (first | (go_at_call 12; refine (awake_any _).mono ?_; rintro e w1 ⟨rfl, g1⟩) | (go_at_call 13; refine (spareb_any a n c xs _ hn HC.out (HX.out _ g1)).mono ?_; rintro e w2 ⟨g, rfl, L2, hg2, k2⟩; have g2 := g1.trans k2) | (go_at_call 14; refine (load_bad _ n (n + 9) _ hbig).mono ?_; rintro e w' ⟨rfl, rfl⟩) | (go_at_call 15; refine (kept_any a n c g xs _ hn HC.out (HX.out _ g2) L2).mono ?_; rintro e w3 ⟨rfl, k3⟩; have g3 := g2.trans k3))
  go_ret
  exact ⟨rfl, g3⟩

def V3 (x y z : Value) : Nat → Value := fun j => if j = 0 then x else if j = 1 then y else z
def G3 (x y z : Nat) : Nat → Nat := fun j => if j = 0 then x else if j = 1 then y else z
/-- Three rows, each another one's. -/
def D3 (x y z : Value) (g h k : Nat) : Prop := (Nn x → Nn y → g ≠ h) ∧ (Nn x → Nn z → g ≠ k) ∧ (Nn y → Nn z → h ≠ k)
theorem d3 {x y z : Value} {g h k : Nat} (h1 : g < h) (h2 : g < k) (h3 : Nn y → h < k) : D3 x y z g h k := ⟨fun _ _ => by omega, fun _ _ => by omega, fun hn _ => by have := h3 hn; omega⟩
theorem rw3 (w : World) (x y z : Value) : Rw (w.alloc (.cells #[x, y, z] 22)) w.heap.size (V3 x y z) :=
  ⟨_, Blk.new _ _ _, fun j hj => by match j, hj with | 0, _ => rfl | 1, _ => rfl | 2, _ => rfl⟩
theorem in3 {x y z : Value} (g h k : Nat) : ∀ j, j < 3 → Nn (V3 x y z j) → G3 g h k j ∈ [g, h, k] := fun j hj _ => by match j, hj with | 0, _ => simp [G3] | 1, _ => simp [G3] | 2, _ => simp [G3]
theorem fam3 {w : World} {x y z : Value} {g h k n : Nat} {o : Obj} (hx : Lf w x g n 0 (mkB 0)) (hy : Lf w y h n 0 (mkB 1)) (hz : Lf w z k n 0 (mkB 2)) (hd : D3 x y z g h k) :
    Fam (w.alloc o) (V3 x y z) (G3 g h k) (fun _ => n) (fun _ => 0) := by
  have K := (Chg.refl [] w).alloc o
  refine ⟨fun j hj => ?_, fun j m hj hm hjm => ?_⟩
  · match j, hj with
    | 0, _ => exact hx.keep K (by simp)
    | 1, _ => exact hy.keep K (by simp)
    | 2, _ => exact hz.keep K (by simp)
  · match j, hj, m, hm with
    | 0, _, 0, _ => exact absurd rfl hjm
    | 1, _, 1, _ => exact absurd rfl hjm
    | 2, _, 2, _ => exact absurd rfl hjm
    | 0, _, 1, _ => exact hd.1
    | 0, _, 2, _ => exact hd.2.1
    | 1, _, 2, _ => exact hd.2.2
    | 1, _, 0, _ => exact fun a b e => hd.1 b a e.symm
    | 2, _, 0, _ => exact fun a b e => hd.2.1 b a e.symm
    | 2, _, 1, _ => exact fun a b e => hd.2.2 b a e.symm

/-- A slice of the first bytes. -/
theorem Lf.head {w : World} {a : Addr} {g N n c : Nat} {f f' : Nat → Int} (h : Lf w (.slice (some a) N c) g N N f) (hn : n ≤ N) : Lf w (.slice (some a) n c) g n 0 f' := by
  obtain ⟨a', c', hv, hm, h⟩ := h
  cases hv
  rcases h with ⟨h, _⟩ | ⟨h1, h2, h3, cur, h4, h5, h6⟩
  · cases h
  · exact ⟨_, _, rfl, Nat.zero_le _, .inr ⟨h1, by omega, h3, cur, h4, h5, fun k hk => by omega⟩⟩

/-- A slice that is nil lies wherever one wants. -/
theorem Lf.settle {w : World} {v : Value} {g n m : Nat} {f : Nat → Int} (h : Lf w v g n m f) (g0 lo : Nat) (hl : lo ≤ g) : ∃ g', Lf w v g' n m f ∧ ((g' = g0 ∧ ¬ Nn v) ∨ (lo ≤ g' ∧ g' < w.heap.size)) := by
  by_cases hn : Nn v
  · exact ⟨g, h, .inr ⟨hl, h.lt' hn⟩⟩
  · obtain ⟨a, cap, hv, hm, h⟩ := h
    rcases h with h | ⟨h1, _⟩
    · exact ⟨g0, ⟨a, cap, hv, hm, .inl h⟩, .inl ⟨rfl, hn⟩⟩
    · exact absurd (by rw [hv, h1]; exact nn_some _ _ _) hn

set_option maxRecDepth 1000000 in
set_option maxHeartbeats 2000000 in
theorem own_small (a : Option Addr) (n c : Nat) (xs : List Int) (w : World) (hn : xs.length = n) (hsm : n ≤ 4096)
    (hx : 0 < n → ∃ x, a = some x ∧ ∀ i, i < xs.length → w.cell? (x.add i) = some (.int .u8 (xs.getD i 0))) :
    Calls Try.prog 3 #[.slice a n c] w fun e w' => e = .returned (.bool true) ∧ Chg [] w w' := by
  have HX : Hid (∀ W, Chg [] w W → (0 < n → ∃ x, a = some x ∧ ∀ i, i < xs.length → W.cell? (x.add i) = some (.int .u8 (xs.getD i 0)))) := fun W k h0 => let ⟨x, h1, h2⟩ := hx h0; ⟨x, h1, fun i hi => keep_cell k (h2 i hi)⟩
  have HC : Hid (n ≤ 140737488351232) := by show _ ≤ _; omega
  have hml : (MS.fresh xs).B.length ≤ 4096 := by show xs.length ≤ _; omega
  clear hx
  go_enter Try.func3, Try.ntmps3
  go_wp2_with (first
    | (go_at_call 12; refine (awake_any _).mono ?_; rintro e w1 ⟨rfl, g1⟩)
    | (go_at_call 13; refine (spareb_any a n c xs _ hn HC.out (HX.out _ g1)).mono ?_; rintro e w2 ⟨g, rfl, L2, hg2, k2⟩; have g2 := g1.trans k2)
    | (go_at_call 14; refine (loadm _ n (n + 9) xs _ hn hsm (fun _ => ⟨_, rfl, fun i hi => by rw [add_at, Nat.zero_add]; have := L2.cell (k := i) (by omega); unfold sp at this; rw [if_pos hi] at this; exact this⟩)).mono ?_; rintro e w3 ⟨p, q, rfl, m3, n3, k3⟩; have g3 := g2.trans k3; have L3 := L2.keep k3 (by simp); have T1 : True := trivial)
    | (go_at_call 16; have _t := T1; refine (bytes_own p q (MS.fresh xs) _ (mkB 1) m3 hml).mono ?_; clear T1; rintro e w4 ⟨ax, cx, gx0, rfl, L4x0, hgx0, k4⟩; obtain ⟨gx, L4x, hgx⟩ := L4x0.settle g _ hgx0; clear L4x0 hgx0; have g4 := g3.trans k4; have L4 := L3.keep k4 (by simp); have m4 := m3.keep k4 (by simp) (by simp); have T2 : True := trivial)
    | (go_at_call 16; have _t := T2; refine (bytes_own p q (MS.fresh xs) _ (mkB 2) m4 hml).mono ?_; clear T2; rintro e w5 ⟨ay, cy, gy0, rfl, L5y0, hgy0, k5⟩; obtain ⟨gy, L5y, hgy⟩ := L5y0.settle g _ hgy0; clear L5y0 hgy0; have g5 := g4.trans k5; have L5 := L4.keep k5 (by simp); have L5x := L4x.keep k5 (by simp); have m5 := m4.keep k5 (by simp) (by simp))
    | (go_at_call 15; refine (kept_any a n c g xs _ hn HC.out (HX.out _ g5) L5).mono ?_; rintro e w6 ⟨rfl, k6⟩; have g6 := g5.trans k6; have L6 := L5.keep k6 (by simp); have L6x := L5x.keep k6 (by simp); have L6y := L5y.keep k6 (by simp); have m6 := m5.keep k6 (by simp) (by simp); have ZZ : Hid (w.heap.size ≤ g ∧ g < w2.heap.size ∧ w2.heap.size ≤ p ∧ w2.heap.size ≤ q ∧ p < w3.heap.size ∧ q < w3.heap.size ∧ w3.heap.size ≤ w6.heap.size ∧ (gx = g ∨ w3.heap.size ≤ gx ∧ gx < w6.heap.size) ∧ (gy = g ∨ w3.heap.size ≤ gy ∧ gy < w6.heap.size)) := (by obtain ⟨n31, n32, n33, n34⟩ := n3; have := L2.lt (by omega); have := g1.size; have := k2.size; have := k3.size; have := k4.size; have := k5.size; have := k6.size; show _ ∧ _; omega); have PD : Hid (D3 (.slice (some ⟨g, 0, none⟩) n (n + 9)) (.slice ax (MS.fresh xs).B.length cx) (.slice ay (MS.fresh xs).B.length cy) g gx gy) := (by have y1 := L2.lt (by omega); have y2 := k3.size; have y3 := k4.size; refine ⟨fun _ hn => ?_, fun _ hn => ?_, fun h1 h2 => ?_⟩; (rcases hgx with ⟨_, h⟩ | h; exact absurd hn h; omega); (rcases hgy with ⟨_, h⟩ | h; exact absurd hn h; omega); (rcases hgx with ⟨_, h⟩ | h; exact absurd h1 h; rcases hgy with ⟨_, h'⟩ | h'; exact absurd h2 h'; omega)); have F6x : Hid (Lf w6 (.slice ax (MS.fresh xs).B.length cx) gx n 0 (mkB 1)) := (by show Lf _ _ _ _ _ _; rw [← hn]; exact L6x); have F6y : Hid (Lf w6 (.slice ay (MS.fresh xs).B.length cy) gy n 0 (mkB 2)) := (by show Lf _ _ _ _ _ _; rw [← hn]; exact L6y); have PD2 : Hid (w6.heap.size ∉ [g, gx, gy]) := (by have := ZZ.out; show _ ∉ _; simp; omega))
    | (go_at_call 17; refine (apart_one w6.heap.size 3 n (V3 (.slice (some ⟨g, 0, none⟩) n (n + 9)) (.slice ax (MS.fresh xs).B.length cx) (.slice ay (MS.fresh xs).B.length cy)) (G3 g gx gy) [g, gx, gy] _ (rw3 _ _ _ _) (fam3 (L6.head (by omega)) F6x.out F6y.out PD.out) hsm (in3 _ _ _) PD2.out).mono ?_; rintro e w7 ⟨rfl, k7⟩))
  have g7 : Chg [] w w7 := (g6.alloc (.cells #[.slice (some ⟨g, 0, none⟩) n (n + 9), .slice ax (MS.fresh xs).B.length cx, .slice ay (MS.fresh xs).B.length cy] 22)).more k7 (by have := ZZ.out; simp; omega)
  have m7 : IsMem w7 p q (MS.fresh xs) := (m6.keep ((Chg.refl [] w6).alloc _) (by simp) (by simp)).keep k7 (by have := ZZ.out; simp; omega) (by have := ZZ.out; simp; omega)
  have HK : Hid (∀ W, Chg [] w7 W → (convert 22 9 (.slice a n c)).run Try.prog W = .ok (.string (mkStr xs)) W ∧ IsMem W p q (MS.fresh xs) ∧ Chg [] w W) :=
    fun W k => ⟨conv_src hn (HX.out _ (g7.trans k)), m7.keep k (by simp) (by simp), g7.trans k⟩
  clear g1 g2 g3 g4 g5 g6 k2 k3 k4 k5 k6 k7 L2 L3 L4 L5 L6 L4x L5x L6x L5y L6y m3 m4 m5 m6 m7 g7 n3 hgx hgy hg2 PD PD2 F6x F6y ZZ
  go_region_held (fun W => (convert 22 9 (.slice a n c)).run Try.prog W = .ok (.string (mkStr xs)) W ∧ IsMem W p q (MS.fresh xs) ∧ Chg [] w W)
    (first | assumption | exact HK.out _ (Chg.refl [] w7).drew | exact HK2.out)
    ((first | (go_at_call 16; refine (bytes_any p q (MS.fresh xs) _ ?_ hml).mono ?_; simp only [*]; rintro e w8 ⟨vb, rfl, ⟨r, hb2, hr2⟩, k⟩; have cv1 := conv_run hb2; have HK2 : Hid (_ ∧ _ ∧ _) := HK.out w8 ((Chg.refl [] w7).drew.trans k))))
  all_goals go_wp2
  all_goals go_ret
  all_goals exact ⟨ret_bool (beq_self_eq_true (mkStr xs).toList), by simp only [*]⟩

open Go.ChangeShapes Go.WideShapes Go.ChangeAt in
set_option maxRecDepth 100000 in
theorem own_all {H : Type} {enc : TypeId × Value → H} {W : World} {v1 : Value} {d1 : DataW H} {p1 : List MemPlace} {r1 : Reach} {b1 : Nat}
    (hv1 : Value.okWide Try.prog W r1 b1 22 v1) (h1 : DataW.Trod enc Try.prog W 0 (fun _ => true) true 22 v1 d1 p1)
    (hsz : ∀ n ∈ d1.weights Try.prog 22, n ≤ reachBytes) :
    Calls Try.prog 3 #[v1] W fun e w' => e = .returned (.bool true) ∧ Chg [] W w' := by
  obtain ⟨a, m, c, xs, rfl, hl, hm, hb, hx⟩ := bytes_open hv1 h1 hsz
  by_cases h : 4096 < m
  · exact own_big a m c xs W hl hm h hx
  · exact own_small a m c xs W hl (by omega) hx

end Go.Proofs.Ytcmhalmmaodmhaa
