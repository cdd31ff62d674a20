/-
  DERIVED. The walk of the reference's rule. (Printed by rrule.py.)
-/
import Derived.Test.YtmggfdhlbjlpjaaRJdg
import Derived.Outline
import Derived.StillTailTactics
namespace Go.Proofs.Ytmggfdhlbjlpjaa
open Go.RowKit
set_option linter.unusedSimpArgs false
set_option linter.unusedVariables false

set_option maxRecDepth 1000000 in
set_option maxHeartbeats 8000000 in
theorem rr_k5_s1 (O' : Nat → Prop) (j q qs b n i cap sc cc : Nat) (vst : Value) (st : JP) (f : FactP) (l : LineP) (h : Bool) (vf : Value) (cs : Array Value) (w : World) (hj : Blk w j (rCells (.slice (some ⟨q, 0, none⟩) n cap) (.slice (some ⟨qs, 0, none⟩) n sc) vst st) 48) (hqi : w.cell? ⟨q, i, none⟩ = some (.slice (some ⟨b, 0, none⟩) 2 cc)) (css : Array Value) (hsb : Blk w qs css 23) (hsc : css[i]? = some (.int .u32 l.session)) (hb : Blk w b cs 68) (hE : REndCs cs 0 l.e0 h) (hh : h = false → l.e0.value = []) (hf : Bs w O' vf f.data) (hi : i < n) (hc : f.conn = i) (hk : f.kind = 5) (hs : f.side = 1) (N : Int) (hok : l.e0.Ok N) (hN : N ≤ 4000) (hnb : 0 ≤ f.number ∧ f.number ≤ 4294967295) :
    Calls Try.prog 19 #[.pointer (some ⟨j, 0, none⟩), factV f vf] w fun e w' => e = .returned (.int .i64 (l.see f).2) ∧ ∃ x' h', (l.see f).1 = { l with e0 := x' } ∧ REndTo w w' b cs 0 x' h' ∧ (h' = false → x'.value = []) := by
  obtain ⟨kind, conn, side, sess, number, on, code, data⟩ := f
  obtain ⟨a', cap', rfl, _, hrd'⟩ := hf
  dsimp only at hk hs hc hrd'
  dsimp only at hnb
  subst hk hs hc
  have hsi : w.cell? ⟨qs, i, none⟩ = some (.int .u32 l.session) := by rw [hsb.cell]; exact hsc
  have HSB := Lib.hid hsb
  show Calls Try.prog 19 #[.pointer (some ⟨j, 0, none⟩), .agg #[.int .i64 5, .int .i64 i, .int .i64 1, .int .u32 sess, .int .u32 number, .bool on, .int .i64 code, .slice a' data.length cap']] w _
  have h3 : decide ((i : Int) < 0) = false := by simp
  have h5 : decide (n ≤ i) = false := by simp; omega
  have h1 : (0 : Int) ≤ i := by omega
  have h2 : (i : Int) < n := by omega
  have j0 : w.cell? ⟨j, 0, none⟩ = some (.slice (some ⟨q, 0, none⟩) n cap) := hj.cell 0
  have j1 : w.cell? ⟨j, 1, none⟩ = some (.slice (some ⟨qs, 0, none⟩) n sc) := hj.cell 1
  have j2 : w.cell? ⟨j, 2, none⟩ = some vst := hj.cell 2
  have hltj := hj.lt
  have hltb := hb.lt
  have hltq := lt_of_cell? hqi
  have hlts := lt_of_cell? hsi
  dsimp only at hltq hlts
  have hr := REndTo.refl hb hE
  have hfree := hb.free
  have HBJ := Lib.hid hj
  have HBB := Lib.hid hb
  have HEC := Lib.hid hE
  have HR := Lib.hid hr
  have HRD := Lib.hid hrd'
  have HH := Lib.hid hh
  have K0 : Fr No w (w.alloc (.cells #[.int .i64 5, .int .i64 i, .int .i64 1, .int .u32 sess, .int .u32 number, .bool on, .int .i64 code, .slice a' data.length cap'] 43)) := (Fr.refl No w).alloc _
  have HK := Lib.hid K0
  obtain ⟨c0, c1, c2, c3, c4, c5, c6, c7, c8, c9, c10⟩ := rend_cells hb hE
  simp only [Nat.zero_add, Nat.reduceAdd] at c0 c1 c2 c3 c4 c5 c6 c7 c8 c9 c10
  have z0 : w.frozen? ⟨b, 0, none⟩ = false := hfree 0
  have z1 : w.frozen? ⟨b, 1, none⟩ = false := hfree 1
  have z2 : w.frozen? ⟨b, 2, none⟩ = false := hfree 2
  have z3 : w.frozen? ⟨b, 3, none⟩ = false := hfree 3
  have z4 : w.frozen? ⟨b, 4, none⟩ = false := hfree 4
  have z5 : w.frozen? ⟨b, 5, none⟩ = false := hfree 5
  have z6 : w.frozen? ⟨b, 6, none⟩ = false := hfree 6
  have z7 : w.frozen? ⟨b, 7, none⟩ = false := hfree 7
  have z8 : w.frozen? ⟨b, 8, none⟩ = false := hfree 8
  have z9 : w.frozen? ⟨b, 9, none⟩ = false := hfree 9
  have z10 : w.frozen? ⟨b, 10, none⟩ = false := hfree 10
  have hw : IntKind.i64.wrap number = number := IntWalk.i64_in _ (by omega)
  have b1 : -9223372036854775808 ≤ l.e0.watch - l.e0.since ∧ l.e0.watch - l.e0.since ≤ 9223372036854775807 := by have := hok.s; have := hok.w0; have := hok.w1; omega
  have hw2 : IntKind.i64.wrap (l.e0.watch - l.e0.since) = l.e0.watch - l.e0.since := IntWalk.i64_in _ (by omega)
  have b2 : l.e0.since ≤ 17179869184000 := by have := hok.n; omega
  have b3 : -9223372036854775808 ≤ l.e0.since := by have := hok.s; have := hok.w0; omega
  have hw3 : IntKind.i64.wrap (l.e0.since + number) = l.e0.since + number := IntWalk.i64_in _ (by omega)
  by_cases hla : l.e0.watch ≤ l.e0.since + number
  · have HT : Hid (l.e0.tick number = { l.e0 with since := l.e0.watch, fresh := false }) := by
      show _ = _; unfold EndP.tick; rw [if_pos hla, Int.min_eq_left hla]
    have hd : decide (l.e0.watch - l.e0.since ≤ number) = true := by simp; omega
    clear hj hb hE hr hrd' K0 hfree hh hsb hsc hla hok hN hnb b1 b2 b3
    have HSEE : Hid (LineP.see l ⟨5, i, 1, sess, number, on, code, data⟩ = ({ l with e0 := l.e0.tick number }, 0)) := by show _ = _; simp [LineP.see, LineP.end_, LineP.setEnd]
    rw [HT.out] at HSEE
    go_enter Try.func19, Try.ntmps19
    go_wp2
    go_quiet (fail)
    generalize nq = n0
    go_wp2
    go_quiet (fail)
    generalize nq = n1
    go_wp2
    go_quiet (fail)
    generalize nq = n2
    go_wp2
    go_ret
    rw [HSEE.out]
    try simp only [World.drewN_drewN]
    exact ⟨rfl, _, _, rfl, (((HR.out.fr (HK.out.drewN _)).set (x' := { l.e0 with since := l.e0.watch }) (h' := h) 7 _ (by omega) rfl).set (x' := { l.e0 with since := l.e0.watch, fresh := false }) (h' := h) 9 _ (by omega) rfl), HH.out⟩
  · have HT : Hid (l.e0.tick number = { l.e0 with since := l.e0.since + number }) := by
      show _ = _; unfold EndP.tick; rw [if_neg hla, Int.min_eq_right (by omega)]
    have hd : decide (l.e0.watch - l.e0.since ≤ number) = false := by simp; omega
    clear hj hb hE hr hrd' K0 hfree hh hsb hsc hla hok hN hnb b1 b2 b3
    have HSEE : Hid (LineP.see l ⟨5, i, 1, sess, number, on, code, data⟩ = ({ l with e0 := l.e0.tick number }, 0)) := by show _ = _; simp [LineP.see, LineP.end_, LineP.setEnd]
    rw [HT.out] at HSEE
    go_enter Try.func19, Try.ntmps19
    go_wp2
    go_quiet (fail)
    generalize nq = n0
    go_wp2
    go_quiet (fail)
    generalize nq = n1
    go_wp2
    go_quiet (fail)
    generalize nq = n2
    go_wp2
    go_ret
    rw [HSEE.out]
    try simp only [World.drewN_drewN]
    exact ⟨rfl, _, _, rfl, ((HR.out.fr (HK.out.drewN _)).set (x' := { l.e0 with since := l.e0.since + number }) (h' := h) 7 _ (by omega) rfl), HH.out⟩
set_option maxRecDepth 1000000 in
set_option maxHeartbeats 8000000 in
theorem rr_k5_s2 (O' : Nat → Prop) (j q qs b n i cap sc cc : Nat) (vst : Value) (st : JP) (f : FactP) (l : LineP) (h : Bool) (vf : Value) (cs : Array Value) (w : World) (hj : Blk w j (rCells (.slice (some ⟨q, 0, none⟩) n cap) (.slice (some ⟨qs, 0, none⟩) n sc) vst st) 48) (hqi : w.cell? ⟨q, i, none⟩ = some (.slice (some ⟨b, 0, none⟩) 2 cc)) (css : Array Value) (hsb : Blk w qs css 23) (hsc : css[i]? = some (.int .u32 l.session)) (hb : Blk w b cs 68) (hE : REndCs cs 11 l.e1 h) (hh : h = false → l.e1.value = []) (hf : Bs w O' vf f.data) (hi : i < n) (hc : f.conn = i) (hk : f.kind = 5) (hs : f.side = 2) (N : Int) (hok : l.e1.Ok N) (hN : N ≤ 4000) (hnb : 0 ≤ f.number ∧ f.number ≤ 4294967295) :
    Calls Try.prog 19 #[.pointer (some ⟨j, 0, none⟩), factV f vf] w fun e w' => e = .returned (.int .i64 (l.see f).2) ∧ ∃ x' h', (l.see f).1 = { l with e1 := x' } ∧ REndTo w w' b cs 11 x' h' ∧ (h' = false → x'.value = []) := by
  obtain ⟨kind, conn, side, sess, number, on, code, data⟩ := f
  obtain ⟨a', cap', rfl, _, hrd'⟩ := hf
  dsimp only at hk hs hc hrd'
  dsimp only at hnb
  subst hk hs hc
  have hsi : w.cell? ⟨qs, i, none⟩ = some (.int .u32 l.session) := by rw [hsb.cell]; exact hsc
  have HSB := Lib.hid hsb
  show Calls Try.prog 19 #[.pointer (some ⟨j, 0, none⟩), .agg #[.int .i64 5, .int .i64 i, .int .i64 2, .int .u32 sess, .int .u32 number, .bool on, .int .i64 code, .slice a' data.length cap']] w _
  have h3 : decide ((i : Int) < 0) = false := by simp
  have h5 : decide (n ≤ i) = false := by simp; omega
  have h1 : (0 : Int) ≤ i := by omega
  have h2 : (i : Int) < n := by omega
  have j0 : w.cell? ⟨j, 0, none⟩ = some (.slice (some ⟨q, 0, none⟩) n cap) := hj.cell 0
  have j1 : w.cell? ⟨j, 1, none⟩ = some (.slice (some ⟨qs, 0, none⟩) n sc) := hj.cell 1
  have j2 : w.cell? ⟨j, 2, none⟩ = some vst := hj.cell 2
  have hltj := hj.lt
  have hltb := hb.lt
  have hltq := lt_of_cell? hqi
  have hlts := lt_of_cell? hsi
  dsimp only at hltq hlts
  have hr := REndTo.refl hb hE
  have hfree := hb.free
  have HBJ := Lib.hid hj
  have HBB := Lib.hid hb
  have HEC := Lib.hid hE
  have HR := Lib.hid hr
  have HRD := Lib.hid hrd'
  have HH := Lib.hid hh
  have K0 : Fr No w (w.alloc (.cells #[.int .i64 5, .int .i64 i, .int .i64 2, .int .u32 sess, .int .u32 number, .bool on, .int .i64 code, .slice a' data.length cap'] 43)) := (Fr.refl No w).alloc _
  have HK := Lib.hid K0
  obtain ⟨c0, c1, c2, c3, c4, c5, c6, c7, c8, c9, c10⟩ := rend_cells hb hE
  simp only [Nat.zero_add, Nat.reduceAdd] at c0 c1 c2 c3 c4 c5 c6 c7 c8 c9 c10
  have z0 : w.frozen? ⟨b, 11, none⟩ = false := hfree 11
  have z1 : w.frozen? ⟨b, 12, none⟩ = false := hfree 12
  have z2 : w.frozen? ⟨b, 13, none⟩ = false := hfree 13
  have z3 : w.frozen? ⟨b, 14, none⟩ = false := hfree 14
  have z4 : w.frozen? ⟨b, 15, none⟩ = false := hfree 15
  have z5 : w.frozen? ⟨b, 16, none⟩ = false := hfree 16
  have z6 : w.frozen? ⟨b, 17, none⟩ = false := hfree 17
  have z7 : w.frozen? ⟨b, 18, none⟩ = false := hfree 18
  have z8 : w.frozen? ⟨b, 19, none⟩ = false := hfree 19
  have z9 : w.frozen? ⟨b, 20, none⟩ = false := hfree 20
  have z10 : w.frozen? ⟨b, 21, none⟩ = false := hfree 21
  have hw : IntKind.i64.wrap number = number := IntWalk.i64_in _ (by omega)
  have b1 : -9223372036854775808 ≤ l.e1.watch - l.e1.since ∧ l.e1.watch - l.e1.since ≤ 9223372036854775807 := by have := hok.s; have := hok.w0; have := hok.w1; omega
  have hw2 : IntKind.i64.wrap (l.e1.watch - l.e1.since) = l.e1.watch - l.e1.since := IntWalk.i64_in _ (by omega)
  have b2 : l.e1.since ≤ 17179869184000 := by have := hok.n; omega
  have b3 : -9223372036854775808 ≤ l.e1.since := by have := hok.s; have := hok.w0; omega
  have hw3 : IntKind.i64.wrap (l.e1.since + number) = l.e1.since + number := IntWalk.i64_in _ (by omega)
  by_cases hla : l.e1.watch ≤ l.e1.since + number
  · have HT : Hid (l.e1.tick number = { l.e1 with since := l.e1.watch, fresh := false }) := by
      show _ = _; unfold EndP.tick; rw [if_pos hla, Int.min_eq_left hla]
    have hd : decide (l.e1.watch - l.e1.since ≤ number) = true := by simp; omega
    clear hj hb hE hr hrd' K0 hfree hh hsb hsc hla hok hN hnb b1 b2 b3
    have HSEE : Hid (LineP.see l ⟨5, i, 2, sess, number, on, code, data⟩ = ({ l with e1 := l.e1.tick number }, 0)) := by show _ = _; simp [LineP.see, LineP.end_, LineP.setEnd]
    rw [HT.out] at HSEE
    go_enter Try.func19, Try.ntmps19
    go_wp2
    go_quiet (fail)
    generalize nq = n0
    go_wp2
    go_quiet (fail)
    generalize nq = n1
    go_wp2
    go_quiet (fail)
    generalize nq = n2
    go_wp2
    go_ret
    rw [HSEE.out]
    try simp only [World.drewN_drewN]
    exact ⟨rfl, _, _, rfl, (((HR.out.fr (HK.out.drewN _)).set (x' := { l.e1 with since := l.e1.watch }) (h' := h) 7 _ (by omega) rfl).set (x' := { l.e1 with since := l.e1.watch, fresh := false }) (h' := h) 9 _ (by omega) rfl), HH.out⟩
  · have HT : Hid (l.e1.tick number = { l.e1 with since := l.e1.since + number }) := by
      show _ = _; unfold EndP.tick; rw [if_neg hla, Int.min_eq_right (by omega)]
    have hd : decide (l.e1.watch - l.e1.since ≤ number) = false := by simp; omega
    clear hj hb hE hr hrd' K0 hfree hh hsb hsc hla hok hN hnb b1 b2 b3
    have HSEE : Hid (LineP.see l ⟨5, i, 2, sess, number, on, code, data⟩ = ({ l with e1 := l.e1.tick number }, 0)) := by show _ = _; simp [LineP.see, LineP.end_, LineP.setEnd]
    rw [HT.out] at HSEE
    go_enter Try.func19, Try.ntmps19
    go_wp2
    go_quiet (fail)
    generalize nq = n0
    go_wp2
    go_quiet (fail)
    generalize nq = n1
    go_wp2
    go_quiet (fail)
    generalize nq = n2
    go_wp2
    go_ret
    rw [HSEE.out]
    try simp only [World.drewN_drewN]
    exact ⟨rfl, _, _, rfl, ((HR.out.fr (HK.out.drewN _)).set (x' := { l.e1 with since := l.e1.since + number }) (h' := h) 7 _ (by omega) rfl), HH.out⟩
set_option maxRecDepth 1000000 in
set_option maxHeartbeats 8000000 in
theorem rr_k7_s2 (O' : Nat → Prop) (j q qs b n i cap sc cc : Nat) (vst : Value) (st : JP) (f : FactP) (l : LineP) (h : Bool) (vf : Value) (cs : Array Value) (w : World) (hj : Blk w j (rCells (.slice (some ⟨q, 0, none⟩) n cap) (.slice (some ⟨qs, 0, none⟩) n sc) vst st) 48) (hqi : w.cell? ⟨q, i, none⟩ = some (.slice (some ⟨b, 0, none⟩) 2 cc)) (css : Array Value) (hsb : Blk w qs css 23) (hsc : css[i]? = some (.int .u32 l.session)) (hb : Blk w b cs 68) (hE : REndCs cs 11 l.e1 h) (hh : h = false → l.e1.value = []) (hf : Bs w O' vf f.data) (hi : i < n) (hc : f.conn = i) (hk : f.kind = 7) (hs : f.side = 2) :
    Calls Try.prog 19 #[.pointer (some ⟨j, 0, none⟩), factV f vf] w fun e w' => e = .returned (.int .i64 (l.see f).2) ∧ ∃ x' h', (l.see f).1 = { l with e1 := x' } ∧ REndTo w w' b cs 11 x' h' ∧ (h' = false → x'.value = []) := by
  obtain ⟨kind, conn, side, sess, number, on, code, data⟩ := f
  obtain ⟨a', cap', rfl, _, hrd'⟩ := hf
  dsimp only at hk hs hc hrd'
  subst hk hs hc
  have hsi : w.cell? ⟨qs, i, none⟩ = some (.int .u32 l.session) := by rw [hsb.cell]; exact hsc
  have HSB := Lib.hid hsb
  show Calls Try.prog 19 #[.pointer (some ⟨j, 0, none⟩), .agg #[.int .i64 7, .int .i64 i, .int .i64 2, .int .u32 sess, .int .u32 number, .bool on, .int .i64 code, .slice a' data.length cap']] w _
  have h3 : decide ((i : Int) < 0) = false := by simp
  have h5 : decide (n ≤ i) = false := by simp; omega
  have h1 : (0 : Int) ≤ i := by omega
  have h2 : (i : Int) < n := by omega
  have j0 : w.cell? ⟨j, 0, none⟩ = some (.slice (some ⟨q, 0, none⟩) n cap) := hj.cell 0
  have j1 : w.cell? ⟨j, 1, none⟩ = some (.slice (some ⟨qs, 0, none⟩) n sc) := hj.cell 1
  have j2 : w.cell? ⟨j, 2, none⟩ = some vst := hj.cell 2
  have hltj := hj.lt
  have hltb := hb.lt
  have hltq := lt_of_cell? hqi
  have hlts := lt_of_cell? hsi
  dsimp only at hltq hlts
  have hr := REndTo.refl hb hE
  have hfree := hb.free
  have HBJ := Lib.hid hj
  have HBB := Lib.hid hb
  have HEC := Lib.hid hE
  have HR := Lib.hid hr
  have HRD := Lib.hid hrd'
  have HH := Lib.hid hh
  have K0 : Fr No w (w.alloc (.cells #[.int .i64 7, .int .i64 i, .int .i64 2, .int .u32 sess, .int .u32 number, .bool on, .int .i64 code, .slice a' data.length cap'] 43)) := (Fr.refl No w).alloc _
  have HK := Lib.hid K0
  obtain ⟨c0, c1, c2, c3, c4, c5, c6, c7, c8, c9, c10⟩ := rend_cells hb hE
  simp only [Nat.zero_add, Nat.reduceAdd] at c0 c1 c2 c3 c4 c5 c6 c7 c8 c9 c10
  have z0 : w.frozen? ⟨b, 11, none⟩ = false := hfree 11
  have z1 : w.frozen? ⟨b, 12, none⟩ = false := hfree 12
  have z2 : w.frozen? ⟨b, 13, none⟩ = false := hfree 13
  have z3 : w.frozen? ⟨b, 14, none⟩ = false := hfree 14
  have z4 : w.frozen? ⟨b, 15, none⟩ = false := hfree 15
  have z5 : w.frozen? ⟨b, 16, none⟩ = false := hfree 16
  have z6 : w.frozen? ⟨b, 17, none⟩ = false := hfree 17
  have z7 : w.frozen? ⟨b, 18, none⟩ = false := hfree 18
  have z8 : w.frozen? ⟨b, 19, none⟩ = false := hfree 19
  have z9 : w.frozen? ⟨b, 20, none⟩ = false := hfree 20
  have z10 : w.frozen? ⟨b, 21, none⟩ = false := hfree 21
  have n1 : w.heap.size ≠ b := by omega
  have n2 : w.heap.size + 1 ≠ b := by omega
  have n3 : ¬ b = w.heap.size + 1 := by omega
  have n4 : ¬ b = w.heap.size := by omega
  clear hj hb hE hr hrd' K0 hfree hh hsb hsc
  have HSEE : Hid (LineP.see l ⟨7, i, 2, sess, number, on, code, data⟩ = ({ l with e1 := l.e1.anew true }, 0)) := by show _ = _; simp [LineP.see, LineP.end_, LineP.setEnd]
  go_enter Try.func19, Try.ntmps19
  go_wp2
  go_quiet (fail)
  generalize nq = n0
  go_wp2
  go_quiet (fail)
  generalize nq = n1
  go_wp2
  go_region_held (fun W => W.cell? ⟨b, 12, none⟩ = some (.bool l.e1.took) ∧ W.cell? ⟨b, 13, none⟩ = some (.int .u32 l.e1.session) ∧ W.cell? ⟨b, 14, none⟩ = some (.int .u32 l.e1.number)) (go_keep) (fail)
  go_wp2
  have hx : l.e1.anew true = { l.e1 with value := [], inn := 0, since := 0, latched := 0, fresh := false, acked := false } := by simp [EndP.anew]
  rw [hx] at HSEE
  clear hx
  go_ret
  rw [HSEE.out]
  try simp only [World.drewN_drewN]
  exact ⟨rfl, _, _, rfl, (((((((((((((HR.out.fr (HK.out.drewN _)).set (x' := l.e1) (h' := h) 0 _ (by omega) rfl).set (x' := l.e1) (h' := h) 1 _ (by omega) rfl).set (x' := l.e1) (h' := h) 2 _ (by omega) rfl).set (x' := l.e1) (h' := h) 3 _ (by omega) rfl).set (x' := l.e1) (h' := false) 4 _ (by omega) rfl).set (x' := { l.e1 with value := [] }) (h' := false) 5 _ (by omega) rfl).set (x' := { l.e1 with value := [], inn := 0 }) (h' := false) 6 _ (by omega) rfl).set (x' := { l.e1 with value := [], inn := 0, since := 0 }) (h' := false) 7 _ (by omega) rfl).set (x' := { l.e1 with value := [], inn := 0, since := 0, latched := 0 }) (h' := false) 8 _ (by omega) rfl).set (x' := { l.e1 with value := [], inn := 0, since := 0, latched := 0, fresh := false }) (h' := false) 9 _ (by omega) rfl).set (x' := { l.e1 with value := [], inn := 0, since := 0, latched := 0, fresh := false, acked := false }) (h' := false) 10 _ (by omega) rfl).alloc _).drew, fun _ => rfl⟩
set_option maxRecDepth 1000000 in
set_option maxHeartbeats 8000000 in
theorem rr_k8_s1 (O' : Nat → Prop) (j q qs b n i cap sc cc : Nat) (vst : Value) (st : JP) (f : FactP) (l : LineP) (h : Bool) (vf : Value) (cs : Array Value) (w : World) (hj : Blk w j (rCells (.slice (some ⟨q, 0, none⟩) n cap) (.slice (some ⟨qs, 0, none⟩) n sc) vst st) 48) (hqi : w.cell? ⟨q, i, none⟩ = some (.slice (some ⟨b, 0, none⟩) 2 cc)) (css : Array Value) (hsb : Blk w qs css 23) (hsc : css[i]? = some (.int .u32 l.session)) (hb : Blk w b cs 68) (hE : REndCs cs 0 l.e0 h) (hh : h = false → l.e0.value = []) (hf : Bs w O' vf f.data) (hi : i < n) (hc : f.conn = i) (hk : f.kind = 8) (hs : f.side = 1) (hlen' : f.data.length ≤ 140737488351232) (hq : ∀ x, O' x → x ≠ b) :
    Calls Try.prog 19 #[.pointer (some ⟨j, 0, none⟩), factV f vf] w fun e w' => e = .returned (.int .i64 (l.see f).2) ∧ ∃ x' h', (l.see f).1 = { l with e0 := x' } ∧ REndTo w w' b cs 0 x' h' ∧ (h' = false → x'.value = []) := by
  obtain ⟨kind, conn, side, sess, number, on, code, data⟩ := f
  obtain ⟨a', cap', rfl, _, hrd'⟩ := hf
  dsimp only at hk hs hc hrd'
  dsimp only at hlen'
  subst hk hs hc
  have hsi : w.cell? ⟨qs, i, none⟩ = some (.int .u32 l.session) := by rw [hsb.cell]; exact hsc
  have HSB := Lib.hid hsb
  show Calls Try.prog 19 #[.pointer (some ⟨j, 0, none⟩), .agg #[.int .i64 8, .int .i64 i, .int .i64 1, .int .u32 sess, .int .u32 number, .bool on, .int .i64 code, .slice a' data.length cap']] w _
  have h3 : decide ((i : Int) < 0) = false := by simp
  have h5 : decide (n ≤ i) = false := by simp; omega
  have h1 : (0 : Int) ≤ i := by omega
  have h2 : (i : Int) < n := by omega
  have j0 : w.cell? ⟨j, 0, none⟩ = some (.slice (some ⟨q, 0, none⟩) n cap) := hj.cell 0
  have j1 : w.cell? ⟨j, 1, none⟩ = some (.slice (some ⟨qs, 0, none⟩) n sc) := hj.cell 1
  have j2 : w.cell? ⟨j, 2, none⟩ = some vst := hj.cell 2
  have hltj := hj.lt
  have hltb := hb.lt
  have hltq := lt_of_cell? hqi
  have hlts := lt_of_cell? hsi
  dsimp only at hltq hlts
  have hr := REndTo.refl hb hE
  have hfree := hb.free
  have HBJ := Lib.hid hj
  have HBB := Lib.hid hb
  have HEC := Lib.hid hE
  have HR := Lib.hid hr
  have HRD := Lib.hid hrd'
  have HH := Lib.hid hh
  have K0 : Fr No w (w.alloc (.cells #[.int .i64 8, .int .i64 i, .int .i64 1, .int .u32 sess, .int .u32 number, .bool on, .int .i64 code, .slice a' data.length cap'] 43)) := (Fr.refl No w).alloc _
  have HK := Lib.hid K0
  obtain ⟨c0, c1, c2, c3, c4, c5, c6, c7, c8, c9, c10⟩ := rend_cells hb hE
  simp only [Nat.zero_add, Nat.reduceAdd] at c0 c1 c2 c3 c4 c5 c6 c7 c8 c9 c10
  have z0 : w.frozen? ⟨b, 0, none⟩ = false := hfree 0
  have z1 : w.frozen? ⟨b, 1, none⟩ = false := hfree 1
  have z2 : w.frozen? ⟨b, 2, none⟩ = false := hfree 2
  have z3 : w.frozen? ⟨b, 3, none⟩ = false := hfree 3
  have z4 : w.frozen? ⟨b, 4, none⟩ = false := hfree 4
  have z5 : w.frozen? ⟨b, 5, none⟩ = false := hfree 5
  have z6 : w.frozen? ⟨b, 6, none⟩ = false := hfree 6
  have z7 : w.frozen? ⟨b, 7, none⟩ = false := hfree 7
  have z8 : w.frozen? ⟨b, 8, none⟩ = false := hfree 8
  have z9 : w.frozen? ⟨b, 9, none⟩ = false := hfree 9
  have z10 : w.frozen? ⟨b, 10, none⟩ = false := hfree 10
  have HCA := Lib.hid (fun W (kk : Fr No w W) => rout_any b 0 l.e0 h ⟨8, i, 1, sess, number, on, code, data⟩ (.slice a' data.length cap') cs l.session false O' W (kk.blk hb id) hE hh (Bs.keep (l := data) ⟨a', cap', rfl, by assumption, hrd'⟩ kk (fun _ _ => id)) hlen' (by simp) hq)
  have nb1 : w.heap.size ≠ b := by omega
  clear hj hb hE hr hrd' K0 hfree hh hsb hsc hlen' hq
  obtain ⟨r, hr⟩ : ∃ r, l.e0.outRule ⟨8, i, 1, sess, number, on, code, data⟩ l.session = r := ⟨_, rfl⟩
  have HRR := Lib.hid hr
  rw [hr] at HCA
  clear hr
  have HSEE : Hid (LineP.see l ⟨8, i, 1, sess, number, on, code, data⟩ = (if r = 0 then { l with e0 := l.e0.outTo ⟨8, i, 1, sess, number, on, code, data⟩ } else l, r)) := by show _ = _; have := HRR.out; simp [LineP.see, LineP.end_, LineP.setEnd, this]
  go_enter Try.func19, Try.ntmps19
  go_wp2
  go_quiet (fail)
  generalize nq = n0
  go_wp2
  go_quiet (fail)
  generalize nq = n1
  go_wp2
  have bx0 : (w.alloc (.cells #[.int .i64 8, .int .i64 i, .int .i64 1, .int .u32 sess, .int .u32 number, .bool on, .int .i64 code, .slice a' data.length cap'] 43)).cell? ⟨w.heap.size, 0, none⟩ = some (.int .i64 8) := (Blk.new _ _ _).cell 0
  have bx1 : (w.alloc (.cells #[.int .i64 8, .int .i64 i, .int .i64 1, .int .u32 sess, .int .u32 number, .bool on, .int .i64 code, .slice a' data.length cap'] 43)).cell? ⟨w.heap.size, 1, none⟩ = some (.int .i64 i) := (Blk.new _ _ _).cell 1
  have bx2 : (w.alloc (.cells #[.int .i64 8, .int .i64 i, .int .i64 1, .int .u32 sess, .int .u32 number, .bool on, .int .i64 code, .slice a' data.length cap'] 43)).cell? ⟨w.heap.size, 2, none⟩ = some (.int .i64 1) := (Blk.new _ _ _).cell 2
  have bx3 : (w.alloc (.cells #[.int .i64 8, .int .i64 i, .int .i64 1, .int .u32 sess, .int .u32 number, .bool on, .int .i64 code, .slice a' data.length cap'] 43)).cell? ⟨w.heap.size, 3, none⟩ = some (.int .u32 sess) := (Blk.new _ _ _).cell 3
  have bx4 : (w.alloc (.cells #[.int .i64 8, .int .i64 i, .int .i64 1, .int .u32 sess, .int .u32 number, .bool on, .int .i64 code, .slice a' data.length cap'] 43)).cell? ⟨w.heap.size, 4, none⟩ = some (.int .u32 number) := (Blk.new _ _ _).cell 4
  have bx5 : (w.alloc (.cells #[.int .i64 8, .int .i64 i, .int .i64 1, .int .u32 sess, .int .u32 number, .bool on, .int .i64 code, .slice a' data.length cap'] 43)).cell? ⟨w.heap.size, 5, none⟩ = some (.bool on) := (Blk.new _ _ _).cell 5
  have bx6 : (w.alloc (.cells #[.int .i64 8, .int .i64 i, .int .i64 1, .int .u32 sess, .int .u32 number, .bool on, .int .i64 code, .slice a' data.length cap'] 43)).cell? ⟨w.heap.size, 6, none⟩ = some (.int .i64 code) := (Blk.new _ _ _).cell 6
  have bx7 : (w.alloc (.cells #[.int .i64 8, .int .i64 i, .int .i64 1, .int .u32 sess, .int .u32 number, .bool on, .int .i64 code, .slice a' data.length cap'] 43)).cell? ⟨w.heap.size, 7, none⟩ = some (.slice a' data.length cap') := (Blk.new _ _ _).cell 7
  have kk : Fr No (w.alloc (.cells #[.int .i64 8, .int .i64 i, .int .i64 1, .int .u32 sess, .int .u32 number, .bool on, .int .i64 code, .slice a' data.length cap'] 43)) (((w.alloc (.cells #[.int .i64 8, .int .i64 i, .int .i64 1, .int .u32 sess, .int .u32 number, .bool on, .int .i64 code, .slice a' data.length cap'] 43)).drewN (n0 + n1)).drew) := ((Fr.refl No _).drewN _).drew
  have kx : Fr (fun x => x = b) (w.alloc (.cells #[.int .i64 8, .int .i64 i, .int .i64 1, .int .u32 sess, .int .u32 number, .bool on, .int .i64 code, .slice a' data.length cap'] 43)) (((w.alloc (.cells #[.int .i64 8, .int .i64 i, .int .i64 1, .int .u32 sess, .int .u32 number, .bool on, .int .i64 code, .slice a' data.length cap'] 43)).drewN (n0 + n1)).drew) := kk.no _
  have nj : ¬ j = b := fun e => HBJ.out.unlike HBB.out (by decide) e
  have ns : ¬ qs = b := fun e => HSB.out.unlike HBB.out (by decide) e
  go_region_held (fun W => W.cell? ⟨w.heap.size, 0, none⟩ = some (.int .i64 8) ∧ W.cell? ⟨w.heap.size, 1, none⟩ = some (.int .i64 i) ∧ W.cell? ⟨w.heap.size, 2, none⟩ = some (.int .i64 1) ∧ W.cell? ⟨w.heap.size, 3, none⟩ = some (.int .u32 sess) ∧ W.cell? ⟨w.heap.size, 4, none⟩ = some (.int .u32 number) ∧ W.cell? ⟨w.heap.size, 5, none⟩ = some (.bool on) ∧ W.cell? ⟨w.heap.size, 6, none⟩ = some (.int .i64 code) ∧ W.cell? ⟨w.heap.size, 7, none⟩ = some (.slice a' data.length cap') ∧ W.cell? ⟨j, 1, none⟩ = some (.slice (some ⟨qs, 0, none⟩) n sc) ∧ W.cell? ⟨qs, i, none⟩ = some (.int .u32 l.session)) (exact ⟨kx.old bx0 nb1, kx.old bx1 nb1, kx.old bx2 nb1, kx.old bx3 nb1, kx.old bx4 nb1, kx.old bx5 nb1, kx.old bx6 nb1, kx.old bx7 nb1, kx.old (cell_kept _ j1) nj, kx.old (cell_kept _ hsi) ns⟩) (first | (go_at_call 27; refine (HCA.out _ (HK.out.drewN (n0 + n1 + 1))).mono ?_; rintro e w' ⟨rfl, hy, hn⟩; have kx := kx.trans (outFr hy hn)))
  go_wp2
  go_ret
  rw [HSEE.out]
  by_cases h0 : r = 0
  · rw [if_pos h0]
    exact ⟨rfl, _, _, rfl, (hy h0).ahead (HK.out.drewN _), HH.out⟩
  · rw [if_neg h0]
    exact ⟨rfl, _, _, rfl, (hn h0).ahead (HK.out.drewN _), HH.out⟩
set_option maxRecDepth 1000000 in
set_option maxHeartbeats 8000000 in
theorem rr_k8_s2 (O' : Nat → Prop) (j q qs b n i cap sc cc : Nat) (vst : Value) (st : JP) (f : FactP) (l : LineP) (h : Bool) (vf : Value) (cs : Array Value) (w : World) (hj : Blk w j (rCells (.slice (some ⟨q, 0, none⟩) n cap) (.slice (some ⟨qs, 0, none⟩) n sc) vst st) 48) (hqi : w.cell? ⟨q, i, none⟩ = some (.slice (some ⟨b, 0, none⟩) 2 cc)) (css : Array Value) (hsb : Blk w qs css 23) (hsc : css[i]? = some (.int .u32 l.session)) (hb : Blk w b cs 68) (hE : REndCs cs 11 l.e1 h) (hh : h = false → l.e1.value = []) (hf : Bs w O' vf f.data) (hi : i < n) (hc : f.conn = i) (hk : f.kind = 8) (hs : f.side = 2) (hlen' : f.data.length ≤ 140737488351232) (hq : ∀ x, O' x → x ≠ b) :
    Calls Try.prog 19 #[.pointer (some ⟨j, 0, none⟩), factV f vf] w fun e w' => e = .returned (.int .i64 (l.see f).2) ∧ ∃ x' h', (l.see f).1 = { l with e1 := x' } ∧ REndTo w w' b cs 11 x' h' ∧ (h' = false → x'.value = []) := by
  obtain ⟨kind, conn, side, sess, number, on, code, data⟩ := f
  obtain ⟨a', cap', rfl, _, hrd'⟩ := hf
  dsimp only at hk hs hc hrd'
  dsimp only at hlen'
  subst hk hs hc
  have hsi : w.cell? ⟨qs, i, none⟩ = some (.int .u32 l.session) := by rw [hsb.cell]; exact hsc
  have HSB := Lib.hid hsb
  show Calls Try.prog 19 #[.pointer (some ⟨j, 0, none⟩), .agg #[.int .i64 8, .int .i64 i, .int .i64 2, .int .u32 sess, .int .u32 number, .bool on, .int .i64 code, .slice a' data.length cap']] w _
  have h3 : decide ((i : Int) < 0) = false := by simp
  have h5 : decide (n ≤ i) = false := by simp; omega
  have h1 : (0 : Int) ≤ i := by omega
  have h2 : (i : Int) < n := by omega
  have j0 : w.cell? ⟨j, 0, none⟩ = some (.slice (some ⟨q, 0, none⟩) n cap) := hj.cell 0
  have j1 : w.cell? ⟨j, 1, none⟩ = some (.slice (some ⟨qs, 0, none⟩) n sc) := hj.cell 1
  have j2 : w.cell? ⟨j, 2, none⟩ = some vst := hj.cell 2
  have hltj := hj.lt
  have hltb := hb.lt
  have hltq := lt_of_cell? hqi
  have hlts := lt_of_cell? hsi
  dsimp only at hltq hlts
  have hr := REndTo.refl hb hE
  have hfree := hb.free
  have HBJ := Lib.hid hj
  have HBB := Lib.hid hb
  have HEC := Lib.hid hE
  have HR := Lib.hid hr
  have HRD := Lib.hid hrd'
  have HH := Lib.hid hh
  have K0 : Fr No w (w.alloc (.cells #[.int .i64 8, .int .i64 i, .int .i64 2, .int .u32 sess, .int .u32 number, .bool on, .int .i64 code, .slice a' data.length cap'] 43)) := (Fr.refl No w).alloc _
  have HK := Lib.hid K0
  obtain ⟨c0, c1, c2, c3, c4, c5, c6, c7, c8, c9, c10⟩ := rend_cells hb hE
  simp only [Nat.zero_add, Nat.reduceAdd] at c0 c1 c2 c3 c4 c5 c6 c7 c8 c9 c10
  have z0 : w.frozen? ⟨b, 11, none⟩ = false := hfree 11
  have z1 : w.frozen? ⟨b, 12, none⟩ = false := hfree 12
  have z2 : w.frozen? ⟨b, 13, none⟩ = false := hfree 13
  have z3 : w.frozen? ⟨b, 14, none⟩ = false := hfree 14
  have z4 : w.frozen? ⟨b, 15, none⟩ = false := hfree 15
  have z5 : w.frozen? ⟨b, 16, none⟩ = false := hfree 16
  have z6 : w.frozen? ⟨b, 17, none⟩ = false := hfree 17
  have z7 : w.frozen? ⟨b, 18, none⟩ = false := hfree 18
  have z8 : w.frozen? ⟨b, 19, none⟩ = false := hfree 19
  have z9 : w.frozen? ⟨b, 20, none⟩ = false := hfree 20
  have z10 : w.frozen? ⟨b, 21, none⟩ = false := hfree 21
  have HCA := Lib.hid (fun W (kk : Fr No w W) => rout_any b 11 l.e1 h ⟨8, i, 2, sess, number, on, code, data⟩ (.slice a' data.length cap') cs l.session true O' W (kk.blk hb id) hE hh (Bs.keep (l := data) ⟨a', cap', rfl, by assumption, hrd'⟩ kk (fun _ _ => id)) hlen' (by simp) hq)
  have nb1 : w.heap.size ≠ b := by omega
  clear hj hb hE hr hrd' K0 hfree hh hsb hsc hlen' hq
  obtain ⟨r, hr⟩ : ∃ r, l.e1.outRule ⟨8, i, 2, sess, number, on, code, data⟩ l.session = r := ⟨_, rfl⟩
  have HRR := Lib.hid hr
  rw [hr] at HCA
  clear hr
  have HSEE : Hid (LineP.see l ⟨8, i, 2, sess, number, on, code, data⟩ = (if r = 0 then { l with e1 := l.e1.outTo ⟨8, i, 2, sess, number, on, code, data⟩ } else l, r)) := by show _ = _; have := HRR.out; simp [LineP.see, LineP.end_, LineP.setEnd, this]
  go_enter Try.func19, Try.ntmps19
  go_wp2
  go_quiet (fail)
  generalize nq = n0
  go_wp2
  go_quiet (fail)
  generalize nq = n1
  go_wp2
  have bx0 : (w.alloc (.cells #[.int .i64 8, .int .i64 i, .int .i64 2, .int .u32 sess, .int .u32 number, .bool on, .int .i64 code, .slice a' data.length cap'] 43)).cell? ⟨w.heap.size, 0, none⟩ = some (.int .i64 8) := (Blk.new _ _ _).cell 0
  have bx1 : (w.alloc (.cells #[.int .i64 8, .int .i64 i, .int .i64 2, .int .u32 sess, .int .u32 number, .bool on, .int .i64 code, .slice a' data.length cap'] 43)).cell? ⟨w.heap.size, 1, none⟩ = some (.int .i64 i) := (Blk.new _ _ _).cell 1
  have bx2 : (w.alloc (.cells #[.int .i64 8, .int .i64 i, .int .i64 2, .int .u32 sess, .int .u32 number, .bool on, .int .i64 code, .slice a' data.length cap'] 43)).cell? ⟨w.heap.size, 2, none⟩ = some (.int .i64 2) := (Blk.new _ _ _).cell 2
  have bx3 : (w.alloc (.cells #[.int .i64 8, .int .i64 i, .int .i64 2, .int .u32 sess, .int .u32 number, .bool on, .int .i64 code, .slice a' data.length cap'] 43)).cell? ⟨w.heap.size, 3, none⟩ = some (.int .u32 sess) := (Blk.new _ _ _).cell 3
  have bx4 : (w.alloc (.cells #[.int .i64 8, .int .i64 i, .int .i64 2, .int .u32 sess, .int .u32 number, .bool on, .int .i64 code, .slice a' data.length cap'] 43)).cell? ⟨w.heap.size, 4, none⟩ = some (.int .u32 number) := (Blk.new _ _ _).cell 4
  have bx5 : (w.alloc (.cells #[.int .i64 8, .int .i64 i, .int .i64 2, .int .u32 sess, .int .u32 number, .bool on, .int .i64 code, .slice a' data.length cap'] 43)).cell? ⟨w.heap.size, 5, none⟩ = some (.bool on) := (Blk.new _ _ _).cell 5
  have bx6 : (w.alloc (.cells #[.int .i64 8, .int .i64 i, .int .i64 2, .int .u32 sess, .int .u32 number, .bool on, .int .i64 code, .slice a' data.length cap'] 43)).cell? ⟨w.heap.size, 6, none⟩ = some (.int .i64 code) := (Blk.new _ _ _).cell 6
  have bx7 : (w.alloc (.cells #[.int .i64 8, .int .i64 i, .int .i64 2, .int .u32 sess, .int .u32 number, .bool on, .int .i64 code, .slice a' data.length cap'] 43)).cell? ⟨w.heap.size, 7, none⟩ = some (.slice a' data.length cap') := (Blk.new _ _ _).cell 7
  have kk : Fr No (w.alloc (.cells #[.int .i64 8, .int .i64 i, .int .i64 2, .int .u32 sess, .int .u32 number, .bool on, .int .i64 code, .slice a' data.length cap'] 43)) (((w.alloc (.cells #[.int .i64 8, .int .i64 i, .int .i64 2, .int .u32 sess, .int .u32 number, .bool on, .int .i64 code, .slice a' data.length cap'] 43)).drewN (n0 + n1)).drew) := ((Fr.refl No _).drewN _).drew
  have kx : Fr (fun x => x = b) (w.alloc (.cells #[.int .i64 8, .int .i64 i, .int .i64 2, .int .u32 sess, .int .u32 number, .bool on, .int .i64 code, .slice a' data.length cap'] 43)) (((w.alloc (.cells #[.int .i64 8, .int .i64 i, .int .i64 2, .int .u32 sess, .int .u32 number, .bool on, .int .i64 code, .slice a' data.length cap'] 43)).drewN (n0 + n1)).drew) := kk.no _
  have nj : ¬ j = b := fun e => HBJ.out.unlike HBB.out (by decide) e
  have ns : ¬ qs = b := fun e => HSB.out.unlike HBB.out (by decide) e
  go_region_held (fun W => W.cell? ⟨w.heap.size, 0, none⟩ = some (.int .i64 8) ∧ W.cell? ⟨w.heap.size, 1, none⟩ = some (.int .i64 i) ∧ W.cell? ⟨w.heap.size, 2, none⟩ = some (.int .i64 2) ∧ W.cell? ⟨w.heap.size, 3, none⟩ = some (.int .u32 sess) ∧ W.cell? ⟨w.heap.size, 4, none⟩ = some (.int .u32 number) ∧ W.cell? ⟨w.heap.size, 5, none⟩ = some (.bool on) ∧ W.cell? ⟨w.heap.size, 6, none⟩ = some (.int .i64 code) ∧ W.cell? ⟨w.heap.size, 7, none⟩ = some (.slice a' data.length cap') ∧ W.cell? ⟨j, 1, none⟩ = some (.slice (some ⟨qs, 0, none⟩) n sc) ∧ W.cell? ⟨qs, i, none⟩ = some (.int .u32 l.session)) (exact ⟨kx.old bx0 nb1, kx.old bx1 nb1, kx.old bx2 nb1, kx.old bx3 nb1, kx.old bx4 nb1, kx.old bx5 nb1, kx.old bx6 nb1, kx.old bx7 nb1, kx.old (cell_kept _ j1) nj, kx.old (cell_kept _ hsi) ns⟩) (first | (go_at_call 27; refine (HCA.out _ (HK.out.drewN (n0 + n1 + 1))).mono ?_; rintro e w' ⟨rfl, hy, hn⟩; have kx := kx.trans (outFr hy hn)))
  go_wp2
  go_ret
  rw [HSEE.out]
  by_cases h0 : r = 0
  · rw [if_pos h0]
    exact ⟨rfl, _, _, rfl, (hy h0).ahead (HK.out.drewN _), HH.out⟩
  · rw [if_neg h0]
    exact ⟨rfl, _, _, rfl, (hn h0).ahead (HK.out.drewN _), HH.out⟩
end Go.Proofs.Ytmggfdhlbjlpjaa
