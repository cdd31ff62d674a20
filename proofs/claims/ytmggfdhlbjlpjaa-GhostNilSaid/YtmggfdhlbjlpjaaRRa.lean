/-
  DERIVED. The walk of the reference's rule. (Printed by rrule.py.)
-/
import Derived.Test.YtmggfdhlbjlpjaaRJdg
import Derived.Outline
import Derived.StillTailTactics
namespace Go.Proofs.Ytmggfdhlbjlpjaa
open Go.RowKit
set_option linter.unusedSimpArgs false
set_option linter.unusedVariables false

set_option maxRecDepth 1000000 in
set_option maxHeartbeats 8000000 in
theorem rr_k4_s1 (O' : Nat → Prop) (j q qs b n i cap sc cc : Nat) (vst : Value) (st : JP) (f : FactP) (l : LineP) (h : Bool) (vf : Value) (cs : Array Value) (w : World) (hj : Blk w j (rCells (.slice (some ⟨q, 0, none⟩) n cap) (.slice (some ⟨qs, 0, none⟩) n sc) vst st) 48) (hqi : w.cell? ⟨q, i, none⟩ = some (.slice (some ⟨b, 0, none⟩) 2 cc)) (css : Array Value) (hsb : Blk w qs css 23) (hsc : css[i]? = some (.int .u32 l.session)) (hb : Blk w b cs 68) (hE : REndCs cs 0 l.e0 h) (hh : h = false → l.e0.value = []) (hf : Bs w O' vf f.data) (hi : i < n) (hc : f.conn = i) (hk : f.kind = 4) (hs : f.side = 1) :
    Calls Try.prog 19 #[.pointer (some ⟨j, 0, none⟩), factV f vf] w fun e w' => e = .returned (.int .i64 (l.see f).2) ∧ ∃ x' h', (l.see f).1 = { l with e0 := x' } ∧ REndTo w w' b cs 0 x' h' ∧ (h' = false → x'.value = []) := by
  obtain ⟨kind, conn, side, sess, number, on, code, data⟩ := f
  obtain ⟨a', cap', rfl, _, hrd'⟩ := hf
  dsimp only at hk hs hc hrd'
  subst hk hs hc
  have hsi : w.cell? ⟨qs, i, none⟩ = some (.int .u32 l.session) := by rw [hsb.cell]; exact hsc
  have HSB := Lib.hid hsb
  show Calls Try.prog 19 #[.pointer (some ⟨j, 0, none⟩), .agg #[.int .i64 4, .int .i64 i, .int .i64 1, .int .u32 sess, .int .u32 number, .bool on, .int .i64 code, .slice a' data.length cap']] w _
  have h3 : decide ((i : Int) < 0) = false := by simp
  have h5 : decide (n ≤ i) = false := by simp; omega
  have h1 : (0 : Int) ≤ i := by omega
  have h2 : (i : Int) < n := by omega
  have j0 : w.cell? ⟨j, 0, none⟩ = some (.slice (some ⟨q, 0, none⟩) n cap) := hj.cell 0
  have j1 : w.cell? ⟨j, 1, none⟩ = some (.slice (some ⟨qs, 0, none⟩) n sc) := hj.cell 1
  have j2 : w.cell? ⟨j, 2, none⟩ = some vst := hj.cell 2
  have hltj := hj.lt
  have hltb := hb.lt
  have hltq := lt_of_cell? hqi
  have hlts := lt_of_cell? hsi
  dsimp only at hltq hlts
  have hr := REndTo.refl hb hE
  have hfree := hb.free
  have HBJ := Lib.hid hj
  have HBB := Lib.hid hb
  have HEC := Lib.hid hE
  have HR := Lib.hid hr
  have HRD := Lib.hid hrd'
  have HH := Lib.hid hh
  have K0 : Fr No w (w.alloc (.cells #[.int .i64 4, .int .i64 i, .int .i64 1, .int .u32 sess, .int .u32 number, .bool on, .int .i64 code, .slice a' data.length cap'] 43)) := (Fr.refl No w).alloc _
  have HK := Lib.hid K0
  obtain ⟨c0, c1, c2, c3, c4, c5, c6, c7, c8, c9, c10⟩ := rend_cells hb hE
  simp only [Nat.zero_add, Nat.reduceAdd] at c0 c1 c2 c3 c4 c5 c6 c7 c8 c9 c10
  have z0 : w.frozen? ⟨b, 0, none⟩ = false := hfree 0
  have z1 : w.frozen? ⟨b, 1, none⟩ = false := hfree 1
  have z2 : w.frozen? ⟨b, 2, none⟩ = false := hfree 2
  have z3 : w.frozen? ⟨b, 3, none⟩ = false := hfree 3
  have z4 : w.frozen? ⟨b, 4, none⟩ = false := hfree 4
  have z5 : w.frozen? ⟨b, 5, none⟩ = false := hfree 5
  have z6 : w.frozen? ⟨b, 6, none⟩ = false := hfree 6
  have z7 : w.frozen? ⟨b, 7, none⟩ = false := hfree 7
  have z8 : w.frozen? ⟨b, 8, none⟩ = false := hfree 8
  have z9 : w.frozen? ⟨b, 9, none⟩ = false := hfree 9
  have z10 : w.frozen? ⟨b, 10, none⟩ = false := hfree 10
  by_cases hla : l.e0.latched = 0
  · have HLA0 : Hid (l.e0.latched = 0) := hla
    have hla0 : (l.e0.latched != 0) = false := by simpa using hla
    rw [hla] at c8
    clear hj hb hE hr hrd' K0 hfree hh hsb hsc hla
    have HSEE : Hid (LineP.see l ⟨4, i, 1, sess, number, on, code, data⟩ = ({ l with e0 := { l.e0 with since := 0, fresh := false } }, 0)) := by show _ = _; simp [LineP.see, LineP.end_, LineP.setEnd, HLA0.out]
    go_enter Try.func19, Try.ntmps19
    go_wp2
    go_quiet (fail)
    generalize nq = n0
    go_wp2
    go_quiet (fail)
    generalize nq = n1
    go_wp2
    go_ret
    rw [HSEE.out]
    try simp only [World.drewN_drewN]
    exact ⟨rfl, _, _, rfl, (((HR.out.fr (HK.out.drewN _)).set (x' := { l.e0 with since := 0 }) (h' := h) 7 _ (by omega) rfl).set (x' := { l.e0 with since := 0, fresh := false }) (h' := h) 9 _ (by omega) rfl), HH.out⟩
  · have HLA0 : Hid (l.e0.latched ≠ 0) := hla
    have hla0 : (l.e0.latched != 0) = true := by simpa using hla
    clear hj hb hE hr hrd' K0 hfree hh hsb hsc hla
    have HSEE : Hid (LineP.see l ⟨4, i, 1, sess, number, on, code, data⟩ = ({ l with e0 := { l.e0 with since := 0, fresh := true } }, 0)) := by show _ = _; simp [LineP.see, LineP.end_, LineP.setEnd, HLA0.out]
    go_enter Try.func19, Try.ntmps19
    go_wp2
    go_quiet (fail)
    generalize nq = n0
    go_wp2
    go_quiet (fail)
    generalize nq = n1
    go_wp2
    go_ret
    rw [HSEE.out]
    try simp only [World.drewN_drewN]
    exact ⟨rfl, _, _, rfl, (((HR.out.fr (HK.out.drewN _)).set (x' := { l.e0 with since := 0 }) (h' := h) 7 _ (by omega) rfl).set (x' := { l.e0 with since := 0, fresh := true }) (h' := h) 9 _ (by omega) rfl), HH.out⟩
set_option maxRecDepth 1000000 in
set_option maxHeartbeats 8000000 in
theorem rr_k4_s2 (O' : Nat → Prop) (j q qs b n i cap sc cc : Nat) (vst : Value) (st : JP) (f : FactP) (l : LineP) (h : Bool) (vf : Value) (cs : Array Value) (w : World) (hj : Blk w j (rCells (.slice (some ⟨q, 0, none⟩) n cap) (.slice (some ⟨qs, 0, none⟩) n sc) vst st) 48) (hqi : w.cell? ⟨q, i, none⟩ = some (.slice (some ⟨b, 0, none⟩) 2 cc)) (css : Array Value) (hsb : Blk w qs css 23) (hsc : css[i]? = some (.int .u32 l.session)) (hb : Blk w b cs 68) (hE : REndCs cs 11 l.e1 h) (hh : h = false → l.e1.value = []) (hf : Bs w O' vf f.data) (hi : i < n) (hc : f.conn = i) (hk : f.kind = 4) (hs : f.side = 2) :
    Calls Try.prog 19 #[.pointer (some ⟨j, 0, none⟩), factV f vf] w fun e w' => e = .returned (.int .i64 (l.see f).2) ∧ ∃ x' h', (l.see f).1 = { l with e1 := x' } ∧ REndTo w w' b cs 11 x' h' ∧ (h' = false → x'.value = []) := by
  obtain ⟨kind, conn, side, sess, number, on, code, data⟩ := f
  obtain ⟨a', cap', rfl, _, hrd'⟩ := hf
  dsimp only at hk hs hc hrd'
  subst hk hs hc
  have hsi : w.cell? ⟨qs, i, none⟩ = some (.int .u32 l.session) := by rw [hsb.cell]; exact hsc
  have HSB := Lib.hid hsb
  show Calls Try.prog 19 #[.pointer (some ⟨j, 0, none⟩), .agg #[.int .i64 4, .int .i64 i, .int .i64 2, .int .u32 sess, .int .u32 number, .bool on, .int .i64 code, .slice a' data.length cap']] w _
  have h3 : decide ((i : Int) < 0) = false := by simp
  have h5 : decide (n ≤ i) = false := by simp; omega
  have h1 : (0 : Int) ≤ i := by omega
  have h2 : (i : Int) < n := by omega
  have j0 : w.cell? ⟨j, 0, none⟩ = some (.slice (some ⟨q, 0, none⟩) n cap) := hj.cell 0
  have j1 : w.cell? ⟨j, 1, none⟩ = some (.slice (some ⟨qs, 0, none⟩) n sc) := hj.cell 1
  have j2 : w.cell? ⟨j, 2, none⟩ = some vst := hj.cell 2
  have hltj := hj.lt
  have hltb := hb.lt
  have hltq := lt_of_cell? hqi
  have hlts := lt_of_cell? hsi
  dsimp only at hltq hlts
  have hr := REndTo.refl hb hE
  have hfree := hb.free
  have HBJ := Lib.hid hj
  have HBB := Lib.hid hb
  have HEC := Lib.hid hE
  have HR := Lib.hid hr
  have HRD := Lib.hid hrd'
  have HH := Lib.hid hh
  have K0 : Fr No w (w.alloc (.cells #[.int .i64 4, .int .i64 i, .int .i64 2, .int .u32 sess, .int .u32 number, .bool on, .int .i64 code, .slice a' data.length cap'] 43)) := (Fr.refl No w).alloc _
  have HK := Lib.hid K0
  obtain ⟨c0, c1, c2, c3, c4, c5, c6, c7, c8, c9, c10⟩ := rend_cells hb hE
  simp only [Nat.zero_add, Nat.reduceAdd] at c0 c1 c2 c3 c4 c5 c6 c7 c8 c9 c10
  have z0 : w.frozen? ⟨b, 11, none⟩ = false := hfree 11
  have z1 : w.frozen? ⟨b, 12, none⟩ = false := hfree 12
  have z2 : w.frozen? ⟨b, 13, none⟩ = false := hfree 13
  have z3 : w.frozen? ⟨b, 14, none⟩ = false := hfree 14
  have z4 : w.frozen? ⟨b, 15, none⟩ = false := hfree 15
  have z5 : w.frozen? ⟨b, 16, none⟩ = false := hfree 16
  have z6 : w.frozen? ⟨b, 17, none⟩ = false := hfree 17
  have z7 : w.frozen? ⟨b, 18, none⟩ = false := hfree 18
  have z8 : w.frozen? ⟨b, 19, none⟩ = false := hfree 19
  have z9 : w.frozen? ⟨b, 20, none⟩ = false := hfree 20
  have z10 : w.frozen? ⟨b, 21, none⟩ = false := hfree 21
  by_cases hla : l.e1.latched = 0
  · have HLA0 : Hid (l.e1.latched = 0) := hla
    have hla0 : (l.e1.latched != 0) = false := by simpa using hla
    rw [hla] at c8
    clear hj hb hE hr hrd' K0 hfree hh hsb hsc hla
    have HSEE : Hid (LineP.see l ⟨4, i, 2, sess, number, on, code, data⟩ = ({ l with e1 := { l.e1 with since := 0, fresh := false } }, 0)) := by show _ = _; simp [LineP.see, LineP.end_, LineP.setEnd, HLA0.out]
    go_enter Try.func19, Try.ntmps19
    go_wp2
    go_quiet (fail)
    generalize nq = n0
    go_wp2
    go_quiet (fail)
    generalize nq = n1
    go_wp2
    go_ret
    rw [HSEE.out]
    try simp only [World.drewN_drewN]
    exact ⟨rfl, _, _, rfl, (((HR.out.fr (HK.out.drewN _)).set (x' := { l.e1 with since := 0 }) (h' := h) 7 _ (by omega) rfl).set (x' := { l.e1 with since := 0, fresh := false }) (h' := h) 9 _ (by omega) rfl), HH.out⟩
  · have HLA0 : Hid (l.e1.latched ≠ 0) := hla
    have hla0 : (l.e1.latched != 0) = true := by simpa using hla
    clear hj hb hE hr hrd' K0 hfree hh hsb hsc hla
    have HSEE : Hid (LineP.see l ⟨4, i, 2, sess, number, on, code, data⟩ = ({ l with e1 := { l.e1 with since := 0, fresh := true } }, 0)) := by show _ = _; simp [LineP.see, LineP.end_, LineP.setEnd, HLA0.out]
    go_enter Try.func19, Try.ntmps19
    go_wp2
    go_quiet (fail)
    generalize nq = n0
    go_wp2
    go_quiet (fail)
    generalize nq = n1
    go_wp2
    go_ret
    rw [HSEE.out]
    try simp only [World.drewN_drewN]
    exact ⟨rfl, _, _, rfl, (((HR.out.fr (HK.out.drewN _)).set (x' := { l.e1 with since := 0 }) (h' := h) 7 _ (by omega) rfl).set (x' := { l.e1 with since := 0, fresh := true }) (h' := h) 9 _ (by omega) rfl), HH.out⟩
set_option maxRecDepth 1000000 in
set_option maxHeartbeats 8000000 in
theorem rr_k6_s1 (O' : Nat → Prop) (j q qs b n i cap sc cc : Nat) (vst : Value) (st : JP) (f : FactP) (l : LineP) (h : Bool) (vf : Value) (cs : Array Value) (w : World) (hj : Blk w j (rCells (.slice (some ⟨q, 0, none⟩) n cap) (.slice (some ⟨qs, 0, none⟩) n sc) vst st) 48) (hqi : w.cell? ⟨q, i, none⟩ = some (.slice (some ⟨b, 0, none⟩) 2 cc)) (css : Array Value) (hsb : Blk w qs css 23) (hsc : css[i]? = some (.int .u32 l.session)) (hb : Blk w b cs 68) (hE : REndCs cs 0 l.e0 h) (hh : h = false → l.e0.value = []) (hf : Bs w O' vf f.data) (hi : i < n) (hc : f.conn = i) (hk : f.kind = 6) (hs : f.side = 1) :
    Calls Try.prog 19 #[.pointer (some ⟨j, 0, none⟩), factV f vf] w fun e w' => e = .returned (.int .i64 (l.see f).2) ∧ ∃ x' h', (l.see f).1 = { l with e0 := x' } ∧ REndTo w w' b cs 0 x' h' ∧ (h' = false → x'.value = []) := by
  obtain ⟨kind, conn, side, sess, number, on, code, data⟩ := f
  obtain ⟨a', cap', rfl, _, hrd'⟩ := hf
  dsimp only at hk hs hc hrd'
  subst hk hs hc
  have hsi : w.cell? ⟨qs, i, none⟩ = some (.int .u32 l.session) := by rw [hsb.cell]; exact hsc
  have HSB := Lib.hid hsb
  show Calls Try.prog 19 #[.pointer (some ⟨j, 0, none⟩), .agg #[.int .i64 6, .int .i64 i, .int .i64 1, .int .u32 sess, .int .u32 number, .bool on, .int .i64 code, .slice a' data.length cap']] w _
  have h3 : decide ((i : Int) < 0) = false := by simp
  have h5 : decide (n ≤ i) = false := by simp; omega
  have h1 : (0 : Int) ≤ i := by omega
  have h2 : (i : Int) < n := by omega
  have j0 : w.cell? ⟨j, 0, none⟩ = some (.slice (some ⟨q, 0, none⟩) n cap) := hj.cell 0
  have j1 : w.cell? ⟨j, 1, none⟩ = some (.slice (some ⟨qs, 0, none⟩) n sc) := hj.cell 1
  have j2 : w.cell? ⟨j, 2, none⟩ = some vst := hj.cell 2
  have hltj := hj.lt
  have hltb := hb.lt
  have hltq := lt_of_cell? hqi
  have hlts := lt_of_cell? hsi
  dsimp only at hltq hlts
  have hr := REndTo.refl hb hE
  have hfree := hb.free
  have HBJ := Lib.hid hj
  have HBB := Lib.hid hb
  have HEC := Lib.hid hE
  have HR := Lib.hid hr
  have HRD := Lib.hid hrd'
  have HH := Lib.hid hh
  have K0 : Fr No w (w.alloc (.cells #[.int .i64 6, .int .i64 i, .int .i64 1, .int .u32 sess, .int .u32 number, .bool on, .int .i64 code, .slice a' data.length cap'] 43)) := (Fr.refl No w).alloc _
  have HK := Lib.hid K0
  obtain ⟨c0, c1, c2, c3, c4, c5, c6, c7, c8, c9, c10⟩ := rend_cells hb hE
  simp only [Nat.zero_add, Nat.reduceAdd] at c0 c1 c2 c3 c4 c5 c6 c7 c8 c9 c10
  have z0 : w.frozen? ⟨b, 0, none⟩ = false := hfree 0
  have z1 : w.frozen? ⟨b, 1, none⟩ = false := hfree 1
  have z2 : w.frozen? ⟨b, 2, none⟩ = false := hfree 2
  have z3 : w.frozen? ⟨b, 3, none⟩ = false := hfree 3
  have z4 : w.frozen? ⟨b, 4, none⟩ = false := hfree 4
  have z5 : w.frozen? ⟨b, 5, none⟩ = false := hfree 5
  have z6 : w.frozen? ⟨b, 6, none⟩ = false := hfree 6
  have z7 : w.frozen? ⟨b, 7, none⟩ = false := hfree 7
  have z8 : w.frozen? ⟨b, 8, none⟩ = false := hfree 8
  have z9 : w.frozen? ⟨b, 9, none⟩ = false := hfree 9
  have z10 : w.frozen? ⟨b, 10, none⟩ = false := hfree 10
  rcases (Bool.eq_false_or_eq_true l.e0.fresh) with hF | hF
  · have HF : Hid (l.e0.fresh = true) := hF
    rw [hF] at c9
    clear hF
    clear hj hb hE hr hrd' K0 hfree hh hsb hsc
    have HSEE : Hid (LineP.see l ⟨6, i, 1, sess, number, on, code, data⟩ = ({ l with e0 := { l.e0 with acked := true } }, 0)) := by show _ = _; simp [LineP.see, LineP.end_, LineP.setEnd, HF.out]
    go_enter Try.func19, Try.ntmps19
    go_wp2
    go_quiet (fail)
    generalize nq = n0
    go_wp2
    go_quiet (fail)
    generalize nq = n1
    go_wp2
    go_ret
    rw [HSEE.out]
    try simp only [World.drewN_drewN]
    exact ⟨rfl, _, _, rfl, ((HR.out.fr (HK.out.drewN _)).set (x' := { l.e0 with acked := true }) (h' := h) 10 _ (by omega) rfl), HH.out⟩
  · have HF : Hid (l.e0.fresh = false) := hF
    rw [hF] at c9
    clear hF
    clear hj hb hE hr hrd' K0 hfree hh hsb hsc
    have HSEE : Hid (LineP.see l ⟨6, i, 1, sess, number, on, code, data⟩ = ({ l with e0 := { l.e0 with acked := l.e0.acked || l.e0.fresh } }, 0)) := by show _ = _; simp [LineP.see, LineP.end_, LineP.setEnd]
    have hor : (l.e0.acked || l.e0.fresh) = l.e0.acked := by rw [HF.out]; simp
    rw [hor] at HSEE
    clear hor
    go_enter Try.func19, Try.ntmps19
    go_wp2
    go_quiet (fail)
    generalize nq = n0
    go_wp2
    go_quiet (fail)
    generalize nq = n1
    go_wp2
    go_ret
    rw [HSEE.out]
    try simp only [World.drewN_drewN]
    exact ⟨rfl, _, _, rfl, (HR.out.fr (HK.out.drewN _)), HH.out⟩
set_option maxRecDepth 1000000 in
set_option maxHeartbeats 8000000 in
theorem rr_k6_s2 (O' : Nat → Prop) (j q qs b n i cap sc cc : Nat) (vst : Value) (st : JP) (f : FactP) (l : LineP) (h : Bool) (vf : Value) (cs : Array Value) (w : World) (hj : Blk w j (rCells (.slice (some ⟨q, 0, none⟩) n cap) (.slice (some ⟨qs, 0, none⟩) n sc) vst st) 48) (hqi : w.cell? ⟨q, i, none⟩ = some (.slice (some ⟨b, 0, none⟩) 2 cc)) (css : Array Value) (hsb : Blk w qs css 23) (hsc : css[i]? = some (.int .u32 l.session)) (hb : Blk w b cs 68) (hE : REndCs cs 11 l.e1 h) (hh : h = false → l.e1.value = []) (hf : Bs w O' vf f.data) (hi : i < n) (hc : f.conn = i) (hk : f.kind = 6) (hs : f.side = 2) :
    Calls Try.prog 19 #[.pointer (some ⟨j, 0, none⟩), factV f vf] w fun e w' => e = .returned (.int .i64 (l.see f).2) ∧ ∃ x' h', (l.see f).1 = { l with e1 := x' } ∧ REndTo w w' b cs 11 x' h' ∧ (h' = false → x'.value = []) := by
  obtain ⟨kind, conn, side, sess, number, on, code, data⟩ := f
  obtain ⟨a', cap', rfl, _, hrd'⟩ := hf
  dsimp only at hk hs hc hrd'
  subst hk hs hc
  have hsi : w.cell? ⟨qs, i, none⟩ = some (.int .u32 l.session) := by rw [hsb.cell]; exact hsc
  have HSB := Lib.hid hsb
  show Calls Try.prog 19 #[.pointer (some ⟨j, 0, none⟩), .agg #[.int .i64 6, .int .i64 i, .int .i64 2, .int .u32 sess, .int .u32 number, .bool on, .int .i64 code, .slice a' data.length cap']] w _
  have h3 : decide ((i : Int) < 0) = false := by simp
  have h5 : decide (n ≤ i) = false := by simp; omega
  have h1 : (0 : Int) ≤ i := by omega
  have h2 : (i : Int) < n := by omega
  have j0 : w.cell? ⟨j, 0, none⟩ = some (.slice (some ⟨q, 0, none⟩) n cap) := hj.cell 0
  have j1 : w.cell? ⟨j, 1, none⟩ = some (.slice (some ⟨qs, 0, none⟩) n sc) := hj.cell 1
  have j2 : w.cell? ⟨j, 2, none⟩ = some vst := hj.cell 2
  have hltj := hj.lt
  have hltb := hb.lt
  have hltq := lt_of_cell? hqi
  have hlts := lt_of_cell? hsi
  dsimp only at hltq hlts
  have hr := REndTo.refl hb hE
  have hfree := hb.free
  have HBJ := Lib.hid hj
  have HBB := Lib.hid hb
  have HEC := Lib.hid hE
  have HR := Lib.hid hr
  have HRD := Lib.hid hrd'
  have HH := Lib.hid hh
  have K0 : Fr No w (w.alloc (.cells #[.int .i64 6, .int .i64 i, .int .i64 2, .int .u32 sess, .int .u32 number, .bool on, .int .i64 code, .slice a' data.length cap'] 43)) := (Fr.refl No w).alloc _
  have HK := Lib.hid K0
  obtain ⟨c0, c1, c2, c3, c4, c5, c6, c7, c8, c9, c10⟩ := rend_cells hb hE
  simp only [Nat.zero_add, Nat.reduceAdd] at c0 c1 c2 c3 c4 c5 c6 c7 c8 c9 c10
  have z0 : w.frozen? ⟨b, 11, none⟩ = false := hfree 11
  have z1 : w.frozen? ⟨b, 12, none⟩ = false := hfree 12
  have z2 : w.frozen? ⟨b, 13, none⟩ = false := hfree 13
  have z3 : w.frozen? ⟨b, 14, none⟩ = false := hfree 14
  have z4 : w.frozen? ⟨b, 15, none⟩ = false := hfree 15
  have z5 : w.frozen? ⟨b, 16, none⟩ = false := hfree 16
  have z6 : w.frozen? ⟨b, 17, none⟩ = false := hfree 17
  have z7 : w.frozen? ⟨b, 18, none⟩ = false := hfree 18
  have z8 : w.frozen? ⟨b, 19, none⟩ = false := hfree 19
  have z9 : w.frozen? ⟨b, 20, none⟩ = false := hfree 20
  have z10 : w.frozen? ⟨b, 21, none⟩ = false := hfree 21
  rcases (Bool.eq_false_or_eq_true l.e1.fresh) with hF | hF
  · have HF : Hid (l.e1.fresh = true) := hF
    rw [hF] at c9
    clear hF
    clear hj hb hE hr hrd' K0 hfree hh hsb hsc
    have HSEE : Hid (LineP.see l ⟨6, i, 2, sess, number, on, code, data⟩ = ({ l with e1 := { l.e1 with acked := true } }, 0)) := by show _ = _; simp [LineP.see, LineP.end_, LineP.setEnd, HF.out]
    go_enter Try.func19, Try.ntmps19
    go_wp2
    go_quiet (fail)
    generalize nq = n0
    go_wp2
    go_quiet (fail)
    generalize nq = n1
    go_wp2
    go_ret
    rw [HSEE.out]
    try simp only [World.drewN_drewN]
    exact ⟨rfl, _, _, rfl, ((HR.out.fr (HK.out.drewN _)).set (x' := { l.e1 with acked := true }) (h' := h) 10 _ (by omega) rfl), HH.out⟩
  · have HF : Hid (l.e1.fresh = false) := hF
    rw [hF] at c9
    clear hF
    clear hj hb hE hr hrd' K0 hfree hh hsb hsc
    have HSEE : Hid (LineP.see l ⟨6, i, 2, sess, number, on, code, data⟩ = ({ l with e1 := { l.e1 with acked := l.e1.acked || l.e1.fresh } }, 0)) := by show _ = _; simp [LineP.see, LineP.end_, LineP.setEnd]
    have hor : (l.e1.acked || l.e1.fresh) = l.e1.acked := by rw [HF.out]; simp
    rw [hor] at HSEE
    clear hor
    go_enter Try.func19, Try.ntmps19
    go_wp2
    go_quiet (fail)
    generalize nq = n0
    go_wp2
    go_quiet (fail)
    generalize nq = n1
    go_wp2
    go_ret
    rw [HSEE.out]
    try simp only [World.drewN_drewN]
    exact ⟨rfl, _, _, rfl, (HR.out.fr (HK.out.drewN _)), HH.out⟩
set_option maxRecDepth 1000000 in
set_option maxHeartbeats 8000000 in
theorem rr_k7_s1 (O' : Nat → Prop) (j q qs b n i cap sc cc : Nat) (vst : Value) (st : JP) (f : FactP) (l : LineP) (h : Bool) (vf : Value) (cs : Array Value) (w : World) (hj : Blk w j (rCells (.slice (some ⟨q, 0, none⟩) n cap) (.slice (some ⟨qs, 0, none⟩) n sc) vst st) 48) (hqi : w.cell? ⟨q, i, none⟩ = some (.slice (some ⟨b, 0, none⟩) 2 cc)) (css : Array Value) (hsb : Blk w qs css 23) (hsc : css[i]? = some (.int .u32 l.session)) (hb : Blk w b cs 68) (hE : REndCs cs 0 l.e0 h) (hh : h = false → l.e0.value = []) (hf : Bs w O' vf f.data) (hi : i < n) (hc : f.conn = i) (hk : f.kind = 7) (hs : f.side = 1) :
    Calls Try.prog 19 #[.pointer (some ⟨j, 0, none⟩), factV f vf] w fun e w' => e = .returned (.int .i64 (l.see f).2) ∧ ∃ x' h', (l.see f).1 = { l with e0 := x' } ∧ REndTo w w' b cs 0 x' h' ∧ (h' = false → x'.value = []) := by
  obtain ⟨kind, conn, side, sess, number, on, code, data⟩ := f
  obtain ⟨a', cap', rfl, _, hrd'⟩ := hf
  dsimp only at hk hs hc hrd'
  subst hk hs hc
  have hsi : w.cell? ⟨qs, i, none⟩ = some (.int .u32 l.session) := by rw [hsb.cell]; exact hsc
  have HSB := Lib.hid hsb
  show Calls Try.prog 19 #[.pointer (some ⟨j, 0, none⟩), .agg #[.int .i64 7, .int .i64 i, .int .i64 1, .int .u32 sess, .int .u32 number, .bool on, .int .i64 code, .slice a' data.length cap']] w _
  have h3 : decide ((i : Int) < 0) = false := by simp
  have h5 : decide (n ≤ i) = false := by simp; omega
  have h1 : (0 : Int) ≤ i := by omega
  have h2 : (i : Int) < n := by omega
  have j0 : w.cell? ⟨j, 0, none⟩ = some (.slice (some ⟨q, 0, none⟩) n cap) := hj.cell 0
  have j1 : w.cell? ⟨j, 1, none⟩ = some (.slice (some ⟨qs, 0, none⟩) n sc) := hj.cell 1
  have j2 : w.cell? ⟨j, 2, none⟩ = some vst := hj.cell 2
  have hltj := hj.lt
  have hltb := hb.lt
  have hltq := lt_of_cell? hqi
  have hlts := lt_of_cell? hsi
  dsimp only at hltq hlts
  have hr := REndTo.refl hb hE
  have hfree := hb.free
  have HBJ := Lib.hid hj
  have HBB := Lib.hid hb
  have HEC := Lib.hid hE
  have HR := Lib.hid hr
  have HRD := Lib.hid hrd'
  have HH := Lib.hid hh
  have K0 : Fr No w (w.alloc (.cells #[.int .i64 7, .int .i64 i, .int .i64 1, .int .u32 sess, .int .u32 number, .bool on, .int .i64 code, .slice a' data.length cap'] 43)) := (Fr.refl No w).alloc _
  have HK := Lib.hid K0
  obtain ⟨c0, c1, c2, c3, c4, c5, c6, c7, c8, c9, c10⟩ := rend_cells hb hE
  simp only [Nat.zero_add, Nat.reduceAdd] at c0 c1 c2 c3 c4 c5 c6 c7 c8 c9 c10
  have z0 : w.frozen? ⟨b, 0, none⟩ = false := hfree 0
  have z1 : w.frozen? ⟨b, 1, none⟩ = false := hfree 1
  have z2 : w.frozen? ⟨b, 2, none⟩ = false := hfree 2
  have z3 : w.frozen? ⟨b, 3, none⟩ = false := hfree 3
  have z4 : w.frozen? ⟨b, 4, none⟩ = false := hfree 4
  have z5 : w.frozen? ⟨b, 5, none⟩ = false := hfree 5
  have z6 : w.frozen? ⟨b, 6, none⟩ = false := hfree 6
  have z7 : w.frozen? ⟨b, 7, none⟩ = false := hfree 7
  have z8 : w.frozen? ⟨b, 8, none⟩ = false := hfree 8
  have z9 : w.frozen? ⟨b, 9, none⟩ = false := hfree 9
  have z10 : w.frozen? ⟨b, 10, none⟩ = false := hfree 10
  have n1 : w.heap.size ≠ b := by omega
  have n2 : w.heap.size + 1 ≠ b := by omega
  have n3 : ¬ b = w.heap.size + 1 := by omega
  have n4 : ¬ b = w.heap.size := by omega
  clear hj hb hE hr hrd' K0 hfree hh hsb hsc
  have HSEE : Hid (LineP.see l ⟨7, i, 1, sess, number, on, code, data⟩ = ({ l with e0 := l.e0.anew false }, 0)) := by show _ = _; simp [LineP.see, LineP.end_, LineP.setEnd]
  go_enter Try.func19, Try.ntmps19
  go_wp2
  go_quiet (fail)
  generalize nq = n0
  go_wp2
  go_quiet (fail)
  generalize nq = n1
  go_wp2
  have hx : l.e0.anew false = { l.e0 with took := false, session := 0, number := 0, value := [], inn := 0, since := 0, latched := 0, fresh := false, acked := false } := by simp [EndP.anew]
  rw [hx] at HSEE
  clear hx
  go_ret
  rw [HSEE.out]
  try simp only [World.drewN_drewN]
  exact ⟨rfl, _, _, rfl, (((((((((((((HR.out.fr (HK.out.drewN _)).set (x' := l.e0) (h' := h) 0 _ (by omega) rfl).set (x' := { l.e0 with took := false }) (h' := h) 1 _ (by omega) rfl).set (x' := { l.e0 with took := false, session := 0 }) (h' := h) 2 _ (by omega) rfl).set (x' := { l.e0 with took := false, session := 0, number := 0 }) (h' := h) 3 _ (by omega) rfl).set (x' := { l.e0 with took := false, session := 0, number := 0 }) (h' := false) 4 _ (by omega) rfl).set (x' := { l.e0 with took := false, session := 0, number := 0, value := [] }) (h' := false) 5 _ (by omega) rfl).set (x' := { l.e0 with took := false, session := 0, number := 0, value := [], inn := 0 }) (h' := false) 6 _ (by omega) rfl).set (x' := { l.e0 with took := false, session := 0, number := 0, value := [], inn := 0, since := 0 }) (h' := false) 7 _ (by omega) rfl).set (x' := { l.e0 with took := false, session := 0, number := 0, value := [], inn := 0, since := 0, latched := 0 }) (h' := false) 8 _ (by omega) rfl).set (x' := { l.e0 with took := false, session := 0, number := 0, value := [], inn := 0, since := 0, latched := 0, fresh := false }) (h' := false) 9 _ (by omega) rfl).set (x' := { l.e0 with took := false, session := 0, number := 0, value := [], inn := 0, since := 0, latched := 0, fresh := false, acked := false }) (h' := false) 10 _ (by omega) rfl).alloc _), fun _ => rfl⟩
end Go.Proofs.Ytmggfdhlbjlpjaa
