/-
  DERIVED. The walk of the judge's rule. (Printed by rule.py.)
-/
import Derived.Test.YtmggfdhlbjlpjaaJdg
import Derived.Outline
import Derived.StillTailTactics
namespace Go.Proofs.Ytmggfdhlbjlpjaa
open Go.RowKit
set_option linter.unusedSimpArgs false
set_option linter.unusedVariables false

set_option maxRecDepth 1000000 in
set_option maxHeartbeats 8000000 in
theorem rule_k4_s1 (O O' : Nat → Prop) (j q cap n i mb : Nat) (f : FactP) (l : LineP) (vf : Value) (cs : Array Value) (w : World) (hj : w.cell? ⟨j, 0, none⟩ = some (.slice (some ⟨q, 0, none⟩) n cap)) (hb : Blk w q cs 64) (hl : LineAt w O cs (i * 22) mb l) (hf : Bs w O' vf f.data) (hi : i < n) (hc : f.conn = i) (hk : f.kind = 4) (hs : f.side = 1) :
    Calls Try.prog 18 #[.pointer (some ⟨j, 0, none⟩), factV f vf] w fun e w' => e = .returned (.int .i64 (l.see f).2) ∧ LineTo w w' O q cs (i * 22) mb (l.see f).1 := by
  obtain ⟨kind, conn, side, sess, number, on, code, data⟩ := f
  obtain ⟨a', cap', rfl, _, hrd'⟩ := hf
  dsimp only at hk hs hc hrd'
  subst hk hs hc
  show Calls Try.prog 18 #[.pointer (some ⟨j, 0, none⟩), .agg #[.int .i64 4, .int .i64 i, .int .i64 1, .int .u32 sess, .int .u32 number, .bool on, .int .i64 code, .slice a' data.length cap']] w _
  have h3 : decide ((i : Int) < 0) = false := by simp
  have h5 : decide (n ≤ i) = false := by simp; omega
  have h1 : (0 : Int) ≤ i := by omega
  have h2 : (i : Int) < n := by omega
  have hltj := lt_of_cell? hj
  have hlt := hb.lt
  dsimp only at hltj
  obtain ⟨v, hE, hV⟩ := hl.e0
  have HS : Hid (l.session = l.session) := rfl
  have hs20 : w.cell? ⟨q, i * 22 + 20, none⟩ = some (.int .u32 l.session) := by rw [hb.cell]; exact hl.s
  have hs21 : w.cell? ⟨q, i * 22 + 21, none⟩ = some (.map (some mb)) := by rw [hb.cell]; exact hl.m
  have hfree := hb.free
  have hr := EndTo.refl hb hE
  have HBL := Lib.hid hb
  have HLA := Lib.hid hl
  have HV := Lib.hid hV
  have HR := Lib.hid hr
  have HEC := Lib.hid hE
  have HRD := Lib.hid hrd'
  have K0 : Fr No w (w.alloc (.cells #[.int .i64 4, .int .i64 i, .int .i64 1, .int .u32 sess, .int .u32 number, .bool on, .int .i64 code, .slice a' data.length cap'] 43)) := (Fr.refl No w).alloc _
  have HK := Lib.hid K0
  obtain ⟨c0, c1, c2, c3, c4, c5, c6, c7, c8, c9⟩ := end_cells hb hE
  by_cases hla : l.e0.latched = 0
  · have HLA0 : Hid (l.e0.latched = 0) := hla
    have hla0 : (l.e0.latched != 0) = false := by simpa using hla
    have z6 := hfree (i * 22 + 6)
    have z8 := hfree (i * 22 + 8)
    clear hb hl hE hV hr hrd' K0 hfree hla
    have HSEE : Hid (LineP.see l ⟨4, i, 1, sess, number, on, code, data⟩ = ({ l with e0 := { l.e0 with since := 0, fresh := false } }, 0)) := by show _ = _; simp [LineP.see, LineP.end_, LineP.setEnd, HLA0.out]
    go_enter Try.func18, Try.ntmps18
    go_wp2
    go_quiet (fail)
    generalize nq = n0
    go_wp2
    go_quiet (fail)
    generalize nq = n1
    go_wp2
    go_quiet (fail)
    generalize nq = n2
    go_wp2
    go_ret
    rw [HSEE.out]
    refine ⟨rfl, ?_⟩
    exact LineTo.of0 HBL.out HLA.out HV.out (((HR.out.fr (HK.out.drewN _)).set (x' := { l.e0 with since := 0 }) 6 _ (by omega) rfl).set (x' := { l.e0 with since := 0, fresh := false }) 8 _ (by omega) rfl)
  · have HLA0 : Hid (l.e0.latched ≠ 0) := hla
    have hla0 : (l.e0.latched != 0) = true := by simpa using hla
    have z6 := hfree (i * 22 + 6)
    have z8 := hfree (i * 22 + 8)
    clear hb hl hE hV hr hrd' K0 hfree hla
    have HSEE : Hid (LineP.see l ⟨4, i, 1, sess, number, on, code, data⟩ = ({ l with e0 := { l.e0 with since := 0, fresh := true } }, 0)) := by show _ = _; simp [LineP.see, LineP.end_, LineP.setEnd, HLA0.out]
    go_enter Try.func18, Try.ntmps18
    go_wp2
    go_quiet (fail)
    generalize nq = n0
    go_wp2
    go_quiet (fail)
    generalize nq = n1
    go_wp2
    go_quiet (fail)
    generalize nq = n2
    go_wp2
    go_ret
    rw [HSEE.out]
    refine ⟨rfl, ?_⟩
    exact LineTo.of0 HBL.out HLA.out HV.out (((HR.out.fr (HK.out.drewN _)).set (x' := { l.e0 with since := 0 }) 6 _ (by omega) rfl).set (x' := { l.e0 with since := 0, fresh := true }) 8 _ (by omega) rfl)

set_option maxRecDepth 1000000 in
set_option maxHeartbeats 8000000 in
theorem rule_k4_s2 (O O' : Nat → Prop) (j q cap n i mb : Nat) (f : FactP) (l : LineP) (vf : Value) (cs : Array Value) (w : World) (hj : w.cell? ⟨j, 0, none⟩ = some (.slice (some ⟨q, 0, none⟩) n cap)) (hb : Blk w q cs 64) (hl : LineAt w O cs (i * 22) mb l) (hf : Bs w O' vf f.data) (hi : i < n) (hc : f.conn = i) (hk : f.kind = 4) (hs : f.side = 2) :
    Calls Try.prog 18 #[.pointer (some ⟨j, 0, none⟩), factV f vf] w fun e w' => e = .returned (.int .i64 (l.see f).2) ∧ LineTo w w' O q cs (i * 22) mb (l.see f).1 := by
  obtain ⟨kind, conn, side, sess, number, on, code, data⟩ := f
  obtain ⟨a', cap', rfl, _, hrd'⟩ := hf
  dsimp only at hk hs hc hrd'
  subst hk hs hc
  show Calls Try.prog 18 #[.pointer (some ⟨j, 0, none⟩), .agg #[.int .i64 4, .int .i64 i, .int .i64 2, .int .u32 sess, .int .u32 number, .bool on, .int .i64 code, .slice a' data.length cap']] w _
  have h3 : decide ((i : Int) < 0) = false := by simp
  have h5 : decide (n ≤ i) = false := by simp; omega
  have h1 : (0 : Int) ≤ i := by omega
  have h2 : (i : Int) < n := by omega
  have hltj := lt_of_cell? hj
  have hlt := hb.lt
  dsimp only at hltj
  obtain ⟨v, hE, hV⟩ := hl.e1
  have HS : Hid (l.session = l.session) := rfl
  have hs20 : w.cell? ⟨q, i * 22 + 20, none⟩ = some (.int .u32 l.session) := by rw [hb.cell]; exact hl.s
  have hs21 : w.cell? ⟨q, i * 22 + 21, none⟩ = some (.map (some mb)) := by rw [hb.cell]; exact hl.m
  have hfree := hb.free
  have hr := EndTo.refl hb hE
  have HBL := Lib.hid hb
  have HLA := Lib.hid hl
  have HV := Lib.hid hV
  have HR := Lib.hid hr
  have HEC := Lib.hid hE
  have HRD := Lib.hid hrd'
  have K0 : Fr No w (w.alloc (.cells #[.int .i64 4, .int .i64 i, .int .i64 2, .int .u32 sess, .int .u32 number, .bool on, .int .i64 code, .slice a' data.length cap'] 43)) := (Fr.refl No w).alloc _
  have HK := Lib.hid K0
  obtain ⟨c0, c1, c2, c3, c4, c5, c6, c7, c8, c9⟩ := end_cells hb hE
  simp only [Nat.add_assoc, Nat.reduceAdd] at c0 c1 c2 c3 c4 c5 c6 c7 c8 c9
  by_cases hla : l.e1.latched = 0
  · have HLA0 : Hid (l.e1.latched = 0) := hla
    have hla0 : (l.e1.latched != 0) = false := by simpa using hla
    have z6 := hfree (i * 22 + 16)
    have z8 := hfree (i * 22 + 18)
    clear hb hl hE hV hr hrd' K0 hfree hla
    have HSEE : Hid (LineP.see l ⟨4, i, 2, sess, number, on, code, data⟩ = ({ l with e1 := { l.e1 with since := 0, fresh := false } }, 0)) := by show _ = _; simp [LineP.see, LineP.end_, LineP.setEnd, HLA0.out]
    go_enter Try.func18, Try.ntmps18
    go_wp2
    go_quiet (fail)
    generalize nq = n0
    go_wp2
    go_quiet (fail)
    generalize nq = n1
    go_wp2
    go_quiet (fail)
    generalize nq = n2
    go_wp2
    go_ret
    rw [HSEE.out]
    refine ⟨rfl, ?_⟩
    exact LineTo.of1 HBL.out HLA.out HV.out (((HR.out.fr (HK.out.drewN _)).set (x' := { l.e1 with since := 0 }) 6 _ (by omega) rfl).set (x' := { l.e1 with since := 0, fresh := false }) 8 _ (by omega) rfl)
  · have HLA0 : Hid (l.e1.latched ≠ 0) := hla
    have hla0 : (l.e1.latched != 0) = true := by simpa using hla
    have z6 := hfree (i * 22 + 16)
    have z8 := hfree (i * 22 + 18)
    clear hb hl hE hV hr hrd' K0 hfree hla
    have HSEE : Hid (LineP.see l ⟨4, i, 2, sess, number, on, code, data⟩ = ({ l with e1 := { l.e1 with since := 0, fresh := true } }, 0)) := by show _ = _; simp [LineP.see, LineP.end_, LineP.setEnd, HLA0.out]
    go_enter Try.func18, Try.ntmps18
    go_wp2
    go_quiet (fail)
    generalize nq = n0
    go_wp2
    go_quiet (fail)
    generalize nq = n1
    go_wp2
    go_quiet (fail)
    generalize nq = n2
    go_wp2
    go_ret
    rw [HSEE.out]
    refine ⟨rfl, ?_⟩
    exact LineTo.of1 HBL.out HLA.out HV.out (((HR.out.fr (HK.out.drewN _)).set (x' := { l.e1 with since := 0 }) 6 _ (by omega) rfl).set (x' := { l.e1 with since := 0, fresh := true }) 8 _ (by omega) rfl)

set_option maxRecDepth 1000000 in
set_option maxHeartbeats 8000000 in
theorem rule_k5_s1 (O O' : Nat → Prop) (j q cap n i mb : Nat) (f : FactP) (l : LineP) (vf : Value) (cs : Array Value) (w : World) (hj : w.cell? ⟨j, 0, none⟩ = some (.slice (some ⟨q, 0, none⟩) n cap)) (hb : Blk w q cs 64) (hl : LineAt w O cs (i * 22) mb l) (hf : Bs w O' vf f.data) (hi : i < n) (hc : f.conn = i) (hk : f.kind = 5) (hs : f.side = 1) (N : Int) (hok : l.e0.Ok N) (hN : N ≤ 2000) (hnb : 0 ≤ f.number ∧ f.number ≤ 4294967295) :
    Calls Try.prog 18 #[.pointer (some ⟨j, 0, none⟩), factV f vf] w fun e w' => e = .returned (.int .i64 (l.see f).2) ∧ LineTo w w' O q cs (i * 22) mb (l.see f).1 := by
  obtain ⟨kind, conn, side, sess, number, on, code, data⟩ := f
  obtain ⟨a', cap', rfl, _, hrd'⟩ := hf
  dsimp only at hk hs hc hrd'
  dsimp only at hnb
  subst hk hs hc
  show Calls Try.prog 18 #[.pointer (some ⟨j, 0, none⟩), .agg #[.int .i64 5, .int .i64 i, .int .i64 1, .int .u32 sess, .int .u32 number, .bool on, .int .i64 code, .slice a' data.length cap']] w _
  have h3 : decide ((i : Int) < 0) = false := by simp
  have h5 : decide (n ≤ i) = false := by simp; omega
  have h1 : (0 : Int) ≤ i := by omega
  have h2 : (i : Int) < n := by omega
  have hltj := lt_of_cell? hj
  have hlt := hb.lt
  dsimp only at hltj
  obtain ⟨v, hE, hV⟩ := hl.e0
  have HS : Hid (l.session = l.session) := rfl
  have hs20 : w.cell? ⟨q, i * 22 + 20, none⟩ = some (.int .u32 l.session) := by rw [hb.cell]; exact hl.s
  have hs21 : w.cell? ⟨q, i * 22 + 21, none⟩ = some (.map (some mb)) := by rw [hb.cell]; exact hl.m
  have hfree := hb.free
  have hr := EndTo.refl hb hE
  have HBL := Lib.hid hb
  have HLA := Lib.hid hl
  have HV := Lib.hid hV
  have HR := Lib.hid hr
  have HEC := Lib.hid hE
  have HRD := Lib.hid hrd'
  have K0 : Fr No w (w.alloc (.cells #[.int .i64 5, .int .i64 i, .int .i64 1, .int .u32 sess, .int .u32 number, .bool on, .int .i64 code, .slice a' data.length cap'] 43)) := (Fr.refl No w).alloc _
  have HK := Lib.hid K0
  obtain ⟨c0, c1, c2, c3, c4, c5, c6, c7, c8, c9⟩ := end_cells hb hE
  have HCA := Lib.hid (fun W (kk : Fr No w W) => tick_any q (i * 22) l.e0 v cs number N W (kk.blk hb id) hE hok hN hnb)
  have hw : IntKind.i64.wrap number = number := IntWalk.i64_in _ (by omega)
  clear hb hl hE hV hr hrd' K0 hfree hok hnb
  have HSEE : Hid (LineP.see l ⟨5, i, 1, sess, number, on, code, data⟩ = ({ l with e0 := l.e0.tick number }, 0)) := by show _ = _; simp [LineP.see, LineP.end_, LineP.setEnd]
  go_enter Try.func18, Try.ntmps18
  go_wp2
  go_quiet (fail)
  generalize nq = n0
  go_wp2
  go_quiet (fail)
  generalize nq = n1
  go_wp2
  go_quiet (fail)
  generalize nq = n2
  go_wp2_with (go_at_call 22; refine (HCA.out _ (HK.out.drewN _)).mono ?_; rintro e w' ⟨rfl, ht⟩)
  go_ret
  rw [HSEE.out]
  refine ⟨rfl, ?_⟩
  exact LineTo.of0 HBL.out HLA.out HV.out (ht.ahead (HK.out.drewN _))

set_option maxRecDepth 1000000 in
set_option maxHeartbeats 8000000 in
theorem rule_k5_s2 (O O' : Nat → Prop) (j q cap n i mb : Nat) (f : FactP) (l : LineP) (vf : Value) (cs : Array Value) (w : World) (hj : w.cell? ⟨j, 0, none⟩ = some (.slice (some ⟨q, 0, none⟩) n cap)) (hb : Blk w q cs 64) (hl : LineAt w O cs (i * 22) mb l) (hf : Bs w O' vf f.data) (hi : i < n) (hc : f.conn = i) (hk : f.kind = 5) (hs : f.side = 2) (N : Int) (hok : l.e1.Ok N) (hN : N ≤ 2000) (hnb : 0 ≤ f.number ∧ f.number ≤ 4294967295) :
    Calls Try.prog 18 #[.pointer (some ⟨j, 0, none⟩), factV f vf] w fun e w' => e = .returned (.int .i64 (l.see f).2) ∧ LineTo w w' O q cs (i * 22) mb (l.see f).1 := by
  obtain ⟨kind, conn, side, sess, number, on, code, data⟩ := f
  obtain ⟨a', cap', rfl, _, hrd'⟩ := hf
  dsimp only at hk hs hc hrd'
  dsimp only at hnb
  subst hk hs hc
  show Calls Try.prog 18 #[.pointer (some ⟨j, 0, none⟩), .agg #[.int .i64 5, .int .i64 i, .int .i64 2, .int .u32 sess, .int .u32 number, .bool on, .int .i64 code, .slice a' data.length cap']] w _
  have h3 : decide ((i : Int) < 0) = false := by simp
  have h5 : decide (n ≤ i) = false := by simp; omega
  have h1 : (0 : Int) ≤ i := by omega
  have h2 : (i : Int) < n := by omega
  have hltj := lt_of_cell? hj
  have hlt := hb.lt
  dsimp only at hltj
  obtain ⟨v, hE, hV⟩ := hl.e1
  have HS : Hid (l.session = l.session) := rfl
  have hs20 : w.cell? ⟨q, i * 22 + 20, none⟩ = some (.int .u32 l.session) := by rw [hb.cell]; exact hl.s
  have hs21 : w.cell? ⟨q, i * 22 + 21, none⟩ = some (.map (some mb)) := by rw [hb.cell]; exact hl.m
  have hfree := hb.free
  have hr := EndTo.refl hb hE
  have HBL := Lib.hid hb
  have HLA := Lib.hid hl
  have HV := Lib.hid hV
  have HR := Lib.hid hr
  have HEC := Lib.hid hE
  have HRD := Lib.hid hrd'
  have K0 : Fr No w (w.alloc (.cells #[.int .i64 5, .int .i64 i, .int .i64 2, .int .u32 sess, .int .u32 number, .bool on, .int .i64 code, .slice a' data.length cap'] 43)) := (Fr.refl No w).alloc _
  have HK := Lib.hid K0
  obtain ⟨c0, c1, c2, c3, c4, c5, c6, c7, c8, c9⟩ := end_cells hb hE
  simp only [Nat.add_assoc, Nat.reduceAdd] at c0 c1 c2 c3 c4 c5 c6 c7 c8 c9
  have HCA := Lib.hid (fun W (kk : Fr No w W) => tick_any q (i * 22 + 10) l.e1 v cs number N W (kk.blk hb id) hE hok hN hnb)
  have hw : IntKind.i64.wrap number = number := IntWalk.i64_in _ (by omega)
  clear hb hl hE hV hr hrd' K0 hfree hok hnb
  have HSEE : Hid (LineP.see l ⟨5, i, 2, sess, number, on, code, data⟩ = ({ l with e1 := l.e1.tick number }, 0)) := by show _ = _; simp [LineP.see, LineP.end_, LineP.setEnd]
  go_enter Try.func18, Try.ntmps18
  go_wp2
  go_quiet (fail)
  generalize nq = n0
  go_wp2
  go_quiet (fail)
  generalize nq = n1
  go_wp2
  go_quiet (fail)
  generalize nq = n2
  go_wp2_with (go_at_call 22; refine (HCA.out _ (HK.out.drewN _)).mono ?_; rintro e w' ⟨rfl, ht⟩)
  go_ret
  rw [HSEE.out]
  refine ⟨rfl, ?_⟩
  exact LineTo.of1 HBL.out HLA.out HV.out (ht.ahead (HK.out.drewN _))

set_option maxRecDepth 1000000 in
set_option maxHeartbeats 8000000 in
theorem rule_k6_s1 (O O' : Nat → Prop) (j q cap n i mb : Nat) (f : FactP) (l : LineP) (vf : Value) (cs : Array Value) (w : World) (hj : w.cell? ⟨j, 0, none⟩ = some (.slice (some ⟨q, 0, none⟩) n cap)) (hb : Blk w q cs 64) (hl : LineAt w O cs (i * 22) mb l) (hf : Bs w O' vf f.data) (hi : i < n) (hc : f.conn = i) (hk : f.kind = 6) (hs : f.side = 1) :
    Calls Try.prog 18 #[.pointer (some ⟨j, 0, none⟩), factV f vf] w fun e w' => e = .returned (.int .i64 (l.see f).2) ∧ LineTo w w' O q cs (i * 22) mb (l.see f).1 := by
  obtain ⟨kind, conn, side, sess, number, on, code, data⟩ := f
  obtain ⟨a', cap', rfl, _, hrd'⟩ := hf
  dsimp only at hk hs hc hrd'
  subst hk hs hc
  show Calls Try.prog 18 #[.pointer (some ⟨j, 0, none⟩), .agg #[.int .i64 6, .int .i64 i, .int .i64 1, .int .u32 sess, .int .u32 number, .bool on, .int .i64 code, .slice a' data.length cap']] w _
  have h3 : decide ((i : Int) < 0) = false := by simp
  have h5 : decide (n ≤ i) = false := by simp; omega
  have h1 : (0 : Int) ≤ i := by omega
  have h2 : (i : Int) < n := by omega
  have hltj := lt_of_cell? hj
  have hlt := hb.lt
  dsimp only at hltj
  obtain ⟨v, hE, hV⟩ := hl.e0
  have HS : Hid (l.session = l.session) := rfl
  have hs20 : w.cell? ⟨q, i * 22 + 20, none⟩ = some (.int .u32 l.session) := by rw [hb.cell]; exact hl.s
  have hs21 : w.cell? ⟨q, i * 22 + 21, none⟩ = some (.map (some mb)) := by rw [hb.cell]; exact hl.m
  have hfree := hb.free
  have hr := EndTo.refl hb hE
  have HBL := Lib.hid hb
  have HLA := Lib.hid hl
  have HV := Lib.hid hV
  have HR := Lib.hid hr
  have HEC := Lib.hid hE
  have HRD := Lib.hid hrd'
  have K0 : Fr No w (w.alloc (.cells #[.int .i64 6, .int .i64 i, .int .i64 1, .int .u32 sess, .int .u32 number, .bool on, .int .i64 code, .slice a' data.length cap'] 43)) := (Fr.refl No w).alloc _
  have HK := Lib.hid K0
  obtain ⟨c0, c1, c2, c3, c4, c5, c6, c7, c8, c9⟩ := end_cells hb hE
  rcases (Bool.eq_false_or_eq_true l.e0.acked) with hA | hA
  · have HA : Hid (l.e0.acked = true) := hA
    rw [hA] at c9
    clear hA
    have z9 := hfree (i * 22 + 9)
    clear hb hl hE hV hr hrd' K0 hfree
    have HSEE : Hid (LineP.see l ⟨6, i, 1, sess, number, on, code, data⟩ = ({ l with e0 := { l.e0 with acked := true } }, 0)) := by show _ = _; simp [LineP.see, LineP.end_, LineP.setEnd, HA.out]
    go_enter Try.func18, Try.ntmps18
    go_wp2
    go_quiet (fail)
    generalize nq = n0
    go_wp2
    go_quiet (fail)
    generalize nq = n1
    go_wp2
    go_quiet (fail)
    generalize nq = n2
    go_wp2
    go_ret
    rw [HSEE.out]
    refine ⟨rfl, ?_⟩
    exact LineTo.of0 HBL.out HLA.out HV.out ((HR.out.fr (HK.out.drewN _)).set (x' := { l.e0 with acked := true }) 9 _ (by omega) rfl)
  · have HA : Hid (l.e0.acked = false) := hA
    rw [hA] at c9
    clear hA
    rcases (Bool.eq_false_or_eq_true l.e0.fresh) with hF | hF
    · have HF : Hid (l.e0.fresh = true) := hF
      rw [hF] at c8
      clear hF
      have z9 := hfree (i * 22 + 9)
      clear hb hl hE hV hr hrd' K0 hfree
      have HSEE : Hid (LineP.see l ⟨6, i, 1, sess, number, on, code, data⟩ = ({ l with e0 := { l.e0 with acked := true } }, 0)) := by show _ = _; simp [LineP.see, LineP.end_, LineP.setEnd, HA.out, HF.out]
      go_enter Try.func18, Try.ntmps18
      go_wp2
      go_quiet (fail)
      generalize nq = n0
      go_wp2
      go_quiet (fail)
      generalize nq = n1
      go_wp2
      go_quiet (fail)
      generalize nq = n2
      go_wp2
      go_ret
      rw [HSEE.out]
      refine ⟨rfl, ?_⟩
      exact LineTo.of0 HBL.out HLA.out HV.out ((HR.out.fr (HK.out.drewN _)).set (x' := { l.e0 with acked := true }) 9 _ (by omega) rfl)
    · have HF : Hid (l.e0.fresh = false) := hF
      rw [hF] at c8
      clear hF
      have z9 := hfree (i * 22 + 9)
      clear hb hl hE hV hr hrd' K0 hfree
      have HSEE : Hid (LineP.see l ⟨6, i, 1, sess, number, on, code, data⟩ = ({ l with e0 := { l.e0 with acked := false } }, 0)) := by show _ = _; simp [LineP.see, LineP.end_, LineP.setEnd, HA.out, HF.out]
      go_enter Try.func18, Try.ntmps18
      go_wp2
      go_quiet (fail)
      generalize nq = n0
      go_wp2
      go_quiet (fail)
      generalize nq = n1
      go_wp2
      go_quiet (fail)
      generalize nq = n2
      go_wp2
      go_ret
      rw [HSEE.out]
      refine ⟨rfl, ?_⟩
      exact LineTo.of0 HBL.out HLA.out HV.out ((HR.out.fr (HK.out.drewN _)).set (x' := { l.e0 with acked := false }) 9 _ (by omega) rfl)

set_option maxRecDepth 1000000 in
set_option maxHeartbeats 8000000 in
theorem rule_k6_s2 (O O' : Nat → Prop) (j q cap n i mb : Nat) (f : FactP) (l : LineP) (vf : Value) (cs : Array Value) (w : World) (hj : w.cell? ⟨j, 0, none⟩ = some (.slice (some ⟨q, 0, none⟩) n cap)) (hb : Blk w q cs 64) (hl : LineAt w O cs (i * 22) mb l) (hf : Bs w O' vf f.data) (hi : i < n) (hc : f.conn = i) (hk : f.kind = 6) (hs : f.side = 2) :
    Calls Try.prog 18 #[.pointer (some ⟨j, 0, none⟩), factV f vf] w fun e w' => e = .returned (.int .i64 (l.see f).2) ∧ LineTo w w' O q cs (i * 22) mb (l.see f).1 := by
  obtain ⟨kind, conn, side, sess, number, on, code, data⟩ := f
  obtain ⟨a', cap', rfl, _, hrd'⟩ := hf
  dsimp only at hk hs hc hrd'
  subst hk hs hc
  show Calls Try.prog 18 #[.pointer (some ⟨j, 0, none⟩), .agg #[.int .i64 6, .int .i64 i, .int .i64 2, .int .u32 sess, .int .u32 number, .bool on, .int .i64 code, .slice a' data.length cap']] w _
  have h3 : decide ((i : Int) < 0) = false := by simp
  have h5 : decide (n ≤ i) = false := by simp; omega
  have h1 : (0 : Int) ≤ i := by omega
  have h2 : (i : Int) < n := by omega
  have hltj := lt_of_cell? hj
  have hlt := hb.lt
  dsimp only at hltj
  obtain ⟨v, hE, hV⟩ := hl.e1
  have HS : Hid (l.session = l.session) := rfl
  have hs20 : w.cell? ⟨q, i * 22 + 20, none⟩ = some (.int .u32 l.session) := by rw [hb.cell]; exact hl.s
  have hs21 : w.cell? ⟨q, i * 22 + 21, none⟩ = some (.map (some mb)) := by rw [hb.cell]; exact hl.m
  have hfree := hb.free
  have hr := EndTo.refl hb hE
  have HBL := Lib.hid hb
  have HLA := Lib.hid hl
  have HV := Lib.hid hV
  have HR := Lib.hid hr
  have HEC := Lib.hid hE
  have HRD := Lib.hid hrd'
  have K0 : Fr No w (w.alloc (.cells #[.int .i64 6, .int .i64 i, .int .i64 2, .int .u32 sess, .int .u32 number, .bool on, .int .i64 code, .slice a' data.length cap'] 43)) := (Fr.refl No w).alloc _
  have HK := Lib.hid K0
  obtain ⟨c0, c1, c2, c3, c4, c5, c6, c7, c8, c9⟩ := end_cells hb hE
  simp only [Nat.add_assoc, Nat.reduceAdd] at c0 c1 c2 c3 c4 c5 c6 c7 c8 c9
  rcases (Bool.eq_false_or_eq_true l.e1.acked) with hA | hA
  · have HA : Hid (l.e1.acked = true) := hA
    rw [hA] at c9
    clear hA
    have z9 := hfree (i * 22 + 19)
    clear hb hl hE hV hr hrd' K0 hfree
    have HSEE : Hid (LineP.see l ⟨6, i, 2, sess, number, on, code, data⟩ = ({ l with e1 := { l.e1 with acked := true } }, 0)) := by show _ = _; simp [LineP.see, LineP.end_, LineP.setEnd, HA.out]
    go_enter Try.func18, Try.ntmps18
    go_wp2
    go_quiet (fail)
    generalize nq = n0
    go_wp2
    go_quiet (fail)
    generalize nq = n1
    go_wp2
    go_quiet (fail)
    generalize nq = n2
    go_wp2
    go_ret
    rw [HSEE.out]
    refine ⟨rfl, ?_⟩
    exact LineTo.of1 HBL.out HLA.out HV.out ((HR.out.fr (HK.out.drewN _)).set (x' := { l.e1 with acked := true }) 9 _ (by omega) rfl)
  · have HA : Hid (l.e1.acked = false) := hA
    rw [hA] at c9
    clear hA
    rcases (Bool.eq_false_or_eq_true l.e1.fresh) with hF | hF
    · have HF : Hid (l.e1.fresh = true) := hF
      rw [hF] at c8
      clear hF
      have z9 := hfree (i * 22 + 19)
      clear hb hl hE hV hr hrd' K0 hfree
      have HSEE : Hid (LineP.see l ⟨6, i, 2, sess, number, on, code, data⟩ = ({ l with e1 := { l.e1 with acked := true } }, 0)) := by show _ = _; simp [LineP.see, LineP.end_, LineP.setEnd, HA.out, HF.out]
      go_enter Try.func18, Try.ntmps18
      go_wp2
      go_quiet (fail)
      generalize nq = n0
      go_wp2
      go_quiet (fail)
      generalize nq = n1
      go_wp2
      go_quiet (fail)
      generalize nq = n2
      go_wp2
      go_ret
      rw [HSEE.out]
      refine ⟨rfl, ?_⟩
      exact LineTo.of1 HBL.out HLA.out HV.out ((HR.out.fr (HK.out.drewN _)).set (x' := { l.e1 with acked := true }) 9 _ (by omega) rfl)
    · have HF : Hid (l.e1.fresh = false) := hF
      rw [hF] at c8
      clear hF
      have z9 := hfree (i * 22 + 19)
      clear hb hl hE hV hr hrd' K0 hfree
      have HSEE : Hid (LineP.see l ⟨6, i, 2, sess, number, on, code, data⟩ = ({ l with e1 := { l.e1 with acked := false } }, 0)) := by show _ = _; simp [LineP.see, LineP.end_, LineP.setEnd, HA.out, HF.out]
      go_enter Try.func18, Try.ntmps18
      go_wp2
      go_quiet (fail)
      generalize nq = n0
      go_wp2
      go_quiet (fail)
      generalize nq = n1
      go_wp2
      go_quiet (fail)
      generalize nq = n2
      go_wp2
      go_ret
      rw [HSEE.out]
      refine ⟨rfl, ?_⟩
      exact LineTo.of1 HBL.out HLA.out HV.out ((HR.out.fr (HK.out.drewN _)).set (x' := { l.e1 with acked := false }) 9 _ (by omega) rfl)

set_option maxRecDepth 1000000 in
set_option maxHeartbeats 8000000 in
theorem rule_k7_s1 (O O' : Nat → Prop) (j q cap n i mb : Nat) (f : FactP) (l : LineP) (vf : Value) (cs : Array Value) (w : World) (hj : w.cell? ⟨j, 0, none⟩ = some (.slice (some ⟨q, 0, none⟩) n cap)) (hb : Blk w q cs 64) (hl : LineAt w O cs (i * 22) mb l) (hf : Bs w O' vf f.data) (hi : i < n) (hc : f.conn = i) (hk : f.kind = 7) (hs : f.side = 1) :
    Calls Try.prog 18 #[.pointer (some ⟨j, 0, none⟩), factV f vf] w fun e w' => e = .returned (.int .i64 (l.see f).2) ∧ LineTo w w' O q cs (i * 22) mb (l.see f).1 := by
  obtain ⟨kind, conn, side, sess, number, on, code, data⟩ := f
  obtain ⟨a', cap', rfl, _, hrd'⟩ := hf
  dsimp only at hk hs hc hrd'
  subst hk hs hc
  show Calls Try.prog 18 #[.pointer (some ⟨j, 0, none⟩), .agg #[.int .i64 7, .int .i64 i, .int .i64 1, .int .u32 sess, .int .u32 number, .bool on, .int .i64 code, .slice a' data.length cap']] w _
  have h3 : decide ((i : Int) < 0) = false := by simp
  have h5 : decide (n ≤ i) = false := by simp; omega
  have h1 : (0 : Int) ≤ i := by omega
  have h2 : (i : Int) < n := by omega
  have hltj := lt_of_cell? hj
  have hlt := hb.lt
  dsimp only at hltj
  obtain ⟨v, hE, hV⟩ := hl.e0
  have HS : Hid (l.session = l.session) := rfl
  have hs20 : w.cell? ⟨q, i * 22 + 20, none⟩ = some (.int .u32 l.session) := by rw [hb.cell]; exact hl.s
  have hs21 : w.cell? ⟨q, i * 22 + 21, none⟩ = some (.map (some mb)) := by rw [hb.cell]; exact hl.m
  have hfree := hb.free
  have hr := EndTo.refl hb hE
  have HBL := Lib.hid hb
  have HLA := Lib.hid hl
  have HV := Lib.hid hV
  have HR := Lib.hid hr
  have HEC := Lib.hid hE
  have HRD := Lib.hid hrd'
  have K0 : Fr No w (w.alloc (.cells #[.int .i64 7, .int .i64 i, .int .i64 1, .int .u32 sess, .int .u32 number, .bool on, .int .i64 code, .slice a' data.length cap'] 43)) := (Fr.refl No w).alloc _
  have HK := Lib.hid K0
  obtain ⟨c0, c1, c2, c3, c4, c5, c6, c7, c8, c9⟩ := end_cells hb hE
  have HCA := Lib.hid (fun W (kk : Fr No w W) => anew_any q (i * 22) l.e0 v cs 1 W (kk.blk hb id) hE)
  clear hb hl hE hV hr hrd' K0 hfree
  have HSEE : Hid (LineP.see l ⟨7, i, 1, sess, number, on, code, data⟩ = ({ l with e0 := l.e0.anew false }, 0)) := by show _ = _; simp [LineP.see, LineP.end_, LineP.setEnd]
  go_enter Try.func18, Try.ntmps18
  go_wp2
  go_quiet (fail)
  generalize nq = n0
  go_wp2
  go_quiet (fail)
  generalize nq = n1
  go_wp2
  go_quiet (fail)
  generalize nq = n2
  go_wp2_with (go_at_call 23; refine (HCA.out _ (HK.out.drewN _)).mono ?_; rintro e w' ⟨rfl, ht⟩; obtain ⟨W9, hst, hto⟩ := store_end (ht.blk ((HK.out.drewN _).blk HBL.out id) id) HEC.out (l.e0.anew false) none 0 0)
  go_ret
  rw [HSEE.out]
  refine ⟨rfl, ?_⟩
  exact LineTo.of0 HBL.out HLA.out (Ob.nil _ _) (hto.ahead ((HK.out.drewN _).trans ht))

set_option maxRecDepth 1000000 in
set_option maxHeartbeats 8000000 in
theorem rule_k7_s2 (O O' : Nat → Prop) (j q cap n i mb : Nat) (f : FactP) (l : LineP) (vf : Value) (cs : Array Value) (w : World) (hj : w.cell? ⟨j, 0, none⟩ = some (.slice (some ⟨q, 0, none⟩) n cap)) (hb : Blk w q cs 64) (hl : LineAt w O cs (i * 22) mb l) (hf : Bs w O' vf f.data) (hi : i < n) (hc : f.conn = i) (hk : f.kind = 7) (hs : f.side = 2) :
    Calls Try.prog 18 #[.pointer (some ⟨j, 0, none⟩), factV f vf] w fun e w' => e = .returned (.int .i64 (l.see f).2) ∧ LineTo w w' O q cs (i * 22) mb (l.see f).1 := by
  obtain ⟨kind, conn, side, sess, number, on, code, data⟩ := f
  obtain ⟨a', cap', rfl, _, hrd'⟩ := hf
  dsimp only at hk hs hc hrd'
  subst hk hs hc
  show Calls Try.prog 18 #[.pointer (some ⟨j, 0, none⟩), .agg #[.int .i64 7, .int .i64 i, .int .i64 2, .int .u32 sess, .int .u32 number, .bool on, .int .i64 code, .slice a' data.length cap']] w _
  have h3 : decide ((i : Int) < 0) = false := by simp
  have h5 : decide (n ≤ i) = false := by simp; omega
  have h1 : (0 : Int) ≤ i := by omega
  have h2 : (i : Int) < n := by omega
  have hltj := lt_of_cell? hj
  have hlt := hb.lt
  dsimp only at hltj
  obtain ⟨v, hE, hV⟩ := hl.e1
  have HS : Hid (l.session = l.session) := rfl
  have hs20 : w.cell? ⟨q, i * 22 + 20, none⟩ = some (.int .u32 l.session) := by rw [hb.cell]; exact hl.s
  have hs21 : w.cell? ⟨q, i * 22 + 21, none⟩ = some (.map (some mb)) := by rw [hb.cell]; exact hl.m
  have hfree := hb.free
  have hr := EndTo.refl hb hE
  have HBL := Lib.hid hb
  have HLA := Lib.hid hl
  have HV := Lib.hid hV
  have HR := Lib.hid hr
  have HEC := Lib.hid hE
  have HRD := Lib.hid hrd'
  have K0 : Fr No w (w.alloc (.cells #[.int .i64 7, .int .i64 i, .int .i64 2, .int .u32 sess, .int .u32 number, .bool on, .int .i64 code, .slice a' data.length cap'] 43)) := (Fr.refl No w).alloc _
  have HK := Lib.hid K0
  obtain ⟨c0, c1, c2, c3, c4, c5, c6, c7, c8, c9⟩ := end_cells hb hE
  simp only [Nat.add_assoc, Nat.reduceAdd] at c0 c1 c2 c3 c4 c5 c6 c7 c8 c9
  have HCA := Lib.hid (fun W (kk : Fr No w W) => anew_any q (i * 22 + 10) l.e1 v cs 2 W (kk.blk hb id) hE)
  clear hb hl hE hV hr hrd' K0 hfree
  have HSEE : Hid (LineP.see l ⟨7, i, 2, sess, number, on, code, data⟩ = ({ l with e1 := l.e1.anew true }, 0)) := by show _ = _; simp [LineP.see, LineP.end_, LineP.setEnd]
  go_enter Try.func18, Try.ntmps18
  go_wp2
  go_quiet (fail)
  generalize nq = n0
  go_wp2
  go_quiet (fail)
  generalize nq = n1
  go_wp2
  go_quiet (fail)
  generalize nq = n2
  go_wp2_with (go_at_call 23; refine (HCA.out _ (HK.out.drewN _)).mono ?_; rintro e w' ⟨rfl, ht⟩; obtain ⟨W9, hst, hto⟩ := store_end (ht.blk ((HK.out.drewN _).blk HBL.out id) id) HEC.out (l.e1.anew true) none 0 0)
  go_ret
  rw [HSEE.out]
  refine ⟨rfl, ?_⟩
  exact LineTo.of1 HBL.out HLA.out (Ob.nil _ _) (hto.ahead ((HK.out.drewN _).trans ht))

set_option maxRecDepth 1000000 in
set_option maxHeartbeats 8000000 in
theorem rule_k8_s1 (O O' : Nat → Prop) (j q cap n i mb : Nat) (f : FactP) (l : LineP) (vf : Value) (cs : Array Value) (w : World) (hj : w.cell? ⟨j, 0, none⟩ = some (.slice (some ⟨q, 0, none⟩) n cap)) (hb : Blk w q cs 64) (hl : LineAt w O cs (i * 22) mb l) (hf : Bs w O' vf f.data) (hi : i < n) (hc : f.conn = i) (hk : f.kind = 8) (hs : f.side = 1) (hlen : l.e0.value.length ≤ 140737488351232) (hlen' : f.data.length ≤ 140737488351232) :
    Calls Try.prog 18 #[.pointer (some ⟨j, 0, none⟩), factV f vf] w fun e w' => e = .returned (.int .i64 (l.see f).2) ∧ LineTo w w' O q cs (i * 22) mb (l.see f).1 := by
  obtain ⟨kind, conn, side, sess, number, on, code, data⟩ := f
  obtain ⟨a', cap', rfl, _, hrd'⟩ := hf
  dsimp only at hk hs hc hrd'
  dsimp only at hlen'
  subst hk hs hc
  show Calls Try.prog 18 #[.pointer (some ⟨j, 0, none⟩), .agg #[.int .i64 8, .int .i64 i, .int .i64 1, .int .u32 sess, .int .u32 number, .bool on, .int .i64 code, .slice a' data.length cap']] w _
  have h3 : decide ((i : Int) < 0) = false := by simp
  have h5 : decide (n ≤ i) = false := by simp; omega
  have h1 : (0 : Int) ≤ i := by omega
  have h2 : (i : Int) < n := by omega
  have hltj := lt_of_cell? hj
  have hlt := hb.lt
  dsimp only at hltj
  obtain ⟨v, hE, hV⟩ := hl.e0
  have HS : Hid (l.session = l.session) := rfl
  have hs20 : w.cell? ⟨q, i * 22 + 20, none⟩ = some (.int .u32 l.session) := by rw [hb.cell]; exact hl.s
  have hs21 : w.cell? ⟨q, i * 22 + 21, none⟩ = some (.map (some mb)) := by rw [hb.cell]; exact hl.m
  have hfree := hb.free
  have hr := EndTo.refl hb hE
  have HBL := Lib.hid hb
  have HLA := Lib.hid hl
  have HV := Lib.hid hV
  have HR := Lib.hid hr
  have HEC := Lib.hid hE
  have HRD := Lib.hid hrd'
  have K0 : Fr No w (w.alloc (.cells #[.int .i64 8, .int .i64 i, .int .i64 1, .int .u32 sess, .int .u32 number, .bool on, .int .i64 code, .slice a' data.length cap'] 43)) := (Fr.refl No w).alloc _
  have HK := Lib.hid K0
  obtain ⟨c0, c1, c2, c3, c4, c5, c6, c7, c8, c9⟩ := end_cells hb hE
  have HCA := Lib.hid (fun W (kk : Fr No w W) => out_any q (i * 22) l.e0 ⟨8, i, 1, sess, number, on, code, data⟩ v (.slice a' data.length cap') cs l.session O O' W (kk.blk hb id) hE (hV.bs.keep kk (fun _ _ => id)) (Bs.keep (l := data) ⟨a', cap', rfl, by assumption, hrd'⟩ kk (fun _ _ => id)) hlen hlen')
  clear hb hl hE hV hr hrd' K0 hfree hlen hlen'
  obtain ⟨r, hr⟩ : ∃ r, l.e0.outRule ⟨8, i, 1, sess, number, on, code, data⟩ l.session = r := ⟨_, rfl⟩
  have HRR := Lib.hid hr
  rw [hr] at HCA
  clear hr
  have HSEE : Hid (LineP.see l ⟨8, i, 1, sess, number, on, code, data⟩ = (if r = 0 then { l with e0 := l.e0.outTo ⟨8, i, 1, sess, number, on, code, data⟩ } else l, r)) := by show _ = _; have := HRR.out; simp [LineP.see, LineP.end_, LineP.setEnd, this]
  go_enter Try.func18, Try.ntmps18
  go_wp2
  go_quiet (fail)
  generalize nq = n0
  go_wp2
  go_quiet (fail)
  generalize nq = n1
  go_wp2
  go_quiet (fail)
  generalize nq = n2
  go_wp2
  have hne : w.heap.size ≠ q := by omega
  have bx0 : (w.alloc (.cells #[.int .i64 8, .int .i64 i, .int .i64 1, .int .u32 sess, .int .u32 number, .bool on, .int .i64 code, .slice a' data.length cap'] 43)).cell? ⟨w.heap.size, 0, none⟩ = some (.int .i64 8) := (Blk.new _ _ _).cell 0
  have bx1 : (w.alloc (.cells #[.int .i64 8, .int .i64 i, .int .i64 1, .int .u32 sess, .int .u32 number, .bool on, .int .i64 code, .slice a' data.length cap'] 43)).cell? ⟨w.heap.size, 1, none⟩ = some (.int .i64 i) := (Blk.new _ _ _).cell 1
  have bx2 : (w.alloc (.cells #[.int .i64 8, .int .i64 i, .int .i64 1, .int .u32 sess, .int .u32 number, .bool on, .int .i64 code, .slice a' data.length cap'] 43)).cell? ⟨w.heap.size, 2, none⟩ = some (.int .i64 1) := (Blk.new _ _ _).cell 2
  have bx3 : (w.alloc (.cells #[.int .i64 8, .int .i64 i, .int .i64 1, .int .u32 sess, .int .u32 number, .bool on, .int .i64 code, .slice a' data.length cap'] 43)).cell? ⟨w.heap.size, 3, none⟩ = some (.int .u32 sess) := (Blk.new _ _ _).cell 3
  have bx4 : (w.alloc (.cells #[.int .i64 8, .int .i64 i, .int .i64 1, .int .u32 sess, .int .u32 number, .bool on, .int .i64 code, .slice a' data.length cap'] 43)).cell? ⟨w.heap.size, 4, none⟩ = some (.int .u32 number) := (Blk.new _ _ _).cell 4
  have bx5 : (w.alloc (.cells #[.int .i64 8, .int .i64 i, .int .i64 1, .int .u32 sess, .int .u32 number, .bool on, .int .i64 code, .slice a' data.length cap'] 43)).cell? ⟨w.heap.size, 5, none⟩ = some (.bool on) := (Blk.new _ _ _).cell 5
  have bx6 : (w.alloc (.cells #[.int .i64 8, .int .i64 i, .int .i64 1, .int .u32 sess, .int .u32 number, .bool on, .int .i64 code, .slice a' data.length cap'] 43)).cell? ⟨w.heap.size, 6, none⟩ = some (.int .i64 code) := (Blk.new _ _ _).cell 6
  have bx7 : (w.alloc (.cells #[.int .i64 8, .int .i64 i, .int .i64 1, .int .u32 sess, .int .u32 number, .bool on, .int .i64 code, .slice a' data.length cap'] 43)).cell? ⟨w.heap.size, 7, none⟩ = some (.slice a' data.length cap') := (Blk.new _ _ _).cell 7
  have HBX := Lib.hid bx0
  go_region_held (fun W => W.cell? ⟨w.heap.size, 0, none⟩ = some (.int .i64 8) ∧ W.cell? ⟨w.heap.size, 1, none⟩ = some (.int .i64 i) ∧ W.cell? ⟨w.heap.size, 2, none⟩ = some (.int .i64 1) ∧ W.cell? ⟨w.heap.size, 3, none⟩ = some (.int .u32 sess) ∧ W.cell? ⟨w.heap.size, 4, none⟩ = some (.int .u32 number) ∧ W.cell? ⟨w.heap.size, 5, none⟩ = some (.bool on) ∧ W.cell? ⟨w.heap.size, 6, none⟩ = some (.int .i64 code) ∧ W.cell? ⟨w.heap.size, 7, none⟩ = some (.slice a' data.length cap') ∧ W.cell? ⟨q, i * 22 + 20, none⟩ = some (.int .u32 l.session)) (first | (exact ⟨bx0, bx1, bx2, bx3, bx4, bx5, bx6, bx7, cell_kept _ hs20⟩) | (exact ⟨kb _ _ bx0, kb _ _ bx1, kb _ _ bx2, kb _ _ bx3, kb _ _ bx4, kb _ _ bx5, kb _ _ bx6, kb _ _ bx7, s20⟩)) ((first | (go_at_call 24; refine (HCA.out _ (HK.out.drewN (n0 + n1 + n2 + 1))).mono ?_; rintro e w' ⟨rfl, hy, hn⟩; have s20 : w'.cell? ⟨q, i * 22 + 20, none⟩ = some (.int .u32 l.session) := (by by_cases h0 : r = 0; exact (hy h0).other HLA.out.s (by omega); exact (hn h0).other HLA.out.s (by omega)); have kb : ∀ k u, (w.alloc (.cells #[.int .i64 8, .int .i64 i, .int .i64 1, .int .u32 sess, .int .u32 number, .bool on, .int .i64 code, .slice a' data.length cap'] 43)).cell? ⟨w.heap.size, k, none⟩ = some u → w'.cell? ⟨w.heap.size, k, none⟩ = some u := (by intro k u hu; by_cases h0 : r = 0; exact (hy h0).frq.old hu hne; exact (hn h0).frq.old hu hne))))
  go_wp2
  go_ret
  rw [HSEE.out]
  refine ⟨rfl, ?_⟩
  by_cases h0 : r = 0
  · rw [if_pos h0]
    have := LineTo.of0 (x := l.e0.outTo ⟨8, i, 1, sess, number, on, code, data⟩) HBL.out HLA.out HV.out ((hy h0).ahead (HK.out.drewN _))
    exact this
  · rw [if_neg h0]
    have := LineTo.of0 HBL.out HLA.out HV.out ((hn h0).ahead (HK.out.drewN _))
    exact this

set_option maxRecDepth 1000000 in
set_option maxHeartbeats 8000000 in
theorem rule_k8_s2 (O O' : Nat → Prop) (j q cap n i mb : Nat) (f : FactP) (l : LineP) (vf : Value) (cs : Array Value) (w : World) (hj : w.cell? ⟨j, 0, none⟩ = some (.slice (some ⟨q, 0, none⟩) n cap)) (hb : Blk w q cs 64) (hl : LineAt w O cs (i * 22) mb l) (hf : Bs w O' vf f.data) (hi : i < n) (hc : f.conn = i) (hk : f.kind = 8) (hs : f.side = 2) (hlen : l.e1.value.length ≤ 140737488351232) (hlen' : f.data.length ≤ 140737488351232) :
    Calls Try.prog 18 #[.pointer (some ⟨j, 0, none⟩), factV f vf] w fun e w' => e = .returned (.int .i64 (l.see f).2) ∧ LineTo w w' O q cs (i * 22) mb (l.see f).1 := by
  obtain ⟨kind, conn, side, sess, number, on, code, data⟩ := f
  obtain ⟨a', cap', rfl, _, hrd'⟩ := hf
  dsimp only at hk hs hc hrd'
  dsimp only at hlen'
  subst hk hs hc
  show Calls Try.prog 18 #[.pointer (some ⟨j, 0, none⟩), .agg #[.int .i64 8, .int .i64 i, .int .i64 2, .int .u32 sess, .int .u32 number, .bool on, .int .i64 code, .slice a' data.length cap']] w _
  have h3 : decide ((i : Int) < 0) = false := by simp
  have h5 : decide (n ≤ i) = false := by simp; omega
  have h1 : (0 : Int) ≤ i := by omega
  have h2 : (i : Int) < n := by omega
  have hltj := lt_of_cell? hj
  have hlt := hb.lt
  dsimp only at hltj
  obtain ⟨v, hE, hV⟩ := hl.e1
  have HS : Hid (l.session = l.session) := rfl
  have hs20 : w.cell? ⟨q, i * 22 + 20, none⟩ = some (.int .u32 l.session) := by rw [hb.cell]; exact hl.s
  have hs21 : w.cell? ⟨q, i * 22 + 21, none⟩ = some (.map (some mb)) := by rw [hb.cell]; exact hl.m
  have hfree := hb.free
  have hr := EndTo.refl hb hE
  have HBL := Lib.hid hb
  have HLA := Lib.hid hl
  have HV := Lib.hid hV
  have HR := Lib.hid hr
  have HEC := Lib.hid hE
  have HRD := Lib.hid hrd'
  have K0 : Fr No w (w.alloc (.cells #[.int .i64 8, .int .i64 i, .int .i64 2, .int .u32 sess, .int .u32 number, .bool on, .int .i64 code, .slice a' data.length cap'] 43)) := (Fr.refl No w).alloc _
  have HK := Lib.hid K0
  obtain ⟨c0, c1, c2, c3, c4, c5, c6, c7, c8, c9⟩ := end_cells hb hE
  simp only [Nat.add_assoc, Nat.reduceAdd] at c0 c1 c2 c3 c4 c5 c6 c7 c8 c9
  have HCA := Lib.hid (fun W (kk : Fr No w W) => out_any q (i * 22 + 10) l.e1 ⟨8, i, 2, sess, number, on, code, data⟩ v (.slice a' data.length cap') cs l.session O O' W (kk.blk hb id) hE (hV.bs.keep kk (fun _ _ => id)) (Bs.keep (l := data) ⟨a', cap', rfl, by assumption, hrd'⟩ kk (fun _ _ => id)) hlen hlen')
  clear hb hl hE hV hr hrd' K0 hfree hlen hlen'
  obtain ⟨r, hr⟩ : ∃ r, l.e1.outRule ⟨8, i, 2, sess, number, on, code, data⟩ l.session = r := ⟨_, rfl⟩
  have HRR := Lib.hid hr
  rw [hr] at HCA
  clear hr
  have HSEE : Hid (LineP.see l ⟨8, i, 2, sess, number, on, code, data⟩ = (if r = 0 then { l with e1 := l.e1.outTo ⟨8, i, 2, sess, number, on, code, data⟩ } else l, r)) := by show _ = _; have := HRR.out; simp [LineP.see, LineP.end_, LineP.setEnd, this]
  go_enter Try.func18, Try.ntmps18
  go_wp2
  go_quiet (fail)
  generalize nq = n0
  go_wp2
  go_quiet (fail)
  generalize nq = n1
  go_wp2
  go_quiet (fail)
  generalize nq = n2
  go_wp2
  have hne : w.heap.size ≠ q := by omega
  have bx0 : (w.alloc (.cells #[.int .i64 8, .int .i64 i, .int .i64 2, .int .u32 sess, .int .u32 number, .bool on, .int .i64 code, .slice a' data.length cap'] 43)).cell? ⟨w.heap.size, 0, none⟩ = some (.int .i64 8) := (Blk.new _ _ _).cell 0
  have bx1 : (w.alloc (.cells #[.int .i64 8, .int .i64 i, .int .i64 2, .int .u32 sess, .int .u32 number, .bool on, .int .i64 code, .slice a' data.length cap'] 43)).cell? ⟨w.heap.size, 1, none⟩ = some (.int .i64 i) := (Blk.new _ _ _).cell 1
  have bx2 : (w.alloc (.cells #[.int .i64 8, .int .i64 i, .int .i64 2, .int .u32 sess, .int .u32 number, .bool on, .int .i64 code, .slice a' data.length cap'] 43)).cell? ⟨w.heap.size, 2, none⟩ = some (.int .i64 2) := (Blk.new _ _ _).cell 2
  have bx3 : (w.alloc (.cells #[.int .i64 8, .int .i64 i, .int .i64 2, .int .u32 sess, .int .u32 number, .bool on, .int .i64 code, .slice a' data.length cap'] 43)).cell? ⟨w.heap.size, 3, none⟩ = some (.int .u32 sess) := (Blk.new _ _ _).cell 3
  have bx4 : (w.alloc (.cells #[.int .i64 8, .int .i64 i, .int .i64 2, .int .u32 sess, .int .u32 number, .bool on, .int .i64 code, .slice a' data.length cap'] 43)).cell? ⟨w.heap.size, 4, none⟩ = some (.int .u32 number) := (Blk.new _ _ _).cell 4
  have bx5 : (w.alloc (.cells #[.int .i64 8, .int .i64 i, .int .i64 2, .int .u32 sess, .int .u32 number, .bool on, .int .i64 code, .slice a' data.length cap'] 43)).cell? ⟨w.heap.size, 5, none⟩ = some (.bool on) := (Blk.new _ _ _).cell 5
  have bx6 : (w.alloc (.cells #[.int .i64 8, .int .i64 i, .int .i64 2, .int .u32 sess, .int .u32 number, .bool on, .int .i64 code, .slice a' data.length cap'] 43)).cell? ⟨w.heap.size, 6, none⟩ = some (.int .i64 code) := (Blk.new _ _ _).cell 6
  have bx7 : (w.alloc (.cells #[.int .i64 8, .int .i64 i, .int .i64 2, .int .u32 sess, .int .u32 number, .bool on, .int .i64 code, .slice a' data.length cap'] 43)).cell? ⟨w.heap.size, 7, none⟩ = some (.slice a' data.length cap') := (Blk.new _ _ _).cell 7
  have HBX := Lib.hid bx0
  go_region_held (fun W => W.cell? ⟨w.heap.size, 0, none⟩ = some (.int .i64 8) ∧ W.cell? ⟨w.heap.size, 1, none⟩ = some (.int .i64 i) ∧ W.cell? ⟨w.heap.size, 2, none⟩ = some (.int .i64 2) ∧ W.cell? ⟨w.heap.size, 3, none⟩ = some (.int .u32 sess) ∧ W.cell? ⟨w.heap.size, 4, none⟩ = some (.int .u32 number) ∧ W.cell? ⟨w.heap.size, 5, none⟩ = some (.bool on) ∧ W.cell? ⟨w.heap.size, 6, none⟩ = some (.int .i64 code) ∧ W.cell? ⟨w.heap.size, 7, none⟩ = some (.slice a' data.length cap') ∧ W.cell? ⟨q, i * 22 + 20, none⟩ = some (.int .u32 l.session)) (first | (exact ⟨bx0, bx1, bx2, bx3, bx4, bx5, bx6, bx7, cell_kept _ hs20⟩) | (exact ⟨kb _ _ bx0, kb _ _ bx1, kb _ _ bx2, kb _ _ bx3, kb _ _ bx4, kb _ _ bx5, kb _ _ bx6, kb _ _ bx7, s20⟩)) ((first | (go_at_call 24; refine (HCA.out _ (HK.out.drewN (n0 + n1 + n2 + 1))).mono ?_; rintro e w' ⟨rfl, hy, hn⟩; have s20 : w'.cell? ⟨q, i * 22 + 20, none⟩ = some (.int .u32 l.session) := (by by_cases h0 : r = 0; exact (hy h0).other HLA.out.s (by omega); exact (hn h0).other HLA.out.s (by omega)); have kb : ∀ k u, (w.alloc (.cells #[.int .i64 8, .int .i64 i, .int .i64 2, .int .u32 sess, .int .u32 number, .bool on, .int .i64 code, .slice a' data.length cap'] 43)).cell? ⟨w.heap.size, k, none⟩ = some u → w'.cell? ⟨w.heap.size, k, none⟩ = some u := (by intro k u hu; by_cases h0 : r = 0; exact (hy h0).frq.old hu hne; exact (hn h0).frq.old hu hne))))
  go_wp2
  go_ret
  rw [HSEE.out]
  refine ⟨rfl, ?_⟩
  by_cases h0 : r = 0
  · rw [if_pos h0]
    have := LineTo.of1 (x := l.e1.outTo ⟨8, i, 2, sess, number, on, code, data⟩) HBL.out HLA.out HV.out ((hy h0).ahead (HK.out.drewN _))
    exact this
  · rw [if_neg h0]
    have := LineTo.of1 HBL.out HLA.out HV.out ((hn h0).ahead (HK.out.drewN _))
    exact this

end Go.Proofs.Ytmggfdhlbjlpjaa
