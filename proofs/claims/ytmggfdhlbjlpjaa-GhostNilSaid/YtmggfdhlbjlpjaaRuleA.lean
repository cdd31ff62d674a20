/-
  DERIVED. The walk of the judge's rule. (Printed by rule.py.)
-/
import Derived.Test.YtmggfdhlbjlpjaaJdg
import Derived.Outline
import Derived.StillTailTactics
namespace Go.Proofs.Ytmggfdhlbjlpjaa
open Go.RowKit
set_option linter.unusedSimpArgs false
set_option linter.unusedVariables false

set_option maxRecDepth 1000000 in
set_option maxHeartbeats 8000000 in
theorem rule_k1_s1 (O O' : Nat → Prop) (j q cap n i mb : Nat) (f : FactP) (l : LineP) (vf : Value) (cs : Array Value) (w : World) (hj : w.cell? ⟨j, 0, none⟩ = some (.slice (some ⟨q, 0, none⟩) n cap)) (hb : Blk w q cs 64) (hl : LineAt w O cs (i * 22) mb l) (hf : Bs w O' vf f.data) (hi : i < n) (hc : f.conn = i) (hk : f.kind = 1) (hs : f.side = 1) :
    Calls Try.prog 18 #[.pointer (some ⟨j, 0, none⟩), factV f vf] w fun e w' => e = .returned (.int .i64 (l.see f).2) ∧ LineTo w w' O q cs (i * 22) mb (l.see f).1 := by
  obtain ⟨kind, conn, side, sess, number, on, code, data⟩ := f
  obtain ⟨a', cap', rfl, _, hrd'⟩ := hf
  dsimp only at hk hs hc hrd'
  subst hk hs hc
  show Calls Try.prog 18 #[.pointer (some ⟨j, 0, none⟩), .agg #[.int .i64 1, .int .i64 i, .int .i64 1, .int .u32 sess, .int .u32 number, .bool on, .int .i64 code, .slice a' data.length cap']] w _
  have h3 : decide ((i : Int) < 0) = false := by simp
  have h5 : decide (n ≤ i) = false := by simp; omega
  have h1 : (0 : Int) ≤ i := by omega
  have h2 : (i : Int) < n := by omega
  have hltj := lt_of_cell? hj
  have hlt := hb.lt
  dsimp only at hltj
  obtain ⟨v, hE, hV⟩ := hl.e0
  have HS : Hid (l.session = l.session) := rfl
  have hs20 : w.cell? ⟨q, i * 22 + 20, none⟩ = some (.int .u32 l.session) := by rw [hb.cell]; exact hl.s
  have hs21 : w.cell? ⟨q, i * 22 + 21, none⟩ = some (.map (some mb)) := by rw [hb.cell]; exact hl.m
  have hfree := hb.free
  have hr := EndTo.refl hb hE
  have HBL := Lib.hid hb
  have HLA := Lib.hid hl
  have HV := Lib.hid hV
  have HR := Lib.hid hr
  have HEC := Lib.hid hE
  have HRD := Lib.hid hrd'
  have K0 : Fr No w (w.alloc (.cells #[.int .i64 1, .int .i64 i, .int .i64 1, .int .u32 sess, .int .u32 number, .bool on, .int .i64 code, .slice a' data.length cap'] 43)) := (Fr.refl No w).alloc _
  have HK := Lib.hid K0
  obtain ⟨c0, c1, c2, c3, c4, c5, c6, c7, c8, c9⟩ := end_cells hb hE
  have CV : ∀ n, (convert 41 9 (.slice a' data.length cap')).run Try.prog ((w.alloc (.cells #[.int .i64 1, .int .i64 i, .int .i64 1, .int .u32 sess, .int .u32 number, .bool on, .int .i64 code, .slice a' data.length cap'] 43)).drewN n) = .ok (.string (strV data)) ((w.alloc (.cells #[.int .i64 1, .int .i64 i, .int .i64 1, .int .u32 sess, .int .u32 number, .bool on, .int .i64 code, .slice a' data.length cap'] 43)).drewN n) := fun n => conv_rd (hrd'.keep (K0.drewN n) (fun _ _ => id))
  have MU : ∀ n, ∃ W7, (Instr.mapUpdate 59 (.map (some mb)) (.agg #[.int .i64 1, .int .u32 sess, .int .u32 number, .string (strV data)]) (.bool true)).run Try.prog ((w.alloc (.cells #[.int .i64 1, .int .i64 i, .int .i64 1, .int .u32 sess, .int .u32 number, .bool on, .int .i64 code, .slice a' data.length cap'] 43)).drewN n) = .ok () W7 ∧ IsMap W7 mb (l.sent ++ [⟨1, sess, number, data⟩]) ∧ Fr (fun x => x = mb) ((w.alloc (.cells #[.int .i64 1, .int .i64 i, .int .i64 1, .int .u32 sess, .int .u32 number, .bool on, .int .i64 code, .slice a' data.length cap'] 43)).drewN n) W7 := fun n => run_update (hl.map.keep (K0.drewN n) id) ⟨1, sess, number, data⟩
  obtain ⟨W7, HM7⟩ := Classical.axiomOfChoice MU
  have hmu := fun n => (HM7 n).1
  have HM8 := Lib.hid HM7
  have hnem : w.heap.size ≠ mb := by have := hl.map.lt; omega
  have HCV := Lib.hid CV
  clear hb hl hE hV hr hrd' K0 hfree MU HM7 CV
  have HSEE : Hid (LineP.see l ⟨1, i, 1, sess, number, on, code, data⟩ = ({ l with sent := l.sent ++ [⟨1, sess, number, data⟩] }, 0)) := by show _ = _; simp [LineP.see, FactP.key]
  have bx2 : (w.alloc (.cells #[.int .i64 1, .int .i64 i, .int .i64 1, .int .u32 sess, .int .u32 number, .bool on, .int .i64 code, .slice a' data.length cap'] 43)).cell? ⟨w.heap.size, 2, none⟩ = some (.int .i64 1) := (Blk.new _ _ _).cell 2
  have bx3 : (w.alloc (.cells #[.int .i64 1, .int .i64 i, .int .i64 1, .int .u32 sess, .int .u32 number, .bool on, .int .i64 code, .slice a' data.length cap'] 43)).cell? ⟨w.heap.size, 3, none⟩ = some (.int .u32 sess) := (Blk.new _ _ _).cell 3
  have bx4 : (w.alloc (.cells #[.int .i64 1, .int .i64 i, .int .i64 1, .int .u32 sess, .int .u32 number, .bool on, .int .i64 code, .slice a' data.length cap'] 43)).cell? ⟨w.heap.size, 4, none⟩ = some (.int .u32 number) := (Blk.new _ _ _).cell 4
  have bx7 : (w.alloc (.cells #[.int .i64 1, .int .i64 i, .int .i64 1, .int .u32 sess, .int .u32 number, .bool on, .int .i64 code, .slice a' data.length cap'] 43)).cell? ⟨w.heap.size, 7, none⟩ = some (.slice a' data.length cap') := (Blk.new _ _ _).cell 7
  go_enter Try.func18, Try.ntmps18
  go_wp2
  go_quiet (fail)
  generalize nq = n0
  go_wp2
  go_quiet (fail)
  generalize nq = n1
  go_wp2
  go_quiet (fail)
  generalize nq = n2
  go_wp2
  have cv := HCV.out
  go_region
  go_wp2
  go_ret
  rw [HSEE.out]
  exact ⟨rfl, LineTo.mp HBL.out HLA.out (HK.out.drewN _) (HM8.out _).2.2 (HM8.out _).2.1⟩

set_option maxRecDepth 1000000 in
set_option maxHeartbeats 8000000 in
theorem rule_k1_s2 (O O' : Nat → Prop) (j q cap n i mb : Nat) (f : FactP) (l : LineP) (vf : Value) (cs : Array Value) (w : World) (hj : w.cell? ⟨j, 0, none⟩ = some (.slice (some ⟨q, 0, none⟩) n cap)) (hb : Blk w q cs 64) (hl : LineAt w O cs (i * 22) mb l) (hf : Bs w O' vf f.data) (hi : i < n) (hc : f.conn = i) (hk : f.kind = 1) (hs : f.side = 2) :
    Calls Try.prog 18 #[.pointer (some ⟨j, 0, none⟩), factV f vf] w fun e w' => e = .returned (.int .i64 (l.see f).2) ∧ LineTo w w' O q cs (i * 22) mb (l.see f).1 := by
  obtain ⟨kind, conn, side, sess, number, on, code, data⟩ := f
  obtain ⟨a', cap', rfl, _, hrd'⟩ := hf
  dsimp only at hk hs hc hrd'
  subst hk hs hc
  show Calls Try.prog 18 #[.pointer (some ⟨j, 0, none⟩), .agg #[.int .i64 1, .int .i64 i, .int .i64 2, .int .u32 sess, .int .u32 number, .bool on, .int .i64 code, .slice a' data.length cap']] w _
  have h3 : decide ((i : Int) < 0) = false := by simp
  have h5 : decide (n ≤ i) = false := by simp; omega
  have h1 : (0 : Int) ≤ i := by omega
  have h2 : (i : Int) < n := by omega
  have hltj := lt_of_cell? hj
  have hlt := hb.lt
  dsimp only at hltj
  obtain ⟨v, hE, hV⟩ := hl.e1
  have HS : Hid (l.session = l.session) := rfl
  have hs20 : w.cell? ⟨q, i * 22 + 20, none⟩ = some (.int .u32 l.session) := by rw [hb.cell]; exact hl.s
  have hs21 : w.cell? ⟨q, i * 22 + 21, none⟩ = some (.map (some mb)) := by rw [hb.cell]; exact hl.m
  have hfree := hb.free
  have hr := EndTo.refl hb hE
  have HBL := Lib.hid hb
  have HLA := Lib.hid hl
  have HV := Lib.hid hV
  have HR := Lib.hid hr
  have HEC := Lib.hid hE
  have HRD := Lib.hid hrd'
  have K0 : Fr No w (w.alloc (.cells #[.int .i64 1, .int .i64 i, .int .i64 2, .int .u32 sess, .int .u32 number, .bool on, .int .i64 code, .slice a' data.length cap'] 43)) := (Fr.refl No w).alloc _
  have HK := Lib.hid K0
  obtain ⟨c0, c1, c2, c3, c4, c5, c6, c7, c8, c9⟩ := end_cells hb hE
  simp only [Nat.add_assoc, Nat.reduceAdd] at c0 c1 c2 c3 c4 c5 c6 c7 c8 c9
  have CV : ∀ n, (convert 41 9 (.slice a' data.length cap')).run Try.prog ((w.alloc (.cells #[.int .i64 1, .int .i64 i, .int .i64 2, .int .u32 sess, .int .u32 number, .bool on, .int .i64 code, .slice a' data.length cap'] 43)).drewN n) = .ok (.string (strV data)) ((w.alloc (.cells #[.int .i64 1, .int .i64 i, .int .i64 2, .int .u32 sess, .int .u32 number, .bool on, .int .i64 code, .slice a' data.length cap'] 43)).drewN n) := fun n => conv_rd (hrd'.keep (K0.drewN n) (fun _ _ => id))
  have MU : ∀ n, ∃ W7, (Instr.mapUpdate 59 (.map (some mb)) (.agg #[.int .i64 2, .int .u32 sess, .int .u32 number, .string (strV data)]) (.bool true)).run Try.prog ((w.alloc (.cells #[.int .i64 1, .int .i64 i, .int .i64 2, .int .u32 sess, .int .u32 number, .bool on, .int .i64 code, .slice a' data.length cap'] 43)).drewN n) = .ok () W7 ∧ IsMap W7 mb (l.sent ++ [⟨2, sess, number, data⟩]) ∧ Fr (fun x => x = mb) ((w.alloc (.cells #[.int .i64 1, .int .i64 i, .int .i64 2, .int .u32 sess, .int .u32 number, .bool on, .int .i64 code, .slice a' data.length cap'] 43)).drewN n) W7 := fun n => run_update (hl.map.keep (K0.drewN n) id) ⟨2, sess, number, data⟩
  obtain ⟨W7, HM7⟩ := Classical.axiomOfChoice MU
  have hmu := fun n => (HM7 n).1
  have HM8 := Lib.hid HM7
  have hnem : w.heap.size ≠ mb := by have := hl.map.lt; omega
  have HCV := Lib.hid CV
  clear hb hl hE hV hr hrd' K0 hfree MU HM7 CV
  have HSEE : Hid (LineP.see l ⟨1, i, 2, sess, number, on, code, data⟩ = ({ l with sent := l.sent ++ [⟨2, sess, number, data⟩] }, 0)) := by show _ = _; simp [LineP.see, FactP.key]
  have bx2 : (w.alloc (.cells #[.int .i64 1, .int .i64 i, .int .i64 2, .int .u32 sess, .int .u32 number, .bool on, .int .i64 code, .slice a' data.length cap'] 43)).cell? ⟨w.heap.size, 2, none⟩ = some (.int .i64 2) := (Blk.new _ _ _).cell 2
  have bx3 : (w.alloc (.cells #[.int .i64 1, .int .i64 i, .int .i64 2, .int .u32 sess, .int .u32 number, .bool on, .int .i64 code, .slice a' data.length cap'] 43)).cell? ⟨w.heap.size, 3, none⟩ = some (.int .u32 sess) := (Blk.new _ _ _).cell 3
  have bx4 : (w.alloc (.cells #[.int .i64 1, .int .i64 i, .int .i64 2, .int .u32 sess, .int .u32 number, .bool on, .int .i64 code, .slice a' data.length cap'] 43)).cell? ⟨w.heap.size, 4, none⟩ = some (.int .u32 number) := (Blk.new _ _ _).cell 4
  have bx7 : (w.alloc (.cells #[.int .i64 1, .int .i64 i, .int .i64 2, .int .u32 sess, .int .u32 number, .bool on, .int .i64 code, .slice a' data.length cap'] 43)).cell? ⟨w.heap.size, 7, none⟩ = some (.slice a' data.length cap') := (Blk.new _ _ _).cell 7
  go_enter Try.func18, Try.ntmps18
  go_wp2
  go_quiet (fail)
  generalize nq = n0
  go_wp2
  go_quiet (fail)
  generalize nq = n1
  go_wp2
  go_quiet (fail)
  generalize nq = n2
  go_wp2
  have cv := HCV.out
  go_region
  go_wp2
  go_ret
  rw [HSEE.out]
  exact ⟨rfl, LineTo.mp HBL.out HLA.out (HK.out.drewN _) (HM8.out _).2.2 (HM8.out _).2.1⟩

set_option maxRecDepth 1000000 in
set_option maxHeartbeats 8000000 in
theorem rule_k2_s1 (O O' : Nat → Prop) (j q cap n i mb : Nat) (f : FactP) (l : LineP) (vf : Value) (cs : Array Value) (w : World) (hj : w.cell? ⟨j, 0, none⟩ = some (.slice (some ⟨q, 0, none⟩) n cap)) (hb : Blk w q cs 64) (hl : LineAt w O cs (i * 22) mb l) (hf : Bs w O' vf f.data) (hi : i < n) (hc : f.conn = i) (hk : f.kind = 2) (hs : f.side = 1) (hlen' : f.data.length ≤ 140737488351232) (hq : ¬ O' q) :
    Calls Try.prog 18 #[.pointer (some ⟨j, 0, none⟩), factV f vf] w fun e w' => e = .returned (.int .i64 (l.see f).2) ∧ LineTo w w' O q cs (i * 22) mb (l.see f).1 := by
  obtain ⟨kind, conn, side, sess, number, on, code, data⟩ := f
  obtain ⟨a', cap', rfl, _, hrd'⟩ := hf
  dsimp only at hk hs hc hrd'
  dsimp only at hlen'
  subst hk hs hc
  show Calls Try.prog 18 #[.pointer (some ⟨j, 0, none⟩), .agg #[.int .i64 2, .int .i64 i, .int .i64 1, .int .u32 sess, .int .u32 number, .bool on, .int .i64 code, .slice a' data.length cap']] w _
  have h3 : decide ((i : Int) < 0) = false := by simp
  have h5 : decide (n ≤ i) = false := by simp; omega
  have h1 : (0 : Int) ≤ i := by omega
  have h2 : (i : Int) < n := by omega
  have hltj := lt_of_cell? hj
  have hlt := hb.lt
  dsimp only at hltj
  obtain ⟨v, hE, hV⟩ := hl.e0
  have HS : Hid (l.session = l.session) := rfl
  have hs20 : w.cell? ⟨q, i * 22 + 20, none⟩ = some (.int .u32 l.session) := by rw [hb.cell]; exact hl.s
  have hs21 : w.cell? ⟨q, i * 22 + 21, none⟩ = some (.map (some mb)) := by rw [hb.cell]; exact hl.m
  have hfree := hb.free
  have hr := EndTo.refl hb hE
  have HBL := Lib.hid hb
  have HLA := Lib.hid hl
  have HV := Lib.hid hV
  have HR := Lib.hid hr
  have HEC := Lib.hid hE
  have HRD := Lib.hid hrd'
  have K0 : Fr No w (w.alloc (.cells #[.int .i64 2, .int .i64 i, .int .i64 1, .int .u32 sess, .int .u32 number, .bool on, .int .i64 code, .slice a' data.length cap'] 43)) := (Fr.refl No w).alloc _
  have HK := Lib.hid K0
  obtain ⟨c0, c1, c2, c3, c4, c5, c6, c7, c8, c9⟩ := end_cells hb hE
  have HCA := Lib.hid (fun W (kk : Fr No w W) => taken_any q (i * 22) (i * 22) mb l.e0 ⟨2, i, 1, sess, number, on, code, data⟩ v (.slice a' data.length cap') cs l.session l.sent O' W (kk.blk hb id) hE hl.s hl.m (hl.map.keep kk id) (Bs.keep (l := data) ⟨a', cap', rfl, by assumption, hrd'⟩ kk (fun _ _ => id)) hlen' (.inl rfl) hq)
  clear hb hl hE hV hr hrd' K0 hfree hlen' hq
  obtain ⟨r, hr⟩ : ∃ r, takR l.e0 l.session l.sent ⟨2, i, 1, sess, number, on, code, data⟩ = r := ⟨_, rfl⟩
  have HRR := Lib.hid hr
  rw [hr] at HCA
  clear hr
  have HSEE : Hid (LineP.see l ⟨2, i, 1, sess, number, on, code, data⟩ = (if r = 0 then { l with e0 := takTo l.e0 ⟨2, i, 1, sess, number, on, code, data⟩ } else l, r)) := by
    show _ = _
    have h : LineP.takenRule l ⟨2, i, 1, sess, number, on, code, data⟩ = r := HRR.out
    simp [LineP.see, h, LineP.takenTo, takTo, LineP.end_, LineP.setEnd]
  go_enter Try.func18, Try.ntmps18
  go_wp2
  go_quiet (fail)
  generalize nq = n0
  go_wp2
  go_quiet (fail)
  generalize nq = n1
  go_wp2
  go_quiet (fail)
  generalize nq = n2
  go_wp2_with (go_at_call 21; refine (HCA.out _ (HK.out.drewN _)).mono ?_; rintro e w' ⟨rfl, hy, hn⟩)
  go_ret
  rw [HSEE.out]
  refine ⟨rfl, ?_⟩
  by_cases h0 : r = 0
  · rw [if_pos h0]
    obtain ⟨v', ht, ho⟩ := hy h0
    exact LineTo.e0 HBL.out HLA.out (ht.ahead (HK.out.drewN _)) (ho.wide fun b h1 h2 => .inr ⟨Nat.le_trans (HK.out.drewN _).size h1, h2⟩)
  · rw [if_neg h0]
    have := LineTo.of0 HBL.out HLA.out HV.out ((hn h0).ahead (HK.out.drewN _))
    exact this

set_option maxRecDepth 1000000 in
set_option maxHeartbeats 8000000 in
theorem rule_k2_s2 (O O' : Nat → Prop) (j q cap n i mb : Nat) (f : FactP) (l : LineP) (vf : Value) (cs : Array Value) (w : World) (hj : w.cell? ⟨j, 0, none⟩ = some (.slice (some ⟨q, 0, none⟩) n cap)) (hb : Blk w q cs 64) (hl : LineAt w O cs (i * 22) mb l) (hf : Bs w O' vf f.data) (hi : i < n) (hc : f.conn = i) (hk : f.kind = 2) (hs : f.side = 2) (hlen' : f.data.length ≤ 140737488351232) (hq : ¬ O' q) :
    Calls Try.prog 18 #[.pointer (some ⟨j, 0, none⟩), factV f vf] w fun e w' => e = .returned (.int .i64 (l.see f).2) ∧ LineTo w w' O q cs (i * 22) mb (l.see f).1 := by
  obtain ⟨kind, conn, side, sess, number, on, code, data⟩ := f
  obtain ⟨a', cap', rfl, _, hrd'⟩ := hf
  dsimp only at hk hs hc hrd'
  dsimp only at hlen'
  subst hk hs hc
  show Calls Try.prog 18 #[.pointer (some ⟨j, 0, none⟩), .agg #[.int .i64 2, .int .i64 i, .int .i64 2, .int .u32 sess, .int .u32 number, .bool on, .int .i64 code, .slice a' data.length cap']] w _
  have h3 : decide ((i : Int) < 0) = false := by simp
  have h5 : decide (n ≤ i) = false := by simp; omega
  have h1 : (0 : Int) ≤ i := by omega
  have h2 : (i : Int) < n := by omega
  have hltj := lt_of_cell? hj
  have hlt := hb.lt
  dsimp only at hltj
  obtain ⟨v, hE, hV⟩ := hl.e1
  have HS : Hid (l.session = l.session) := rfl
  have hs20 : w.cell? ⟨q, i * 22 + 20, none⟩ = some (.int .u32 l.session) := by rw [hb.cell]; exact hl.s
  have hs21 : w.cell? ⟨q, i * 22 + 21, none⟩ = some (.map (some mb)) := by rw [hb.cell]; exact hl.m
  have hfree := hb.free
  have hr := EndTo.refl hb hE
  have HBL := Lib.hid hb
  have HLA := Lib.hid hl
  have HV := Lib.hid hV
  have HR := Lib.hid hr
  have HEC := Lib.hid hE
  have HRD := Lib.hid hrd'
  have K0 : Fr No w (w.alloc (.cells #[.int .i64 2, .int .i64 i, .int .i64 2, .int .u32 sess, .int .u32 number, .bool on, .int .i64 code, .slice a' data.length cap'] 43)) := (Fr.refl No w).alloc _
  have HK := Lib.hid K0
  obtain ⟨c0, c1, c2, c3, c4, c5, c6, c7, c8, c9⟩ := end_cells hb hE
  simp only [Nat.add_assoc, Nat.reduceAdd] at c0 c1 c2 c3 c4 c5 c6 c7 c8 c9
  have HCA := Lib.hid (fun W (kk : Fr No w W) => taken_any q (i * 22 + 10) (i * 22) mb l.e1 ⟨2, i, 2, sess, number, on, code, data⟩ v (.slice a' data.length cap') cs l.session l.sent O' W (kk.blk hb id) hE hl.s hl.m (hl.map.keep kk id) (Bs.keep (l := data) ⟨a', cap', rfl, by assumption, hrd'⟩ kk (fun _ _ => id)) hlen' (.inr rfl) hq)
  clear hb hl hE hV hr hrd' K0 hfree hlen' hq
  obtain ⟨r, hr⟩ : ∃ r, takR l.e1 l.session l.sent ⟨2, i, 2, sess, number, on, code, data⟩ = r := ⟨_, rfl⟩
  have HRR := Lib.hid hr
  rw [hr] at HCA
  clear hr
  have HSEE : Hid (LineP.see l ⟨2, i, 2, sess, number, on, code, data⟩ = (if r = 0 then { l with e1 := takTo l.e1 ⟨2, i, 2, sess, number, on, code, data⟩ } else l, r)) := by
    show _ = _
    have h : LineP.takenRule l ⟨2, i, 2, sess, number, on, code, data⟩ = r := HRR.out
    simp [LineP.see, h, LineP.takenTo, takTo, LineP.end_, LineP.setEnd]
  go_enter Try.func18, Try.ntmps18
  go_wp2
  go_quiet (fail)
  generalize nq = n0
  go_wp2
  go_quiet (fail)
  generalize nq = n1
  go_wp2
  go_quiet (fail)
  generalize nq = n2
  go_wp2_with (go_at_call 21; refine (HCA.out _ (HK.out.drewN _)).mono ?_; rintro e w' ⟨rfl, hy, hn⟩)
  go_ret
  rw [HSEE.out]
  refine ⟨rfl, ?_⟩
  by_cases h0 : r = 0
  · rw [if_pos h0]
    obtain ⟨v', ht, ho⟩ := hy h0
    exact LineTo.e1 HBL.out HLA.out (ht.ahead (HK.out.drewN _)) (ho.wide fun b h1 h2 => .inr ⟨Nat.le_trans (HK.out.drewN _).size h1, h2⟩)
  · rw [if_neg h0]
    have := LineTo.of1 HBL.out HLA.out HV.out ((hn h0).ahead (HK.out.drewN _))
    exact this

set_option maxRecDepth 1000000 in
set_option maxHeartbeats 8000000 in
theorem rule_k3_s1 (O O' : Nat → Prop) (j q cap n i mb : Nat) (f : FactP) (l : LineP) (vf : Value) (cs : Array Value) (w : World) (hj : w.cell? ⟨j, 0, none⟩ = some (.slice (some ⟨q, 0, none⟩) n cap)) (hb : Blk w q cs 64) (hl : LineAt w O cs (i * 22) mb l) (hf : Bs w O' vf f.data) (hi : i < n) (hc : f.conn = i) (hk : f.kind = 3) (hs : f.side = 1) :
    Calls Try.prog 18 #[.pointer (some ⟨j, 0, none⟩), factV f vf] w fun e w' => e = .returned (.int .i64 (l.see f).2) ∧ LineTo w w' O q cs (i * 22) mb (l.see f).1 := by
  obtain ⟨kind, conn, side, sess, number, on, code, data⟩ := f
  obtain ⟨a', cap', rfl, _, hrd'⟩ := hf
  dsimp only at hk hs hc hrd'
  subst hk hs hc
  show Calls Try.prog 18 #[.pointer (some ⟨j, 0, none⟩), .agg #[.int .i64 3, .int .i64 i, .int .i64 1, .int .u32 sess, .int .u32 number, .bool on, .int .i64 code, .slice a' data.length cap']] w _
  have h3 : decide ((i : Int) < 0) = false := by simp
  have h5 : decide (n ≤ i) = false := by simp; omega
  have h1 : (0 : Int) ≤ i := by omega
  have h2 : (i : Int) < n := by omega
  have hltj := lt_of_cell? hj
  have hlt := hb.lt
  dsimp only at hltj
  obtain ⟨v, hE, hV⟩ := hl.e0
  have HS : Hid (l.session = l.session) := rfl
  have hs20 : w.cell? ⟨q, i * 22 + 20, none⟩ = some (.int .u32 l.session) := by rw [hb.cell]; exact hl.s
  have hs21 : w.cell? ⟨q, i * 22 + 21, none⟩ = some (.map (some mb)) := by rw [hb.cell]; exact hl.m
  have hfree := hb.free
  have hr := EndTo.refl hb hE
  have HBL := Lib.hid hb
  have HLA := Lib.hid hl
  have HV := Lib.hid hV
  have HR := Lib.hid hr
  have HEC := Lib.hid hE
  have HRD := Lib.hid hrd'
  have K0 : Fr No w (w.alloc (.cells #[.int .i64 3, .int .i64 i, .int .i64 1, .int .u32 sess, .int .u32 number, .bool on, .int .i64 code, .slice a' data.length cap'] 43)) := (Fr.refl No w).alloc _
  have HK := Lib.hid K0
  obtain ⟨c0, c1, c2, c3, c4, c5, c6, c7, c8, c9⟩ := end_cells hb hE
  clear hb hl hE hV hr hrd' K0 hfree
  have d20 : w.frozen? ⟨q, i * 22 + 20, none⟩ = false := HBL.out.free _
  go_enter Try.func18, Try.ntmps18
  go_wp2
  go_quiet (fail)
  generalize nq = n0
  go_wp2
  go_quiet (fail)
  generalize nq = n1
  go_wp2
  go_quiet (fail)
  generalize nq = n2
  have k1 : Fr (fun b => b = q) w (((w.alloc (.cells #[.int .i64 3, .int .i64 i, .int .i64 1, .int .u32 sess, .int .u32 number, .bool on, .int .i64 code, .slice a' data.length cap'] 43)).drewN (n0 + n1 + n2)).setCell ⟨q, i * 22 + 20, none⟩ (.int .u32 sess)) := ((HK.out.drewN (n0 + n1 + n2)).no (fun b => b = q)).setCell (p := ⟨q, i * 22 + 20, none⟩) (fun _ => rfl) _
  have hqm : ¬ mb = q := q_ne_map HBL.out HLA.out
  obtain ⟨ck, L0, hrng, hit, hks⟩ := run_range (HLA.out.map.keep k1 hqm)
  obtain ⟨W1, hW1⟩ : ∃ W1, W1 = (((w.alloc (.cells #[.int .i64 3, .int .i64 i, .int .i64 1, .int .u32 sess, .int .u32 number, .bool on, .int .i64 code, .slice a' data.length cap'] 43)).drewN (n0 + n1 + n2)).setCell ⟨q, i * 22 + 20, none⟩ (.int .u32 sess)).alloc (.mapIter (some mb) ck #[] ck) := ⟨_, rfl⟩
  obtain ⟨rr, hrr⟩ : ∃ rr, rr = (((w.alloc (.cells #[.int .i64 3, .int .i64 i, .int .i64 1, .int .u32 sess, .int .u32 number, .bool on, .int .i64 code, .slice a' data.length cap'] 43)).drewN (n0 + n1 + n2)).setCell ⟨q, i * 22 + 20, none⟩ (.int .u32 sess)).heap.size := ⟨_, rfl⟩
  rw [← hW1, ← hrr] at hrng hit
  have HIT := Lib.hid hit
  have HKS := Lib.hid hks
  have HW1 := Lib.hid hW1
  have HRR := Lib.hid hrr
  have HK1 := Lib.hid k1
  have q1 := ((HBL.out.set (i * 22 + 20) (.int .u32 sess)))
  have B1 : Blk W1 q (cs.setIfInBounds (i * 22 + 20) (.int .u32 sess)) 64 := by rw [hW1]; exact ((Fr.refl No _).alloc _).blk (Blk.set (((HK.out.drewN (n0 + n1 + n2))).blk HBL.out id) _ _) id
  have hne : w.heap.size ≠ q := by omega
  have X1 : Blk W1 w.heap.size #[.int .i64 3, .int .i64 i, .int .i64 1, .int .u32 sess, .int .u32 number, .bool on, .int .i64 code, .slice a' data.length cap'] 43 := by rw [hW1]; exact ((Fr.refl No _).alloc _).blk ((((Fr.refl (fun b => b = q) _).setCell (p := ⟨q, i * 22 + 20, none⟩) (fun _ => rfl) _)).blk (b := w.heap.size) (((Fr.refl No _).drewN (n0 + n1 + n2)).blk (Blk.new w _ _) id) hne) id
  have k2 : Fr (fun b => b = q) w W1 := by rw [hW1]; exact k1.alloc _
  have HB1 := Lib.hid B1
  have HX1 := Lib.hid X1
  have HK2 := Lib.hid k2
  have hrw : w.heap.size < rr := by rw [hrr]; exact Blk.lt ((((Fr.refl (fun b => b = q) _).setCell (p := ⟨q, i * 22 + 20, none⟩) (fun _ => rfl) _)).blk (b := w.heap.size) (((Fr.refl No _).drewN (n0 + n1 + n2)).blk (Blk.new w _ _) id) hne)
  clear hit hks hW1 hrr k1 k2 B1 X1 q1
  go_wp2
  go_loopw [7] (fun _ wr => ∃ L seen, It wr mb rr ck L seen ∧ Fr (fun b => b = mb ∨ b = rr) W1 wr ∧ Swp l.sent (fun k => k.side = 1 ∧ k.session = sess) L seen) (fun _ wr => remW wr mb rr)
  case atStart => exact ⟨L0, #[], HIT.out, Fr.refl _ _, Swp.start HKS.out⟩
  case round =>
    obtain ⟨L, seen, hit, hk, hsw⟩ := hrel
    have hmw : mb < w.heap.size := HLA.out.map.lt
    have hqn : ¬ (q = mb ∨ q = rr) := by rintro (h | h); exact HLA.out.map.not_blk _ _ (h ▸ HBL.out); omega
    have hxn : ¬ (w.heap.size = mb ∨ w.heap.size = rr) := by omega
    have B2 := hk.blk HB1.out hqn
    have X2 := hk.blk HX1.out hxn
    have hsz20 : i * 22 + 20 < cs.size := by have h := HLA.out.s; rcases Nat.lt_or_ge (i * 22 + 20) cs.size with h' | h'; exact h'; rw [Array.getElem?_eq_none h'] at h; cases h
    have m21 : wr.cell? ⟨q, i * 22 + 21, none⟩ = some (.map (some mb)) := by rw [B2.cell, Array.getElem?_setIfInBounds_ne (by omega)]; exact HLA.out.m
    have x3 : wr.cell? ⟨w.heap.size, 3, none⟩ = some (.int .u32 sess) := X2.cell 3
    have HM := Lib.hid hit.rem
    have HKR := Lib.hid hk
    have HSW := Lib.hid hsw
    have HI := Lib.hid hit
    have wsz : w.heap.size < wr.heap.size := X2.lt
    have qsz : q < wr.heap.size := B2.lt
    clear B2 X2 hk hsw hsz20
    rcases run_next hit 0 with ⟨hall, hrun⟩ | ⟨p, hp, w2, hs, hrun, hit2, hent, hfr, hsz⟩
    · have HALL := Lib.hid hall
      clear hit hall
      go_wp2
      go_ret
      have HSEE : Hid (LineP.see l ⟨3, i, 1, sess, number, on, code, data⟩ = ({ l with session := sess, sent := l.sent.filter fun k => !(k.side == 1 && k.session == sess) }, 0)) := by show _ = _; simp [LineP.see]
      rw [HSEE.out]
      refine ⟨rfl, LineTo.session HBL.out HLA.out sess HK2.out HB1.out HKR.out (by omega) ?_⟩
      refine ⟨L, ck, HI.out.m, HI.out.n1, HI.out.n2, HI.out.lt, fun k => ?_⟩
      have := HSW.out.done HALL.out k
      have e : (fun k : Key => !decide (k.side = 1 ∧ k.session = sess)) = fun k => !(k.side == 1 && k.session == sess) := by funext k; rw [Bool.eq_iff_iff]; simp
      rw [← e]; exact this
    · obtain ⟨⟨ksd, kse, knu, kda⟩, bt⟩ := p
      simp only [keyV] at hrun hent
      have X3 := hfr.old x3 (by dsimp only; omega)
      have M3 := hfr.old m21 (by dsimp only; omega)
      have HF2 := Lib.hid (hfr.wide (O' := fun b => b = mb ∨ b = rr) fun b h _ => .inr h)
      have HRM := Lib.hid (hit2.rem)
      have hlp := left_push hp hs
      have sz2 : w2.heap.size = wr.heap.size := hsz
      have HLP := Lib.hid hlp
      have hrlt := lt_of_heap hit2.i
      have NB : ¬ (ksd = 1 ∧ kse = sess) → (∃ L seen, It (w2.alloc (.cells #[.int .i64 ksd, .int .u32 kse, .int .u32 knu, .string (strV kda)] 75)) mb rr ck L seen ∧ Fr (fun b => b = mb ∨ b = rr) W1 (w2.alloc (.cells #[.int .i64 ksd, .int .u32 kse, .int .u32 knu, .string (strV kda)] 75)) ∧ Swp l.sent (fun k => k.side = 1 ∧ k.session = sess) L seen) ∧ remW (w2.alloc (.cells #[.int .i64 ksd, .int .u32 kse, .int .u32 knu, .string (strV kda)] 75)) mb rr < remW wr mb rr := by
        intro hb
        have hk3 := (Fr.refl No w2).alloc (.cells #[.int .i64 ksd, .int .u32 kse, .int .u32 knu, .string (strV kda)] 75)
        have it3 := hit2.keep hk3 id id
        refine ⟨⟨L, _, it3, (HKR.out.trans HF2.out).alloc _, HSW.out.let HI.out.n2 hp hb⟩, ?_⟩
        rw [it3.rem, HM.out]; exact hlp
      have HNB := Lib.hid NB
      clear NB
      have h4p := HI.out.n2
      by_cases hb1 : ksd = 1
      · subst hb1
        by_cases hb2 : kse = sess
        · subst hb2
          have hk3 := (Fr.refl No w2).alloc (.cells #[.int .i64 1, .int .u32 kse, .int .u32 knu, .string (strV kda)] 75)
          have it3 := hit2.keep hk3.drew id id
          obtain ⟨w4, L', hdel, it4, hmem4, hle4, hf4⟩ := run_delete it3 hp 0
          simp only [keyV] at hdel
          have NB2 : (∃ L seen, It w4 mb rr ck L seen ∧ Fr (fun b => b = mb ∨ b = rr) W1 w4 ∧ Swp l.sent (fun k => k.side = 1 ∧ k.session = kse) L seen) ∧ remW w4 mb rr < remW wr mb rr := by
            refine ⟨⟨L', _, it4, ((HKR.out.trans HF2.out).trans (hk3.drew.no _)).trans (hf4.wide fun b h _ => .inl h), HSW.out.strike HI.out.n2 hp ⟨rfl, rfl⟩ hmem4⟩, ?_⟩
            rw [it4.rem, HM.out]; exact Nat.lt_of_le_of_lt hle4 hlp
          have HNB2 := Lib.hid NB2
          clear NB2 hit hp hs hfr hit2 hlp it3 hk3 it4 hmem4 hle4 hf4 h4p
          go_wp2
          go_region
          go_wp2
          go_roundw
          case rel => exact HNB2.out.1
          case measure => exact HNB2.out.2
        · have hb2' : (kse == sess) = false := by simpa using hb2
          have HN2 := Lib.hid (HNB.out fun h => hb2 h.2)
          clear hit hp hs hfr hit2 hlp h4p hb2
          go_wp2
          go_roundw
          case rel => exact HN2.out.1
          case measure => exact HN2.out.2
      · have hb1' : (ksd == 1) = false := by simpa using hb1
        have HN2 := Lib.hid (HNB.out fun h => hb1 h.1)
        clear hit hp hs hfr hit2 hlp h4p hb1
        go_wp2
        go_roundw
        case rel => exact HN2.out.1
        case measure => exact HN2.out.2

set_option maxRecDepth 1000000 in
set_option maxHeartbeats 8000000 in
theorem rule_k3_s2 (O O' : Nat → Prop) (j q cap n i mb : Nat) (f : FactP) (l : LineP) (vf : Value) (cs : Array Value) (w : World) (hj : w.cell? ⟨j, 0, none⟩ = some (.slice (some ⟨q, 0, none⟩) n cap)) (hb : Blk w q cs 64) (hl : LineAt w O cs (i * 22) mb l) (hf : Bs w O' vf f.data) (hi : i < n) (hc : f.conn = i) (hk : f.kind = 3) (hs : f.side = 2) :
    Calls Try.prog 18 #[.pointer (some ⟨j, 0, none⟩), factV f vf] w fun e w' => e = .returned (.int .i64 (l.see f).2) ∧ LineTo w w' O q cs (i * 22) mb (l.see f).1 := by
  obtain ⟨kind, conn, side, sess, number, on, code, data⟩ := f
  obtain ⟨a', cap', rfl, _, hrd'⟩ := hf
  dsimp only at hk hs hc hrd'
  subst hk hs hc
  show Calls Try.prog 18 #[.pointer (some ⟨j, 0, none⟩), .agg #[.int .i64 3, .int .i64 i, .int .i64 2, .int .u32 sess, .int .u32 number, .bool on, .int .i64 code, .slice a' data.length cap']] w _
  have h3 : decide ((i : Int) < 0) = false := by simp
  have h5 : decide (n ≤ i) = false := by simp; omega
  have h1 : (0 : Int) ≤ i := by omega
  have h2 : (i : Int) < n := by omega
  have hltj := lt_of_cell? hj
  have hlt := hb.lt
  dsimp only at hltj
  obtain ⟨v, hE, hV⟩ := hl.e1
  have HS : Hid (l.session = l.session) := rfl
  have hs20 : w.cell? ⟨q, i * 22 + 20, none⟩ = some (.int .u32 l.session) := by rw [hb.cell]; exact hl.s
  have hs21 : w.cell? ⟨q, i * 22 + 21, none⟩ = some (.map (some mb)) := by rw [hb.cell]; exact hl.m
  have hfree := hb.free
  have hr := EndTo.refl hb hE
  have HBL := Lib.hid hb
  have HLA := Lib.hid hl
  have HV := Lib.hid hV
  have HR := Lib.hid hr
  have HEC := Lib.hid hE
  have HRD := Lib.hid hrd'
  have K0 : Fr No w (w.alloc (.cells #[.int .i64 3, .int .i64 i, .int .i64 2, .int .u32 sess, .int .u32 number, .bool on, .int .i64 code, .slice a' data.length cap'] 43)) := (Fr.refl No w).alloc _
  have HK := Lib.hid K0
  obtain ⟨c0, c1, c2, c3, c4, c5, c6, c7, c8, c9⟩ := end_cells hb hE
  simp only [Nat.add_assoc, Nat.reduceAdd] at c0 c1 c2 c3 c4 c5 c6 c7 c8 c9
  clear hb hl hE hV hr hrd' K0 hfree
  have d20 : w.frozen? ⟨q, i * 22 + 20, none⟩ = false := HBL.out.free _
  go_enter Try.func18, Try.ntmps18
  go_wp2
  go_quiet (fail)
  generalize nq = n0
  go_wp2
  go_quiet (fail)
  generalize nq = n1
  go_wp2
  go_quiet (fail)
  generalize nq = n2
  have k1 : Fr (fun b => b = q) w (((w.alloc (.cells #[.int .i64 3, .int .i64 i, .int .i64 2, .int .u32 sess, .int .u32 number, .bool on, .int .i64 code, .slice a' data.length cap'] 43)).drewN (n0 + n1 + n2)).setCell ⟨q, i * 22 + 20, none⟩ (.int .u32 sess)) := ((HK.out.drewN (n0 + n1 + n2)).no (fun b => b = q)).setCell (p := ⟨q, i * 22 + 20, none⟩) (fun _ => rfl) _
  have hqm : ¬ mb = q := q_ne_map HBL.out HLA.out
  obtain ⟨ck, L0, hrng, hit, hks⟩ := run_range (HLA.out.map.keep k1 hqm)
  obtain ⟨W1, hW1⟩ : ∃ W1, W1 = (((w.alloc (.cells #[.int .i64 3, .int .i64 i, .int .i64 2, .int .u32 sess, .int .u32 number, .bool on, .int .i64 code, .slice a' data.length cap'] 43)).drewN (n0 + n1 + n2)).setCell ⟨q, i * 22 + 20, none⟩ (.int .u32 sess)).alloc (.mapIter (some mb) ck #[] ck) := ⟨_, rfl⟩
  obtain ⟨rr, hrr⟩ : ∃ rr, rr = (((w.alloc (.cells #[.int .i64 3, .int .i64 i, .int .i64 2, .int .u32 sess, .int .u32 number, .bool on, .int .i64 code, .slice a' data.length cap'] 43)).drewN (n0 + n1 + n2)).setCell ⟨q, i * 22 + 20, none⟩ (.int .u32 sess)).heap.size := ⟨_, rfl⟩
  rw [← hW1, ← hrr] at hrng hit
  have HIT := Lib.hid hit
  have HKS := Lib.hid hks
  have HW1 := Lib.hid hW1
  have HRR := Lib.hid hrr
  have HK1 := Lib.hid k1
  have q1 := ((HBL.out.set (i * 22 + 20) (.int .u32 sess)))
  have B1 : Blk W1 q (cs.setIfInBounds (i * 22 + 20) (.int .u32 sess)) 64 := by rw [hW1]; exact ((Fr.refl No _).alloc _).blk (Blk.set (((HK.out.drewN (n0 + n1 + n2))).blk HBL.out id) _ _) id
  have hne : w.heap.size ≠ q := by omega
  have X1 : Blk W1 w.heap.size #[.int .i64 3, .int .i64 i, .int .i64 2, .int .u32 sess, .int .u32 number, .bool on, .int .i64 code, .slice a' data.length cap'] 43 := by rw [hW1]; exact ((Fr.refl No _).alloc _).blk ((((Fr.refl (fun b => b = q) _).setCell (p := ⟨q, i * 22 + 20, none⟩) (fun _ => rfl) _)).blk (b := w.heap.size) (((Fr.refl No _).drewN (n0 + n1 + n2)).blk (Blk.new w _ _) id) hne) id
  have k2 : Fr (fun b => b = q) w W1 := by rw [hW1]; exact k1.alloc _
  have HB1 := Lib.hid B1
  have HX1 := Lib.hid X1
  have HK2 := Lib.hid k2
  have hrw : w.heap.size < rr := by rw [hrr]; exact Blk.lt ((((Fr.refl (fun b => b = q) _).setCell (p := ⟨q, i * 22 + 20, none⟩) (fun _ => rfl) _)).blk (b := w.heap.size) (((Fr.refl No _).drewN (n0 + n1 + n2)).blk (Blk.new w _ _) id) hne)
  clear hit hks hW1 hrr k1 k2 B1 X1 q1
  go_wp2
  go_loopw [7] (fun _ wr => ∃ L seen, It wr mb rr ck L seen ∧ Fr (fun b => b = mb ∨ b = rr) W1 wr ∧ Swp l.sent (fun k => k.side = 1 ∧ k.session = sess) L seen) (fun _ wr => remW wr mb rr)
  case atStart => exact ⟨L0, #[], HIT.out, Fr.refl _ _, Swp.start HKS.out⟩
  case round =>
    obtain ⟨L, seen, hit, hk, hsw⟩ := hrel
    have hmw : mb < w.heap.size := HLA.out.map.lt
    have hqn : ¬ (q = mb ∨ q = rr) := by rintro (h | h); exact HLA.out.map.not_blk _ _ (h ▸ HBL.out); omega
    have hxn : ¬ (w.heap.size = mb ∨ w.heap.size = rr) := by omega
    have B2 := hk.blk HB1.out hqn
    have X2 := hk.blk HX1.out hxn
    have hsz20 : i * 22 + 20 < cs.size := by have h := HLA.out.s; rcases Nat.lt_or_ge (i * 22 + 20) cs.size with h' | h'; exact h'; rw [Array.getElem?_eq_none h'] at h; cases h
    have m21 : wr.cell? ⟨q, i * 22 + 21, none⟩ = some (.map (some mb)) := by rw [B2.cell, Array.getElem?_setIfInBounds_ne (by omega)]; exact HLA.out.m
    have x3 : wr.cell? ⟨w.heap.size, 3, none⟩ = some (.int .u32 sess) := X2.cell 3
    have HM := Lib.hid hit.rem
    have HKR := Lib.hid hk
    have HSW := Lib.hid hsw
    have HI := Lib.hid hit
    have wsz : w.heap.size < wr.heap.size := X2.lt
    have qsz : q < wr.heap.size := B2.lt
    clear B2 X2 hk hsw hsz20
    rcases run_next hit 0 with ⟨hall, hrun⟩ | ⟨p, hp, w2, hs, hrun, hit2, hent, hfr, hsz⟩
    · have HALL := Lib.hid hall
      clear hit hall
      go_wp2
      go_ret
      have HSEE : Hid (LineP.see l ⟨3, i, 2, sess, number, on, code, data⟩ = ({ l with session := sess, sent := l.sent.filter fun k => !(k.side == 1 && k.session == sess) }, 0)) := by show _ = _; simp [LineP.see]
      rw [HSEE.out]
      refine ⟨rfl, LineTo.session HBL.out HLA.out sess HK2.out HB1.out HKR.out (by omega) ?_⟩
      refine ⟨L, ck, HI.out.m, HI.out.n1, HI.out.n2, HI.out.lt, fun k => ?_⟩
      have := HSW.out.done HALL.out k
      have e : (fun k : Key => !decide (k.side = 1 ∧ k.session = sess)) = fun k => !(k.side == 1 && k.session == sess) := by funext k; rw [Bool.eq_iff_iff]; simp
      rw [← e]; exact this
    · obtain ⟨⟨ksd, kse, knu, kda⟩, bt⟩ := p
      simp only [keyV] at hrun hent
      have X3 := hfr.old x3 (by dsimp only; omega)
      have M3 := hfr.old m21 (by dsimp only; omega)
      have HF2 := Lib.hid (hfr.wide (O' := fun b => b = mb ∨ b = rr) fun b h _ => .inr h)
      have HRM := Lib.hid (hit2.rem)
      have hlp := left_push hp hs
      have sz2 : w2.heap.size = wr.heap.size := hsz
      have HLP := Lib.hid hlp
      have hrlt := lt_of_heap hit2.i
      have NB : ¬ (ksd = 1 ∧ kse = sess) → (∃ L seen, It (w2.alloc (.cells #[.int .i64 ksd, .int .u32 kse, .int .u32 knu, .string (strV kda)] 75)) mb rr ck L seen ∧ Fr (fun b => b = mb ∨ b = rr) W1 (w2.alloc (.cells #[.int .i64 ksd, .int .u32 kse, .int .u32 knu, .string (strV kda)] 75)) ∧ Swp l.sent (fun k => k.side = 1 ∧ k.session = sess) L seen) ∧ remW (w2.alloc (.cells #[.int .i64 ksd, .int .u32 kse, .int .u32 knu, .string (strV kda)] 75)) mb rr < remW wr mb rr := by
        intro hb
        have hk3 := (Fr.refl No w2).alloc (.cells #[.int .i64 ksd, .int .u32 kse, .int .u32 knu, .string (strV kda)] 75)
        have it3 := hit2.keep hk3 id id
        refine ⟨⟨L, _, it3, (HKR.out.trans HF2.out).alloc _, HSW.out.let HI.out.n2 hp hb⟩, ?_⟩
        rw [it3.rem, HM.out]; exact hlp
      have HNB := Lib.hid NB
      clear NB
      have h4p := HI.out.n2
      by_cases hb1 : ksd = 1
      · subst hb1
        by_cases hb2 : kse = sess
        · subst hb2
          have hk3 := (Fr.refl No w2).alloc (.cells #[.int .i64 1, .int .u32 kse, .int .u32 knu, .string (strV kda)] 75)
          have it3 := hit2.keep hk3.drew id id
          obtain ⟨w4, L', hdel, it4, hmem4, hle4, hf4⟩ := run_delete it3 hp 0
          simp only [keyV] at hdel
          have NB2 : (∃ L seen, It w4 mb rr ck L seen ∧ Fr (fun b => b = mb ∨ b = rr) W1 w4 ∧ Swp l.sent (fun k => k.side = 1 ∧ k.session = kse) L seen) ∧ remW w4 mb rr < remW wr mb rr := by
            refine ⟨⟨L', _, it4, ((HKR.out.trans HF2.out).trans (hk3.drew.no _)).trans (hf4.wide fun b h _ => .inl h), HSW.out.strike HI.out.n2 hp ⟨rfl, rfl⟩ hmem4⟩, ?_⟩
            rw [it4.rem, HM.out]; exact Nat.lt_of_le_of_lt hle4 hlp
          have HNB2 := Lib.hid NB2
          clear NB2 hit hp hs hfr hit2 hlp it3 hk3 it4 hmem4 hle4 hf4 h4p
          go_wp2
          go_region
          go_wp2
          go_roundw
          case rel => exact HNB2.out.1
          case measure => exact HNB2.out.2
        · have hb2' : (kse == sess) = false := by simpa using hb2
          have HN2 := Lib.hid (HNB.out fun h => hb2 h.2)
          clear hit hp hs hfr hit2 hlp h4p hb2
          go_wp2
          go_roundw
          case rel => exact HN2.out.1
          case measure => exact HN2.out.2
      · have hb1' : (ksd == 1) = false := by simpa using hb1
        have HN2 := Lib.hid (HNB.out fun h => hb1 h.1)
        clear hit hp hs hfr hit2 hlp h4p hb1
        go_wp2
        go_roundw
        case rel => exact HN2.out.1
        case measure => exact HN2.out.2

end Go.Proofs.Ytmggfdhlbjlpjaa
