/-
  DERIVED. The walk of the reference's rule at a unit that was taken. (Printed by rtaken.py.)
-/
import Derived.Test.YtmggfdhlbjlpjaaRJdg
import Derived.Outline
import Derived.StillTailTactics
namespace Go.Proofs.Ytmggfdhlbjlpjaa
open Go.RowKit
set_option linter.unusedSimpArgs false
set_option linter.unusedVariables false

set_option maxRecDepth 1000000 in
set_option maxHeartbeats 8000000 in
theorem rr_k2_s1 (O' : Nat → Prop) (j q qs b n i cap sc cc : Nat) (vst : Value) (st : JP) (f : FactP) (l : LineP) (h : Bool) (vf : Value) (cs : Array Value) (w : World) (hj : Blk w j (rCells (.slice (some ⟨q, 0, none⟩) n cap) (.slice (some ⟨qs, 0, none⟩) n sc) vst st) 48) (hqi : w.cell? ⟨q, i, none⟩ = some (.slice (some ⟨b, 0, none⟩) 2 cc)) (css : Array Value) (hsb : Blk w qs css 23) (hsc : css[i]? = some (.int .u32 l.session)) (hb : Blk w b cs 68) (hE : REndCs cs 0 l.e0 h) (hh : h = false → l.e0.value = []) (hf : Bs w O' vf f.data) (hi : i < n) (hc : f.conn = i) (hk : f.kind = 2) (hs : f.side = 1) (O : Nat → Prop) (SL : List FactP) (hS : Srow w 0 O vst SL) (hn : SL.length ≤ 4000) (bb : Bool) (hbb : SL.any f.meets = bb) (hmem : bb = true ↔ f.key (3 - f.side) ∈ l.sent) (hnb : ∀ x, O' x → ¬ x = b) :
    Calls Try.prog 19 #[.pointer (some ⟨j, 0, none⟩), factV f vf] w fun e w' => e = .returned (.int .i64 (l.see f).2) ∧ ∃ x' h', (l.see f).1 = { l with e0 := x' } ∧ REndTo w w' b cs 0 x' h' ∧ (h' = false → x'.value = []) := by
  have HCA := Lib.hid (fun W (kk : Fr No w W) => hbb ▸ sent_any O O' j _ _ vst st SL f vf W (kk.blk hj id) (hS.keep kk (fun _ _ _ _ => id) (fun _ _ _ _ => id) fun _ h _ => h) hn (hf.keep kk fun _ _ => id))
  obtain ⟨kind, conn, side, sess, number, on, code, data⟩ := f
  obtain ⟨a', cap', rfl, _, hrd'⟩ := hf
  dsimp only at hk hs hc hrd'
  subst hk hs hc
  show Calls Try.prog 19 #[.pointer (some ⟨j, 0, none⟩), .agg #[.int .i64 2, .int .i64 i, .int .i64 1, .int .u32 sess, .int .u32 number, .bool on, .int .i64 code, .slice a' data.length cap']] w _
  have hmem' : bb = true ↔ (⟨2, sess, number, data⟩ : Key) ∈ l.sent := hmem
  have HM := Lib.hid hmem'
  clear hmem hmem' hbb
  have hsi : w.cell? ⟨qs, i, none⟩ = some (.int .u32 l.session) := by rw [hsb.cell]; exact hsc
  have h3 : decide ((i : Int) < 0) = false := by simp
  have h5 : decide (n ≤ i) = false := by simp; omega
  have h1 : (0 : Int) ≤ i := by omega
  have h2 : (i : Int) < n := by omega
  have j0 : w.cell? ⟨j, 0, none⟩ = some (.slice (some ⟨q, 0, none⟩) n cap) := hj.cell 0
  have j1 : w.cell? ⟨j, 1, none⟩ = some (.slice (some ⟨qs, 0, none⟩) n sc) := hj.cell 1
  have hltj := hj.lt
  have hltb := hb.lt
  have hltq := lt_of_cell? hqi
  have hlts := lt_of_cell? hsi
  dsimp only at hltq hlts
  have HBB := Lib.hid hb
  have HEC := Lib.hid hE
  have HRD := Lib.hid hrd'
  have HH := Lib.hid hh
  have hfb := hb.free
  have HNB := Lib.hid hnb
  clear hj hb hE hrd' hh hsb hsc hS hn hnb
  have HSEE : Hid (LineP.see l ⟨2, i, 1, sess, number, on, code, data⟩ = (if l.takenRule ⟨2, i, 1, sess, number, on, code, data⟩ = 0 then { l with e0 := { l.e0 with took := true, session := sess, number := number, value := data, inn := sess } } else l, l.takenRule ⟨2, i, 1, sess, number, on, code, data⟩)) := by show _ = _; simp [LineP.see, LineP.takenTo, LineP.end_, LineP.setEnd]
  have HTK : Hid (l.takenRule ⟨2, i, 1, sess, number, on, code, data⟩ = if (⟨2, sess, number, data⟩ : Key) ∉ l.sent then 2 else if l.e0.took = true ∧ (sess < l.e0.session ∨ (sess = l.e0.session ∧ number ≤ l.e0.number)) then 3 else 0) := by show _ = _; simp [LineP.takenRule, LineP.end_, FactP.key]
  go_enter Try.func19, Try.ntmps19
  go_wp2
  go_quiet (fail)
  generalize nq = n0
  go_wp2
  go_quiet (fail)
  generalize nq = n1
  go_wp2
  obtain ⟨W1, hW1⟩ : ∃ W1, W1 = ((w.alloc (.cells #[.int .i64 2, .int .i64 i, .int .i64 1, .int .u32 sess, .int .u32 number, .bool on, .int .i64 code, .slice a' data.length cap'] 43)).drewN (n0 + n1)) := ⟨_, rfl⟩
  try simp only [World.drewN_drewN]
  rw [← hW1]
  have HF1 : Hid (Fr No w W1) := by show Fr _ _ _; rw [hW1]; exact ((Fr.refl No w).alloc _).drewN _
  have fB : Blk W1 w.heap.size #[.int .i64 2, .int .i64 i, .int .i64 1, .int .u32 sess, .int .u32 number, .bool on, .int .i64 code, .slice a' data.length cap'] 43 := by rw [hW1]; exact ((Fr.refl No _).drewN _).blk (Blk.new _ _ _) id
  have x0 : W1.cell? ⟨w.heap.size, 0, none⟩ = some (.int .i64 2) := fB.cell 0
  have x1 : W1.cell? ⟨w.heap.size, 1, none⟩ = some (.int .i64 i) := fB.cell 1
  have x2 : W1.cell? ⟨w.heap.size, 2, none⟩ = some (.int .i64 1) := fB.cell 2
  have x3 : W1.cell? ⟨w.heap.size, 3, none⟩ = some (.int .u32 sess) := fB.cell 3
  have x4 : W1.cell? ⟨w.heap.size, 4, none⟩ = some (.int .u32 number) := fB.cell 4
  have x5 : W1.cell? ⟨w.heap.size, 5, none⟩ = some (.bool on) := fB.cell 5
  have x6 : W1.cell? ⟨w.heap.size, 6, none⟩ = some (.int .i64 code) := fB.cell 6
  have x7 : W1.cell? ⟨w.heap.size, 7, none⟩ = some (.slice a' data.length cap') := fB.cell 7
  have y1 := HF1.out.old j1 id
  have yi := HF1.out.old hsi id
  have HFB := Lib.hid fB
  clear fB hW1 j0 hqi
  have kx : Fr No W1 W1.drew := (Fr.refl No W1).drew
  cases bb with
  | false =>
    have hno : (⟨2, sess, number, data⟩ : Key) ∉ l.sent := fun h => by have := HM.out.2 h; cases this
    rw [if_pos hno] at HTK
    rw [HTK.out, if_neg (by decide)] at HSEE
    clear hno
    refine wp_region_held_drew (S := fun W => W.cell? ⟨w.heap.size, 0, none⟩ = some (.int .i64 2) ∧ W.cell? ⟨w.heap.size, 1, none⟩ = some (.int .i64 i) ∧ W.cell? ⟨w.heap.size, 2, none⟩ = some (.int .i64 1) ∧ W.cell? ⟨w.heap.size, 3, none⟩ = some (.int .u32 sess) ∧ W.cell? ⟨w.heap.size, 4, none⟩ = some (.int .u32 number) ∧ W.cell? ⟨w.heap.size, 5, none⟩ = some (.bool on) ∧ W.cell? ⟨w.heap.size, 6, none⟩ = some (.int .i64 code) ∧ W.cell? ⟨w.heap.size, 7, none⟩ = some (.slice a' data.length cap') ∧ W.cell? ⟨j, 1, none⟩ = some (.slice (some ⟨qs, 0, none⟩) n sc) ∧ W.cell? ⟨qs, i, none⟩ = some (.int .u32 l.session)) (by kernel_rfl) ⟨kx.old x0 id, kx.old x1 id, kx.old x2 id, kx.old x3 id, kx.old x4 id, kx.old x5 id, kx.old x6 id, kx.old x7 id, kx.old y1 id, kx.old yi id⟩ (fun hHeld => ?_)
    refine wpAnyH_take (i := 0) (oi := { dst := some 85, op := Op.move (Operand.tmp 0), type := 31, pos := "ref.go:87", after := #[], guard := none }) (v := ?v1) rfl (by kernel_rfl) (by kernel_rfl) (by kernel_rfl) (fun _ _ _ h => h) (Or.inl ⟨by rfl, ?h1⟩) (by assumption) ?r1
    case h1 => (intro W hSw; (try dsimp only at hSw); go_simp; try with_reducible rfl)
    try simp only [Act.put, List.setIfInBounds_toArray, List.set_cons_zero, List.set_cons_succ]
    refine wpAnyH_take (i := 1) (oi := { dst := some 86, op := Op.load 43 (Operand.tmp 3), type := 43, pos := "ref.go:87", after := #[], guard := none }) (v := ?v2) rfl (by kernel_rfl) (by kernel_rfl) (by kernel_rfl) (fun _ _ _ h => h) (Or.inl ⟨by rfl, ?h2⟩) (by assumption) ?r2
    case h2 => (intro W hSw; (try dsimp only at hSw); go_simp; try with_reducible rfl)
    try simp only [Act.put, List.setIfInBounds_toArray, List.set_cons_zero, List.set_cons_succ]
    refine wpAnyH_ready (rs := [2]) (by kernel_rfl) (by simp) ?_
    refine AllReadyH.cons rfl (fun K hK => ?_) AllReadyH.nil
    go_simp
    go_wp2_with (go_at_call 25; refine (HCA.out _ (HF1.out.trans kx)).mono ?_; rintro e w2 ⟨rfl, hk2⟩; have kx := kx.trans hk2)
    refine hK.out _ _ (⟨kx.old x0 id, kx.old x1 id, kx.old x2 id, kx.old x3 id, kx.old x4 id, kx.old x5 id, kx.old x6 id, kx.old x7 id, kx.old y1 id, kx.old yi id⟩) (fun hHeld => ?_)
    clear hK K
    refine wpAnyH_take (i := 3) (oi := { dst := some 88, op := Op.unOp UnOp.not 4 (Operand.tmp 87), type := 4, pos := "ref.go:87", after := #[{ on := 2, ground := Ground.data }], guard := none }) (v := ?v3) rfl (by kernel_rfl) (by kernel_rfl) (by kernel_rfl) (fun _ _ _ h => h) (Or.inl ⟨by rfl, ?h3⟩) (by assumption) ?r3
    case h3 => (intro W hSw; (try dsimp only at hSw); go_simp; try with_reducible rfl)
    try simp only [Act.put, List.setIfInBounds_toArray, List.set_cons_zero, List.set_cons_succ]
    refine wpAnyH_take (i := 4) (oi := { dst := some 89, op := Op.move (Operand.tmp 88), type := 4, pos := "ref.go:87", after := #[{ on := 3, ground := Ground.data }, { on := 2, ground := Ground.chain }], guard := none }) (v := ?v4) rfl (by kernel_rfl) (by kernel_rfl) (by kernel_rfl) (fun _ _ _ h => h) (Or.inl ⟨by rfl, ?h4⟩) (by assumption) ?r4
    case h4 => (intro W hSw; (try dsimp only at hSw); go_simp; try with_reducible rfl)
    try simp only [Act.put, List.setIfInBounds_toArray, List.set_cons_zero, List.set_cons_succ]
    refine wpAnyH_take (i := 5) (oi := { dst := some 90, op := Op.move (Operand.tmp 6), type := 4, pos := "ref.go:87", after := #[{ on := 4, ground := Ground.guard }], guard := some (4, false) }) (v := undef) rfl (by kernel_rfl) (by kernel_rfl) (by kernel_rfl) (fun _ _ _ h => h) (Or.inr ⟨by rfl, rfl⟩) (by assumption) ?r5
    try simp only [Act.put, List.setIfInBounds_toArray, List.set_cons_zero, List.set_cons_succ]
    refine wpAnyH_take (i := 6) (oi := { dst := some 91, op := Op.move (Operand.tmp 90), type := 4, pos := "ref.go:87", after := #[{ on := 5, ground := Ground.data }, { on := 4, ground := Ground.chain }, { on := 4, ground := Ground.guard }], guard := some (4, false) }) (v := undef) rfl (by kernel_rfl) (by kernel_rfl) (by kernel_rfl) (fun _ _ _ h => h) (Or.inr ⟨by rfl, rfl⟩) (by assumption) ?r6
    try simp only [Act.put, List.setIfInBounds_toArray, List.set_cons_zero, List.set_cons_succ]
    refine wpAnyH_take (i := 7) (oi := { dst := some 92, op := Op.fieldAddr 43 (Operand.tmp 3) 3, type := 0, pos := "ref.go:87", after := #[{ on := 6, ground := Ground.guard }], guard := some (6, true) }) (v := undef) rfl (by kernel_rfl) (by kernel_rfl) (by kernel_rfl) (fun _ _ _ h => h) (Or.inr ⟨by rfl, rfl⟩) (by assumption) ?r7
    try simp only [Act.put, List.setIfInBounds_toArray, List.set_cons_zero, List.set_cons_succ]
    refine wpAnyH_take (i := 8) (oi := { dst := some 93, op := Op.load 23 (Operand.tmp 92), type := 23, pos := "ref.go:87", after := #[{ on := 7, ground := Ground.data }, { on := 6, ground := Ground.guard }], guard := some (6, true) }) (v := undef) rfl (by kernel_rfl) (by kernel_rfl) (by kernel_rfl) (fun _ _ _ h => h) (Or.inr ⟨by rfl, rfl⟩) (by assumption) ?r8
    try simp only [Act.put, List.setIfInBounds_toArray, List.set_cons_zero, List.set_cons_succ]
    refine wpAnyH_take (i := 9) (oi := { dst := some 94, op := Op.move (Operand.tmp 0), type := 31, pos := "ref.go:87", after := #[{ on := 6, ground := Ground.guard }], guard := some (6, true) }) (v := undef) rfl (by kernel_rfl) (by kernel_rfl) (by kernel_rfl) (fun _ _ _ h => h) (Or.inr ⟨by rfl, rfl⟩) (by assumption) ?r9
    try simp only [Act.put, List.setIfInBounds_toArray, List.set_cons_zero, List.set_cons_succ]
    refine wpAnyH_take (i := 10) (oi := { dst := some 95, op := Op.nilCheck (Operand.tmp 94), type := 0, pos := "ref.go:87", after := #[{ on := 9, ground := Ground.data }, { on := 6, ground := Ground.guard }], guard := some (6, true) }) (v := undef) rfl (by kernel_rfl) (by kernel_rfl) (by kernel_rfl) (fun _ _ _ h => h) (Or.inr ⟨by rfl, rfl⟩) (by assumption) ?r10
    try simp only [Act.put, List.setIfInBounds_toArray, List.set_cons_zero, List.set_cons_succ]
    refine wpAnyH_take (i := 11) (oi := { dst := some 96, op := Op.fieldAddr 48 (Operand.tmp 95) 1, type := 0, pos := "ref.go:87", after := #[{ on := 10, ground := Ground.data }, { on := 6, ground := Ground.guard }], guard := some (6, true) }) (v := undef) rfl (by kernel_rfl) (by kernel_rfl) (by kernel_rfl) (fun _ _ _ h => h) (Or.inr ⟨by rfl, rfl⟩) (by assumption) ?r11
    try simp only [Act.put, List.setIfInBounds_toArray, List.set_cons_zero, List.set_cons_succ]
    refine wpAnyH_take (i := 12) (oi := { dst := some 97, op := Op.load 46 (Operand.tmp 96), type := 46, pos := "ref.go:87", after := #[{ on := 11, ground := Ground.data }, { on := 6, ground := Ground.guard }], guard := some (6, true) }) (v := undef) rfl (by kernel_rfl) (by kernel_rfl) (by kernel_rfl) (fun _ _ _ h => h) (Or.inr ⟨by rfl, rfl⟩) (by assumption) ?r12
    try simp only [Act.put, List.setIfInBounds_toArray, List.set_cons_zero, List.set_cons_succ]
    refine wpAnyH_take (i := 13) (oi := { dst := some 98, op := Op.fieldAddr 43 (Operand.tmp 3) 1, type := 0, pos := "ref.go:87", after := #[{ on := 6, ground := Ground.guard }], guard := some (6, true) }) (v := undef) rfl (by kernel_rfl) (by kernel_rfl) (by kernel_rfl) (fun _ _ _ h => h) (Or.inr ⟨by rfl, rfl⟩) (by assumption) ?r13
    try simp only [Act.put, List.setIfInBounds_toArray, List.set_cons_zero, List.set_cons_succ]
    refine wpAnyH_take (i := 14) (oi := { dst := some 99, op := Op.load 3 (Operand.tmp 98), type := 3, pos := "ref.go:87", after := #[{ on := 13, ground := Ground.data }, { on := 6, ground := Ground.guard }], guard := some (6, true) }) (v := undef) rfl (by kernel_rfl) (by kernel_rfl) (by kernel_rfl) (fun _ _ _ h => h) (Or.inr ⟨by rfl, rfl⟩) (by assumption) ?r14
    try simp only [Act.put, List.setIfInBounds_toArray, List.set_cons_zero, List.set_cons_succ]
    refine wpAnyH_take (i := 15) (oi := { dst := some 100, op := Op.indexAddr 46 (Operand.tmp 97) (Operand.tmp 99), type := 0, pos := "ref.go:87", after := #[{ on := 12, ground := Ground.data }, { on := 14, ground := Ground.data }, { on := 6, ground := Ground.guard }], guard := some (6, true) }) (v := undef) rfl (by kernel_rfl) (by kernel_rfl) (by kernel_rfl) (fun _ _ _ h => h) (Or.inr ⟨by rfl, rfl⟩) (by assumption) ?r15
    try simp only [Act.put, List.setIfInBounds_toArray, List.set_cons_zero, List.set_cons_succ]
    refine wpAnyH_take (i := 16) (oi := { dst := some 101, op := Op.load 23 (Operand.tmp 100), type := 23, pos := "ref.go:87", after := #[{ on := 15, ground := Ground.data }, { on := 6, ground := Ground.guard }], guard := some (6, true) }) (v := undef) rfl (by kernel_rfl) (by kernel_rfl) (by kernel_rfl) (fun _ _ _ h => h) (Or.inr ⟨by rfl, rfl⟩) (by assumption) ?r16
    try simp only [Act.put, List.setIfInBounds_toArray, List.set_cons_zero, List.set_cons_succ]
    refine wpAnyH_take (i := 17) (oi := { dst := some 102, op := Op.binOp BinOp.neq 23 (Operand.tmp 93) (Operand.tmp 101) 23, type := 4, pos := "ref.go:87", after := #[{ on := 8, ground := Ground.data }, { on := 16, ground := Ground.data }, { on := 6, ground := Ground.guard }], guard := some (6, true) }) (v := undef) rfl (by kernel_rfl) (by kernel_rfl) (by kernel_rfl) (fun _ _ _ h => h) (Or.inr ⟨by rfl, rfl⟩) (by assumption) ?r17
    try simp only [Act.put, List.setIfInBounds_toArray, List.set_cons_zero, List.set_cons_succ]
    refine wpAnyH_take (i := 18) (oi := { dst := some 103, op := Op.pick (Operand.tmp 91) (Operand.tmp 102) (Operand.const (Value.bool false)), type := 4, pos := "ref.go:87", after := #[{ on := 6, ground := Ground.data }, { on := 17, ground := Ground.data }, { on := 4, ground := Ground.guard }], guard := some (4, false) }) (v := undef) rfl (by kernel_rfl) (by kernel_rfl) (by kernel_rfl) (fun _ _ _ h => h) (Or.inr ⟨by rfl, rfl⟩) (by assumption) ?r18
    try simp only [Act.put, List.setIfInBounds_toArray, List.set_cons_zero, List.set_cons_succ]
    refine wpAnyH_take (i := 19) (oi := { dst := some 104, op := Op.pick (Operand.tmp 89) (Operand.const (Value.bool true)) (Operand.tmp 103), type := 4, pos := "ref.go:87", after := #[{ on := 4, ground := Ground.data }, { on := 18, ground := Ground.data }], guard := none }) (v := ?v19) rfl (by kernel_rfl) (by kernel_rfl) (by kernel_rfl) (fun _ _ _ h => h) (Or.inl ⟨by rfl, ?h19⟩) (by assumption) ?r19
    case h19 => (intro W hSw; (try dsimp only at hSw); go_simp; try with_reducible rfl)
    try simp only [Act.put, List.setIfInBounds_toArray, List.set_cons_zero, List.set_cons_succ]
    refine wpAnyH_done (by kernel_rfl) ?_ _
    go_wp2
    go_ret
    rw [HSEE.out]
    have kw := HF1.out.trans kx
    exact ⟨rfl, _, _, rfl, (REndTo.refl (kw.blk HBB.out id) HEC.out).ahead kw, HH.out⟩
  | true =>
    have hyes : (⟨2, sess, number, data⟩ : Key) ∈ l.sent := HM.out.1 rfl
    rw [if_neg (fun h => h hyes)] at HTK
    clear hyes
    refine wp_region_held_drew (S := fun W => W.cell? ⟨w.heap.size, 0, none⟩ = some (.int .i64 2) ∧ W.cell? ⟨w.heap.size, 1, none⟩ = some (.int .i64 i) ∧ W.cell? ⟨w.heap.size, 2, none⟩ = some (.int .i64 1) ∧ W.cell? ⟨w.heap.size, 3, none⟩ = some (.int .u32 sess) ∧ W.cell? ⟨w.heap.size, 4, none⟩ = some (.int .u32 number) ∧ W.cell? ⟨w.heap.size, 5, none⟩ = some (.bool on) ∧ W.cell? ⟨w.heap.size, 6, none⟩ = some (.int .i64 code) ∧ W.cell? ⟨w.heap.size, 7, none⟩ = some (.slice a' data.length cap') ∧ W.cell? ⟨j, 1, none⟩ = some (.slice (some ⟨qs, 0, none⟩) n sc) ∧ W.cell? ⟨qs, i, none⟩ = some (.int .u32 l.session)) (by kernel_rfl) ⟨kx.old x0 id, kx.old x1 id, kx.old x2 id, kx.old x3 id, kx.old x4 id, kx.old x5 id, kx.old x6 id, kx.old x7 id, kx.old y1 id, kx.old yi id⟩ (fun hHeld => ?_)
    refine wpAnyH_take (i := 0) (oi := { dst := some 85, op := Op.move (Operand.tmp 0), type := 31, pos := "ref.go:87", after := #[], guard := none }) (v := ?v20) rfl (by kernel_rfl) (by kernel_rfl) (by kernel_rfl) (fun _ _ _ h => h) (Or.inl ⟨by rfl, ?h20⟩) (by assumption) ?r20
    case h20 => (intro W hSw; (try dsimp only at hSw); go_simp; try with_reducible rfl)
    try simp only [Act.put, List.setIfInBounds_toArray, List.set_cons_zero, List.set_cons_succ]
    refine wpAnyH_take (i := 1) (oi := { dst := some 86, op := Op.load 43 (Operand.tmp 3), type := 43, pos := "ref.go:87", after := #[], guard := none }) (v := ?v21) rfl (by kernel_rfl) (by kernel_rfl) (by kernel_rfl) (fun _ _ _ h => h) (Or.inl ⟨by rfl, ?h21⟩) (by assumption) ?r21
    case h21 => (intro W hSw; (try dsimp only at hSw); go_simp; try with_reducible rfl)
    try simp only [Act.put, List.setIfInBounds_toArray, List.set_cons_zero, List.set_cons_succ]
    refine wpAnyH_ready (rs := [2]) (by kernel_rfl) (by simp) ?_
    refine AllReadyH.cons rfl (fun K hK => ?_) AllReadyH.nil
    go_simp
    go_wp2_with (go_at_call 25; refine (HCA.out _ (HF1.out.trans kx)).mono ?_; rintro e w2 ⟨rfl, hk2⟩; have kx := kx.trans hk2)
    refine hK.out _ _ (⟨kx.old x0 id, kx.old x1 id, kx.old x2 id, kx.old x3 id, kx.old x4 id, kx.old x5 id, kx.old x6 id, kx.old x7 id, kx.old y1 id, kx.old yi id⟩) (fun hHeld => ?_)
    clear hK K
    refine wpAnyH_take (i := 3) (oi := { dst := some 88, op := Op.unOp UnOp.not 4 (Operand.tmp 87), type := 4, pos := "ref.go:87", after := #[{ on := 2, ground := Ground.data }], guard := none }) (v := ?v22) rfl (by kernel_rfl) (by kernel_rfl) (by kernel_rfl) (fun _ _ _ h => h) (Or.inl ⟨by rfl, ?h22⟩) (by assumption) ?r22
    case h22 => (intro W hSw; (try dsimp only at hSw); go_simp; try with_reducible rfl)
    try simp only [Act.put, List.setIfInBounds_toArray, List.set_cons_zero, List.set_cons_succ]
    refine wpAnyH_take (i := 4) (oi := { dst := some 89, op := Op.move (Operand.tmp 88), type := 4, pos := "ref.go:87", after := #[{ on := 3, ground := Ground.data }, { on := 2, ground := Ground.chain }], guard := none }) (v := ?v23) rfl (by kernel_rfl) (by kernel_rfl) (by kernel_rfl) (fun _ _ _ h => h) (Or.inl ⟨by rfl, ?h23⟩) (by assumption) ?r23
    case h23 => (intro W hSw; (try dsimp only at hSw); go_simp; try with_reducible rfl)
    try simp only [Act.put, List.setIfInBounds_toArray, List.set_cons_zero, List.set_cons_succ]
    refine wpAnyH_take (i := 5) (oi := { dst := some 90, op := Op.move (Operand.tmp 6), type := 4, pos := "ref.go:87", after := #[{ on := 4, ground := Ground.guard }], guard := some (4, false) }) (v := ?v24) rfl (by kernel_rfl) (by kernel_rfl) (by kernel_rfl) (fun _ _ _ h => h) (Or.inl ⟨by rfl, ?h24⟩) (by assumption) ?r24
    case h24 => (intro W hSw; (try dsimp only at hSw); go_simp; try with_reducible rfl)
    try simp only [Act.put, List.setIfInBounds_toArray, List.set_cons_zero, List.set_cons_succ]
    refine wpAnyH_take (i := 6) (oi := { dst := some 91, op := Op.move (Operand.tmp 90), type := 4, pos := "ref.go:87", after := #[{ on := 5, ground := Ground.data }, { on := 4, ground := Ground.chain }, { on := 4, ground := Ground.guard }], guard := some (4, false) }) (v := ?v25) rfl (by kernel_rfl) (by kernel_rfl) (by kernel_rfl) (fun _ _ _ h => h) (Or.inl ⟨by rfl, ?h25⟩) (by assumption) ?r25
    case h25 => (intro W hSw; (try dsimp only at hSw); go_simp; try with_reducible rfl)
    try simp only [Act.put, List.setIfInBounds_toArray, List.set_cons_zero, List.set_cons_succ]
    refine wpAnyH_take (i := 7) (oi := { dst := some 92, op := Op.fieldAddr 43 (Operand.tmp 3) 3, type := 0, pos := "ref.go:87", after := #[{ on := 6, ground := Ground.guard }], guard := some (6, true) }) (v := undef) rfl (by kernel_rfl) (by kernel_rfl) (by kernel_rfl) (fun _ _ _ h => h) (Or.inr ⟨by rfl, rfl⟩) (by assumption) ?r26
    try simp only [Act.put, List.setIfInBounds_toArray, List.set_cons_zero, List.set_cons_succ]
    refine wpAnyH_take (i := 8) (oi := { dst := some 93, op := Op.load 23 (Operand.tmp 92), type := 23, pos := "ref.go:87", after := #[{ on := 7, ground := Ground.data }, { on := 6, ground := Ground.guard }], guard := some (6, true) }) (v := undef) rfl (by kernel_rfl) (by kernel_rfl) (by kernel_rfl) (fun _ _ _ h => h) (Or.inr ⟨by rfl, rfl⟩) (by assumption) ?r27
    try simp only [Act.put, List.setIfInBounds_toArray, List.set_cons_zero, List.set_cons_succ]
    refine wpAnyH_take (i := 9) (oi := { dst := some 94, op := Op.move (Operand.tmp 0), type := 31, pos := "ref.go:87", after := #[{ on := 6, ground := Ground.guard }], guard := some (6, true) }) (v := undef) rfl (by kernel_rfl) (by kernel_rfl) (by kernel_rfl) (fun _ _ _ h => h) (Or.inr ⟨by rfl, rfl⟩) (by assumption) ?r28
    try simp only [Act.put, List.setIfInBounds_toArray, List.set_cons_zero, List.set_cons_succ]
    refine wpAnyH_take (i := 10) (oi := { dst := some 95, op := Op.nilCheck (Operand.tmp 94), type := 0, pos := "ref.go:87", after := #[{ on := 9, ground := Ground.data }, { on := 6, ground := Ground.guard }], guard := some (6, true) }) (v := undef) rfl (by kernel_rfl) (by kernel_rfl) (by kernel_rfl) (fun _ _ _ h => h) (Or.inr ⟨by rfl, rfl⟩) (by assumption) ?r29
    try simp only [Act.put, List.setIfInBounds_toArray, List.set_cons_zero, List.set_cons_succ]
    refine wpAnyH_take (i := 11) (oi := { dst := some 96, op := Op.fieldAddr 48 (Operand.tmp 95) 1, type := 0, pos := "ref.go:87", after := #[{ on := 10, ground := Ground.data }, { on := 6, ground := Ground.guard }], guard := some (6, true) }) (v := undef) rfl (by kernel_rfl) (by kernel_rfl) (by kernel_rfl) (fun _ _ _ h => h) (Or.inr ⟨by rfl, rfl⟩) (by assumption) ?r30
    try simp only [Act.put, List.setIfInBounds_toArray, List.set_cons_zero, List.set_cons_succ]
    refine wpAnyH_take (i := 12) (oi := { dst := some 97, op := Op.load 46 (Operand.tmp 96), type := 46, pos := "ref.go:87", after := #[{ on := 11, ground := Ground.data }, { on := 6, ground := Ground.guard }], guard := some (6, true) }) (v := undef) rfl (by kernel_rfl) (by kernel_rfl) (by kernel_rfl) (fun _ _ _ h => h) (Or.inr ⟨by rfl, rfl⟩) (by assumption) ?r31
    try simp only [Act.put, List.setIfInBounds_toArray, List.set_cons_zero, List.set_cons_succ]
    refine wpAnyH_take (i := 13) (oi := { dst := some 98, op := Op.fieldAddr 43 (Operand.tmp 3) 1, type := 0, pos := "ref.go:87", after := #[{ on := 6, ground := Ground.guard }], guard := some (6, true) }) (v := undef) rfl (by kernel_rfl) (by kernel_rfl) (by kernel_rfl) (fun _ _ _ h => h) (Or.inr ⟨by rfl, rfl⟩) (by assumption) ?r32
    try simp only [Act.put, List.setIfInBounds_toArray, List.set_cons_zero, List.set_cons_succ]
    refine wpAnyH_take (i := 14) (oi := { dst := some 99, op := Op.load 3 (Operand.tmp 98), type := 3, pos := "ref.go:87", after := #[{ on := 13, ground := Ground.data }, { on := 6, ground := Ground.guard }], guard := some (6, true) }) (v := undef) rfl (by kernel_rfl) (by kernel_rfl) (by kernel_rfl) (fun _ _ _ h => h) (Or.inr ⟨by rfl, rfl⟩) (by assumption) ?r33
    try simp only [Act.put, List.setIfInBounds_toArray, List.set_cons_zero, List.set_cons_succ]
    refine wpAnyH_take (i := 15) (oi := { dst := some 100, op := Op.indexAddr 46 (Operand.tmp 97) (Operand.tmp 99), type := 0, pos := "ref.go:87", after := #[{ on := 12, ground := Ground.data }, { on := 14, ground := Ground.data }, { on := 6, ground := Ground.guard }], guard := some (6, true) }) (v := undef) rfl (by kernel_rfl) (by kernel_rfl) (by kernel_rfl) (fun _ _ _ h => h) (Or.inr ⟨by rfl, rfl⟩) (by assumption) ?r34
    try simp only [Act.put, List.setIfInBounds_toArray, List.set_cons_zero, List.set_cons_succ]
    refine wpAnyH_take (i := 16) (oi := { dst := some 101, op := Op.load 23 (Operand.tmp 100), type := 23, pos := "ref.go:87", after := #[{ on := 15, ground := Ground.data }, { on := 6, ground := Ground.guard }], guard := some (6, true) }) (v := undef) rfl (by kernel_rfl) (by kernel_rfl) (by kernel_rfl) (fun _ _ _ h => h) (Or.inr ⟨by rfl, rfl⟩) (by assumption) ?r35
    try simp only [Act.put, List.setIfInBounds_toArray, List.set_cons_zero, List.set_cons_succ]
    refine wpAnyH_take (i := 17) (oi := { dst := some 102, op := Op.binOp BinOp.neq 23 (Operand.tmp 93) (Operand.tmp 101) 23, type := 4, pos := "ref.go:87", after := #[{ on := 8, ground := Ground.data }, { on := 16, ground := Ground.data }, { on := 6, ground := Ground.guard }], guard := some (6, true) }) (v := undef) rfl (by kernel_rfl) (by kernel_rfl) (by kernel_rfl) (fun _ _ _ h => h) (Or.inr ⟨by rfl, rfl⟩) (by assumption) ?r36
    try simp only [Act.put, List.setIfInBounds_toArray, List.set_cons_zero, List.set_cons_succ]
    refine wpAnyH_take (i := 18) (oi := { dst := some 103, op := Op.pick (Operand.tmp 91) (Operand.tmp 102) (Operand.const (Value.bool false)), type := 4, pos := "ref.go:87", after := #[{ on := 6, ground := Ground.data }, { on := 17, ground := Ground.data }, { on := 4, ground := Ground.guard }], guard := some (4, false) }) (v := ?v37) rfl (by kernel_rfl) (by kernel_rfl) (by kernel_rfl) (fun _ _ _ h => h) (Or.inl ⟨by rfl, ?h37⟩) (by assumption) ?r37
    case h37 => (intro W hSw; (try dsimp only at hSw); go_simp; try with_reducible rfl)
    try simp only [Act.put, List.setIfInBounds_toArray, List.set_cons_zero, List.set_cons_succ]
    refine wpAnyH_take (i := 19) (oi := { dst := some 104, op := Op.pick (Operand.tmp 89) (Operand.const (Value.bool true)) (Operand.tmp 103), type := 4, pos := "ref.go:87", after := #[{ on := 4, ground := Ground.data }, { on := 18, ground := Ground.data }], guard := none }) (v := ?v38) rfl (by kernel_rfl) (by kernel_rfl) (by kernel_rfl) (fun _ _ _ h => h) (Or.inl ⟨by rfl, ?h38⟩) (by assumption) ?r38
    case h38 => (intro W hSw; (try dsimp only at hSw); go_simp; try with_reducible rfl)
    try simp only [Act.put, List.setIfInBounds_toArray, List.set_cons_zero, List.set_cons_succ]
    refine wpAnyH_done (by kernel_rfl) ?_ _
    have kw := HF1.out.trans kx
    obtain ⟨c0, c1, c2, c3, c4, c5, c6, c7, c8, c9, c10⟩ := rend_cells (kw.blk HBB.out id) HEC.out
    simp only [Nat.zero_add, Nat.reduceAdd] at c0 c1 c2 c3 c4 c5 c6 c7 c8 c9 c10
    clear c0 c7 c8 c9 c10
    have s3 := kx.old x3 id
    have s4 := kx.old x4 id
    have s7 := kx.old x7 id
    have KW := Lib.hid kw
    have fBB := KW.out.blk HBB.out id
    have z1 : w2.frozen? ⟨b, 1, none⟩ = false := fBB.free 1
    have z2 : w2.frozen? ⟨b, 2, none⟩ = false := fBB.free 2
    have z3 : w2.frozen? ⟨b, 3, none⟩ = false := fBB.free 3
    have z4 : w2.frozen? ⟨b, 4, none⟩ = false := fBB.free 4
    have z5 : w2.frozen? ⟨b, 5, none⟩ = false := fBB.free 5
    have z6 : w2.frozen? ⟨b, 6, none⟩ = false := fBB.free 6
    have hr := REndTo.refl fBB HEC.out
    have HR := Lib.hid hr
    have hb2 := fBB.lt
    have hx2 := lt_of_cell? s3
    dsimp only at hx2
    have nb1 : ¬ w.heap.size = b := by omega
    have nb2 : ¬ b = w.heap.size := by omega
    have hrd2 := HRD.out.keep kw fun _ _ => id
    have HRD2 := Lib.hid hrd2
    have HS3 := Lib.hid s3
    have HS7 := Lib.hid s7
    clear hr hrd2 fBB kw x0 x1 x2 x3 x4 x5 x6 x7 y1 yi hHeld HCA
    clear kx hk2
    go_wp2
    have htk : (l.e0.took = true ∧ (sess < l.e0.session ∨ (sess = l.e0.session ∧ number ≤ l.e0.number))) ∨ ¬ (l.e0.took = true ∧ (sess < l.e0.session ∨ (sess = l.e0.session ∧ number ≤ l.e0.number))) := Classical.em _
    rcases htk with htk | htk
    · rw [if_pos htk] at HTK
      rw [HTK.out, if_neg (by decide)] at HSEE
      obtain ⟨h1', h2'⟩ := htk
      rw [h1'] at c1
      have hcs : decide (sess < l.e0.session) = true ∨ (decide (sess < l.e0.session) = false ∧ (sess == l.e0.session) = true ∧ decide (number ≤ l.e0.number) = true) := by
        rcases h2' with h | ⟨h, h'⟩
        · exact .inl (decide_eq_true h)
        · exact .inr ⟨decide_eq_false (by omega), by simpa using h, decide_eq_true h'⟩
      clear h2' h1'
      rcases hcs with g1 | ⟨g1, g2, g3⟩
      · go_quiet (fail)
        generalize nq = n2
        go_wp2
        go_ret
        rw [HSEE.out]
        exact ⟨rfl, _, _, rfl, (HR.out.ahead KW.out).drewN _, HH.out⟩
      · go_quiet (fail)
        generalize nq = n2
        go_wp2
        go_ret
        rw [HSEE.out]
        exact ⟨rfl, _, _, rfl, (HR.out.ahead KW.out).drewN _, HH.out⟩
    · rw [if_neg htk] at HTK
      rw [HTK.out, if_pos rfl] at HSEE
      have hcs : l.e0.took = false ∨ (l.e0.took = true ∧ decide (sess < l.e0.session) = false ∧ (sess == l.e0.session) = false) ∨ (l.e0.took = true ∧ decide (sess < l.e0.session) = false ∧ (sess == l.e0.session) = true ∧ decide (number ≤ l.e0.number) = false) := by
        by_cases t1 : l.e0.took = true
        · right
          by_cases t2 : sess = l.e0.session
          · exact .inr ⟨t1, decide_eq_false (by omega), by simpa using t2, decide_eq_false fun h => htk ⟨t1, .inr ⟨t2, h⟩⟩⟩
          · exact .inl ⟨t1, decide_eq_false fun h => htk ⟨t1, .inl h⟩, by simpa using t2⟩
        · exact .inl (by simpa using t1)
      clear htk
      rcases hcs with g1 | ⟨g1, g2, g3⟩ | ⟨g1, g2, g3, g4⟩
      · rw [g1] at c1
        clear g1
        go_quiet (fail)
        generalize nq = n2
        clear hsi
        go_wp2
        generalize hW2 : w2.drewN n2 = W2
        have k2 : Fr No w2 W2 := hW2 ▸ (Fr.refl No w2).drewN n2
        clear hW2
        have t1 := k2.old c1 id
        have t2 := k2.old c2 id
        have t3 := k2.old c3 id
        have t4 := k2.old c4 id
        have t5 := k2.old c5 id
        have t6 := k2.old c6 id
        have r3 := k2.old s3 id
        have r4 := k2.old s4 id
        have r7 := k2.old s7 id
        have R2 := HR.out.fr k2
        have Z1 : W2.frozen? ⟨b, 1, none⟩ = false := (k2.blk (KW.out.blk HBB.out id) id).free 1
        have Z2 : W2.frozen? ⟨b, 2, none⟩ = false := (k2.blk (KW.out.blk HBB.out id) id).free 2
        have Z3 : W2.frozen? ⟨b, 3, none⟩ = false := (k2.blk (KW.out.blk HBB.out id) id).free 3
        have Z4 : W2.frozen? ⟨b, 4, none⟩ = false := (k2.blk (KW.out.blk HBB.out id) id).free 4
        have Z5 : W2.frozen? ⟨b, 5, none⟩ = false := (k2.blk (KW.out.blk HBB.out id) id).free 5
        have Z6 : W2.frozen? ⟨b, 6, none⟩ = false := (k2.blk (KW.out.blk HBB.out id) id).free 6
        have HR2 := Lib.hid R2
        have HRD3 := Lib.hid (HRD2.out.keep k2 fun _ _ => id)
        have K2 := Lib.hid k2
        clear R2 k2 c1 c2 c3 c4 c5 c6 s3 s4 s7 z1 z2 z3 z4 z5 z6 hx2 hb2
        go_region_held (fun W => W.cell? ⟨w.heap.size, 3, none⟩ = some (.int .u32 sess) ∧ W.cell? ⟨w.heap.size, 4, none⟩ = some (.int .u32 number)) (go_keep) (fail)
        go_wp2
        have R3 : REndTo w2 ((((W2.setCell ⟨b, 1, none⟩ (.bool true)).setCell ⟨b, 2, none⟩ (.int .u32 sess)).setCell ⟨b, 3, none⟩ (.int .u32 number)).drew) b cs 0 { l.e0 with took := true, session := sess, number := number } h := by
          have := (((HR2.out.set (x' := { l.e0 with took := true }) (h' := h) 1 _ (by omega) rfl).set (x' := { l.e0 with took := true, session := sess }) (h' := h) 2 _ (by omega) rfl).set (x' := { l.e0 with took := true, session := sess, number := number }) (h' := h) 3 _ (by omega) rfl).drew
          exact this
        clear t1 t2 t3 t4 t5 t6 r3 r4 r7 Z1 Z2 Z3 Z4 Z5 Z6 HRD3 HR2 K2
        generalize ((((W2.setCell ⟨b, 1, none⟩ (.bool true)).setCell ⟨b, 2, none⟩ (.int .u32 sess)).setCell ⟨b, 3, none⟩ (.int .u32 number)).drew) = W3 at R3 ⊢
        obtain ⟨cs3, B3, E3, _, k3⟩ := id R3
        obtain ⟨c0, c1, c2, c3, c4, c5, c6, c7, c8, c9, c10⟩ := rend_cells B3 E3
        simp only [Nat.zero_add, Nat.reduceAdd] at c0 c1 c2 c3 c4 c5 c6 c7 c8 c9 c10
        clear c0 c1 c2 c3 c7 c8 c9 c10
        have s3 := k3.old HS3.out nb1
        have s7 := k3.old HS7.out nb1
        have Z4 : W3.frozen? ⟨b, 4, none⟩ = false := B3.free 4
        have Z5 : W3.frozen? ⟨b, 5, none⟩ = false := B3.free 5
        have Z6 : W3.frozen? ⟨b, 6, none⟩ = false := B3.free 6
        have hrd3 := HRD2.out.keep k3 HNB.out
        have HR3 := Lib.hid R3
        have HB3 := Lib.hid B3
        have HKP : Hid (∀ W, Fr (fun x => x = b) W3 W → (fun W => W.cell? ⟨w.heap.size, 3, none⟩ = some (.int .u32 sess) ∧ W.cell? ⟨w.heap.size, 7, none⟩ = some (.slice a' data.length cap') ∧ (convert 41 9 (.slice a' data.length cap')).run Try.prog W = .ok (.string (strV data)) W) W) := by
          intro W k
          exact ⟨k.old s3 nb1, k.old s7 nb1, conv_rd (hrd3.keep k HNB.out)⟩
        clear hrd3 R3 B3 E3 k3
        have f0 : Fr (fun x => x = b) W3 W3.drew := (Fr.refl _ W3).drew
        go_region_held (fun W => W.cell? ⟨w.heap.size, 3, none⟩ = some (.int .u32 sess) ∧ W.cell? ⟨w.heap.size, 7, none⟩ = some (.slice a' data.length cap') ∧ (convert 41 9 (.slice a' data.length cap')).run Try.prog W = .ok (.string (strV data)) W) (first | (exact HKP.out _ f0) | (exact HKP.out _ (f0.setCell (p := ⟨b, 4, none⟩) (fun _ => rfl) _)) | (exact HKP.out _ ((f0.setCell (p := ⟨b, 4, none⟩) (fun _ => rfl) _).setCell (p := ⟨b, 5, none⟩) (fun _ => rfl) _)) | (exact HKP.out _ (((f0.setCell (p := ⟨b, 4, none⟩) (fun _ => rfl) _).setCell (p := ⟨b, 5, none⟩) (fun _ => rfl) _).setCell (p := ⟨b, 6, none⟩) (fun _ => rfl) _))) (fail)
        go_wp2
        go_ret
        rw [HSEE.out]
        have R6 := ((HR3.out.set (x' := { l.e0 with took := true, session := sess, number := number }) (h' := true) 4 _ (by omega) rfl).set (x' := { l.e0 with took := true, session := sess, number := number, value := data }) (h' := true) 5 _ (by omega) rfl).set (x' := { l.e0 with took := true, session := sess, number := number, value := data, inn := sess }) (h' := true) 6 _ (by omega) rfl
        first | exact ⟨rfl, _, _, rfl, (R6.drew).ahead KW.out, fun h => by cases h⟩ | exact ⟨rfl, _, rfl, .inr ((R6.drew).ahead KW.out)⟩
      · rw [g1] at c1
        clear g1
        go_quiet (fail)
        generalize nq = n2
        clear hsi
        go_wp2
        generalize hW2 : w2.drewN n2 = W2
        have k2 : Fr No w2 W2 := hW2 ▸ (Fr.refl No w2).drewN n2
        clear hW2
        have t1 := k2.old c1 id
        have t2 := k2.old c2 id
        have t3 := k2.old c3 id
        have t4 := k2.old c4 id
        have t5 := k2.old c5 id
        have t6 := k2.old c6 id
        have r3 := k2.old s3 id
        have r4 := k2.old s4 id
        have r7 := k2.old s7 id
        have R2 := HR.out.fr k2
        have Z1 : W2.frozen? ⟨b, 1, none⟩ = false := (k2.blk (KW.out.blk HBB.out id) id).free 1
        have Z2 : W2.frozen? ⟨b, 2, none⟩ = false := (k2.blk (KW.out.blk HBB.out id) id).free 2
        have Z3 : W2.frozen? ⟨b, 3, none⟩ = false := (k2.blk (KW.out.blk HBB.out id) id).free 3
        have Z4 : W2.frozen? ⟨b, 4, none⟩ = false := (k2.blk (KW.out.blk HBB.out id) id).free 4
        have Z5 : W2.frozen? ⟨b, 5, none⟩ = false := (k2.blk (KW.out.blk HBB.out id) id).free 5
        have Z6 : W2.frozen? ⟨b, 6, none⟩ = false := (k2.blk (KW.out.blk HBB.out id) id).free 6
        have HR2 := Lib.hid R2
        have HRD3 := Lib.hid (HRD2.out.keep k2 fun _ _ => id)
        have K2 := Lib.hid k2
        clear R2 k2 c1 c2 c3 c4 c5 c6 s3 s4 s7 z1 z2 z3 z4 z5 z6 hx2 hb2
        go_region_held (fun W => W.cell? ⟨w.heap.size, 3, none⟩ = some (.int .u32 sess) ∧ W.cell? ⟨w.heap.size, 4, none⟩ = some (.int .u32 number)) (go_keep) (fail)
        go_wp2
        have R3 : REndTo w2 ((((W2.setCell ⟨b, 1, none⟩ (.bool true)).setCell ⟨b, 2, none⟩ (.int .u32 sess)).setCell ⟨b, 3, none⟩ (.int .u32 number)).drew) b cs 0 { l.e0 with took := true, session := sess, number := number } h := by
          have := (((HR2.out.set (x' := { l.e0 with took := true }) (h' := h) 1 _ (by omega) rfl).set (x' := { l.e0 with took := true, session := sess }) (h' := h) 2 _ (by omega) rfl).set (x' := { l.e0 with took := true, session := sess, number := number }) (h' := h) 3 _ (by omega) rfl).drew
          exact this
        clear t1 t2 t3 t4 t5 t6 r3 r4 r7 Z1 Z2 Z3 Z4 Z5 Z6 HRD3 HR2 K2
        generalize ((((W2.setCell ⟨b, 1, none⟩ (.bool true)).setCell ⟨b, 2, none⟩ (.int .u32 sess)).setCell ⟨b, 3, none⟩ (.int .u32 number)).drew) = W3 at R3 ⊢
        obtain ⟨cs3, B3, E3, _, k3⟩ := id R3
        obtain ⟨c0, c1, c2, c3, c4, c5, c6, c7, c8, c9, c10⟩ := rend_cells B3 E3
        simp only [Nat.zero_add, Nat.reduceAdd] at c0 c1 c2 c3 c4 c5 c6 c7 c8 c9 c10
        clear c0 c1 c2 c3 c7 c8 c9 c10
        have s3 := k3.old HS3.out nb1
        have s7 := k3.old HS7.out nb1
        have Z4 : W3.frozen? ⟨b, 4, none⟩ = false := B3.free 4
        have Z5 : W3.frozen? ⟨b, 5, none⟩ = false := B3.free 5
        have Z6 : W3.frozen? ⟨b, 6, none⟩ = false := B3.free 6
        have hrd3 := HRD2.out.keep k3 HNB.out
        have HR3 := Lib.hid R3
        have HB3 := Lib.hid B3
        have HKP : Hid (∀ W, Fr (fun x => x = b) W3 W → (fun W => W.cell? ⟨w.heap.size, 3, none⟩ = some (.int .u32 sess) ∧ W.cell? ⟨w.heap.size, 7, none⟩ = some (.slice a' data.length cap') ∧ (convert 41 9 (.slice a' data.length cap')).run Try.prog W = .ok (.string (strV data)) W) W) := by
          intro W k
          exact ⟨k.old s3 nb1, k.old s7 nb1, conv_rd (hrd3.keep k HNB.out)⟩
        clear hrd3 R3 B3 E3 k3
        have f0 : Fr (fun x => x = b) W3 W3.drew := (Fr.refl _ W3).drew
        go_region_held (fun W => W.cell? ⟨w.heap.size, 3, none⟩ = some (.int .u32 sess) ∧ W.cell? ⟨w.heap.size, 7, none⟩ = some (.slice a' data.length cap') ∧ (convert 41 9 (.slice a' data.length cap')).run Try.prog W = .ok (.string (strV data)) W) (first | (exact HKP.out _ f0) | (exact HKP.out _ (f0.setCell (p := ⟨b, 4, none⟩) (fun _ => rfl) _)) | (exact HKP.out _ ((f0.setCell (p := ⟨b, 4, none⟩) (fun _ => rfl) _).setCell (p := ⟨b, 5, none⟩) (fun _ => rfl) _)) | (exact HKP.out _ (((f0.setCell (p := ⟨b, 4, none⟩) (fun _ => rfl) _).setCell (p := ⟨b, 5, none⟩) (fun _ => rfl) _).setCell (p := ⟨b, 6, none⟩) (fun _ => rfl) _))) (fail)
        go_wp2
        go_ret
        rw [HSEE.out]
        have R6 := ((HR3.out.set (x' := { l.e0 with took := true, session := sess, number := number }) (h' := true) 4 _ (by omega) rfl).set (x' := { l.e0 with took := true, session := sess, number := number, value := data }) (h' := true) 5 _ (by omega) rfl).set (x' := { l.e0 with took := true, session := sess, number := number, value := data, inn := sess }) (h' := true) 6 _ (by omega) rfl
        first | exact ⟨rfl, _, _, rfl, (R6.drew).ahead KW.out, fun h => by cases h⟩ | exact ⟨rfl, _, rfl, .inr ((R6.drew).ahead KW.out)⟩
      · rw [g1] at c1
        clear g1
        go_quiet (fail)
        generalize nq = n2
        clear hsi
        go_wp2
        generalize hW2 : w2.drewN n2 = W2
        have k2 : Fr No w2 W2 := hW2 ▸ (Fr.refl No w2).drewN n2
        clear hW2
        have t1 := k2.old c1 id
        have t2 := k2.old c2 id
        have t3 := k2.old c3 id
        have t4 := k2.old c4 id
        have t5 := k2.old c5 id
        have t6 := k2.old c6 id
        have r3 := k2.old s3 id
        have r4 := k2.old s4 id
        have r7 := k2.old s7 id
        have R2 := HR.out.fr k2
        have Z1 : W2.frozen? ⟨b, 1, none⟩ = false := (k2.blk (KW.out.blk HBB.out id) id).free 1
        have Z2 : W2.frozen? ⟨b, 2, none⟩ = false := (k2.blk (KW.out.blk HBB.out id) id).free 2
        have Z3 : W2.frozen? ⟨b, 3, none⟩ = false := (k2.blk (KW.out.blk HBB.out id) id).free 3
        have Z4 : W2.frozen? ⟨b, 4, none⟩ = false := (k2.blk (KW.out.blk HBB.out id) id).free 4
        have Z5 : W2.frozen? ⟨b, 5, none⟩ = false := (k2.blk (KW.out.blk HBB.out id) id).free 5
        have Z6 : W2.frozen? ⟨b, 6, none⟩ = false := (k2.blk (KW.out.blk HBB.out id) id).free 6
        have HR2 := Lib.hid R2
        have HRD3 := Lib.hid (HRD2.out.keep k2 fun _ _ => id)
        have K2 := Lib.hid k2
        clear R2 k2 c1 c2 c3 c4 c5 c6 s3 s4 s7 z1 z2 z3 z4 z5 z6 hx2 hb2
        go_region_held (fun W => W.cell? ⟨w.heap.size, 3, none⟩ = some (.int .u32 sess) ∧ W.cell? ⟨w.heap.size, 4, none⟩ = some (.int .u32 number)) (go_keep) (fail)
        go_wp2
        have R3 : REndTo w2 ((((W2.setCell ⟨b, 1, none⟩ (.bool true)).setCell ⟨b, 2, none⟩ (.int .u32 sess)).setCell ⟨b, 3, none⟩ (.int .u32 number)).drew) b cs 0 { l.e0 with took := true, session := sess, number := number } h := by
          have := (((HR2.out.set (x' := { l.e0 with took := true }) (h' := h) 1 _ (by omega) rfl).set (x' := { l.e0 with took := true, session := sess }) (h' := h) 2 _ (by omega) rfl).set (x' := { l.e0 with took := true, session := sess, number := number }) (h' := h) 3 _ (by omega) rfl).drew
          exact this
        clear t1 t2 t3 t4 t5 t6 r3 r4 r7 Z1 Z2 Z3 Z4 Z5 Z6 HRD3 HR2 K2
        generalize ((((W2.setCell ⟨b, 1, none⟩ (.bool true)).setCell ⟨b, 2, none⟩ (.int .u32 sess)).setCell ⟨b, 3, none⟩ (.int .u32 number)).drew) = W3 at R3 ⊢
        obtain ⟨cs3, B3, E3, _, k3⟩ := id R3
        obtain ⟨c0, c1, c2, c3, c4, c5, c6, c7, c8, c9, c10⟩ := rend_cells B3 E3
        simp only [Nat.zero_add, Nat.reduceAdd] at c0 c1 c2 c3 c4 c5 c6 c7 c8 c9 c10
        clear c0 c1 c2 c3 c7 c8 c9 c10
        have s3 := k3.old HS3.out nb1
        have s7 := k3.old HS7.out nb1
        have Z4 : W3.frozen? ⟨b, 4, none⟩ = false := B3.free 4
        have Z5 : W3.frozen? ⟨b, 5, none⟩ = false := B3.free 5
        have Z6 : W3.frozen? ⟨b, 6, none⟩ = false := B3.free 6
        have hrd3 := HRD2.out.keep k3 HNB.out
        have HR3 := Lib.hid R3
        have HB3 := Lib.hid B3
        have HKP : Hid (∀ W, Fr (fun x => x = b) W3 W → (fun W => W.cell? ⟨w.heap.size, 3, none⟩ = some (.int .u32 sess) ∧ W.cell? ⟨w.heap.size, 7, none⟩ = some (.slice a' data.length cap') ∧ (convert 41 9 (.slice a' data.length cap')).run Try.prog W = .ok (.string (strV data)) W) W) := by
          intro W k
          exact ⟨k.old s3 nb1, k.old s7 nb1, conv_rd (hrd3.keep k HNB.out)⟩
        clear hrd3 R3 B3 E3 k3
        have f0 : Fr (fun x => x = b) W3 W3.drew := (Fr.refl _ W3).drew
        go_region_held (fun W => W.cell? ⟨w.heap.size, 3, none⟩ = some (.int .u32 sess) ∧ W.cell? ⟨w.heap.size, 7, none⟩ = some (.slice a' data.length cap') ∧ (convert 41 9 (.slice a' data.length cap')).run Try.prog W = .ok (.string (strV data)) W) (first | (exact HKP.out _ f0) | (exact HKP.out _ (f0.setCell (p := ⟨b, 4, none⟩) (fun _ => rfl) _)) | (exact HKP.out _ ((f0.setCell (p := ⟨b, 4, none⟩) (fun _ => rfl) _).setCell (p := ⟨b, 5, none⟩) (fun _ => rfl) _)) | (exact HKP.out _ (((f0.setCell (p := ⟨b, 4, none⟩) (fun _ => rfl) _).setCell (p := ⟨b, 5, none⟩) (fun _ => rfl) _).setCell (p := ⟨b, 6, none⟩) (fun _ => rfl) _))) (fail)
        go_wp2
        go_ret
        rw [HSEE.out]
        have R6 := ((HR3.out.set (x' := { l.e0 with took := true, session := sess, number := number }) (h' := true) 4 _ (by omega) rfl).set (x' := { l.e0 with took := true, session := sess, number := number, value := data }) (h' := true) 5 _ (by omega) rfl).set (x' := { l.e0 with took := true, session := sess, number := number, value := data, inn := sess }) (h' := true) 6 _ (by omega) rfl
        first | exact ⟨rfl, _, _, rfl, (R6.drew).ahead KW.out, fun h => by cases h⟩ | exact ⟨rfl, _, rfl, .inr ((R6.drew).ahead KW.out)⟩
end Go.Proofs.Ytmggfdhlbjlpjaa
