/-
  DERIVED. The walk of a line's taken. (Printed by taken.py.)
-/
import Derived.Test.YtmggfdhlbjlpjaaOut
import Derived.Laws.BytesString
namespace Go.Proofs.Ytmggfdhlbjlpjaa
open Go.RowKit
set_option linter.unusedSimpArgs false
set_option linter.unusedVariables false

theorem strV_fold (l : List UInt8) : (l.map fun b => (b.toNat : Int)).foldl (fun r n => r.push (UInt8.ofNat n.toNat)) ByteArray.empty = strV l := by
  have gen : ∀ (l : List UInt8) (r : ByteArray), (l.map fun b => (b.toNat : Int)).foldl (fun r n => r.push (UInt8.ofNat n.toNat)) r = ⟨r.data ++ l.toArray⟩ := by
    intro l
    induction l with
    | nil => intro r; simp
    | cons x t ih =>
      intro r
      simp only [List.map_cons, List.foldl_cons]
      rw [ih]
      congr 1
      simp [ByteArray.push]
  rw [gen]
  simp [strV]

theorem conv_rd {O : Nat → Prop} {a : Option Addr} {c : Nat} {l : List UInt8} {w : World} (h : Rd w O a l) : (convert 41 9 (.slice a l.length c)).run Try.prog w = .ok (.string (strV l)) w := by
  rw [run_convert_bytes_string w 41 9 5 a l.length c Try.underlying41 Try.underlying5 Try.underlying9]
  by_cases h0 : 0 < l.length
  · obtain ⟨b, off, rfl, _, hc⟩ := h h0
    have := run_bytesToString (P := Try.prog) w ⟨b, off, none⟩ l.length c (l.map fun b => (b.toNat : Int)) (by
      have := run_loadCells_list (P := Try.prog) w ⟨b, off, none⟩ (u8s l) (u8s_src hc)
      simpa [u8s, Function.comp_def] using this)
    rw [strV_fold] at this
    exact this
  · obtain rfl : l = [] := by
      cases l with
      | nil => rfl
      | cons x l => exact absurd (by simp) h0
    cases a with
    | none => simp [Conv.bytesToString, strV, Sem.run_pure]; rfl
    | some x =>
      have := run_bytesToString (P := Try.prog) w x 0 c [] (by simpa using run_loadCells_list (P := Try.prog) w x [] (by simp))
      exact this

theorem set_keep {W : World} {p a : Addr} {u : Value} (v : Value) (h : W.cell? a = some u) (hn : a.block ≠ p.block) : (W.setCell p v).cell? a = some u :=
  ((Fr.refl (fun b => b = p.block) W).setCell (fun _ => rfl) v).old h hn

/-- The rule that a taken unit breaks, at an end. -/
def takR (x : EndP) (ls : Int) (ks : List Key) (f : FactP) : Int :=
  if (f.side = 2 ∧ f.session ≠ ls) ∨ f.key (3 - f.side) ∉ ks then 2
  else if x.took = true ∧ (f.session < x.session ∨ (f.session = x.session ∧ f.number ≤ x.number)) then 3
  else 0
def takTo (x : EndP) (f : FactP) : EndP := { x with took := true, session := f.session, number := f.number, value := f.data, inn := f.session }

set_option maxRecDepth 1000000 in
set_option maxHeartbeats 8000000 in
theorem taken_any (q o ol b : Nat) (x : EndP) (f : FactP) (v vf : Value) (cs : Array Value) (ls : Int) (ks : List Key) (O' : Nat → Prop) (w : World) (hb : Blk w q cs 64) (hE : EndCs cs o x v) (hls : cs[ol + 20]? = some (.int .u32 ls)) (hmp : cs[ol + 21]? = some (.map (some b))) (hm : IsMap w b ks) (hf : Bs w O' vf f.data) (hlen' : f.data.length ≤ 140737488351232) (hside : f.side = 1 ∨ f.side = 2) (hq : ¬ O' q) :
    Calls Try.prog 21 #[.pointer (some ⟨q, ol, none⟩), .pointer (some ⟨q, o, none⟩), factV f vf] w fun e w' => e = .returned (.int .i64 (takR x ls ks f)) ∧ (takR x ls ks f = 0 → ∃ v', EndTo w w' q cs o (takTo x f) v' ∧ Ob w' (fun b => w.heap.size ≤ b) v' f.data) ∧ (takR x ls ks f ≠ 0 → EndTo w w' q cs o x v) := by
  obtain ⟨c0, c1, c2, c3, c4, c5, c6, c7, c8, c9⟩ := end_cells hb hE
  have d0 : w.cell? ⟨q, ol + 20, none⟩ = some (.int .u32 ls) := by rw [hb.cell]; exact hls
  have d1 : w.cell? ⟨q, ol + 21, none⟩ = some (.map (some b)) := by rw [hb.cell]; exact hmp
  have hr := EndTo.refl hb hE
  have hlt := hb.lt
  have hfree := hb.free
  have z1 := hfree (o + 1)
  have z2 := hfree (o + 2)
  have z3 := hfree (o + 3)
  have z4 := hfree (o + 4)
  have z5 := hfree (o + 5)
  obtain ⟨kind, conn, side, sess, number, on, code, data⟩ := f
  obtain ⟨watch, xs, xn, took, value, inn, since, latched, fresh, acked⟩ := x
  obtain ⟨a', cap', rfl, _, hrd'⟩ := hf
  dsimp only at c0 c1 c2 c3 c4 c5 c6 c7 c8 c9 hlen' hrd' hside
  show Calls Try.prog 21 #[.pointer (some ⟨q, ol, none⟩), .pointer (some ⟨q, o, none⟩), .agg #[.int .i64 kind, .int .i64 conn, .int .i64 side, .int .u32 sess, .int .u32 number, .bool on, .int .i64 code, .slice a' data.length cap']] w _
  obtain ⟨W0, hW0⟩ : ∃ W0, W0 = w.alloc (.cells #[.int .i64 kind, .int .i64 conn, .int .i64 side, .int .u32 sess, .int .u32 number, .bool on, .int .i64 code, .slice a' data.length cap'] 43) := ⟨_, rfl⟩
  have K0 : Fr No w W0 := hW0 ▸ (Fr.refl No w).alloc _
  have B0 : Blk W0 w.heap.size #[.int .i64 kind, .int .i64 conn, .int .i64 side, .int .u32 sess, .int .u32 number, .bool on, .int .i64 code, .slice a' data.length cap'] 43 := hW0 ▸ Blk.new _ _ _
  have CV : ∀ n, (convert 41 9 (.slice a' data.length cap')).run Try.prog (W0.drewN n) = .ok (.string (strV data)) (W0.drewN n) := fun n => conv_rd (hrd'.keep (K0.drewN n) (fun _ _ => id))
  have LK : ∀ oth bb, decide ((⟨oth, sess, number, data⟩ : Key) ∈ ks) = bb → ∀ n, (Instr.lookup 59 (.map (some b)) (.agg #[.int .i64 oth, .int .u32 sess, .int .u32 number, .string (strV data)]) false).run Try.prog (W0.drewN n) = .ok (.bool bb) (W0.drewN n) :=
    fun oth bb h n => by have := run_lookup (hm.keep (K0.drewN n) id) ⟨oth, sess, number, data⟩; rw [h] at this; exact this
  have CL : ∀ W, Fr (fun b => b = q) w W → Calls Try.prog 28 #[.slice a' data.length cap'] W fun e w' => ∃ v, e = .returned v ∧ Ob w' (fun b => W.heap.size ≤ b) v data ∧ Fr No W w' := fun W hW => clone_any O' a' cap' data W (hrd'.keep hW (fun b hb e => hq (by rw [← e]; exact hb))) hlen'
  have HLK := Lib.hid LK
  have HCV := Lib.hid CV
  have HCL := Lib.hid CL
  have HR := Lib.hid hr
  have HK := Lib.hid K0
  have HB0 := Lib.hid B0
  have HW0 := Lib.hid hW0
  clear LK CV CL hr K0 B0 hW0 hrd' hlen' hb hE hfree hls hmp hm hq
  have HW1 := HW0.out
  subst HW1
  clear HW0
  rcases hside with rfl | rfl
  · skip
    by_cases hmem : (⟨2, sess, number, data⟩ : Key) ∈ ks
    · have hbm : decide ((⟨2, sess, number, data⟩ : Key) ∈ ks) = true := by simpa using hmem
      have HM : Hid ((⟨2, sess, number, data⟩ : Key) ∈ ks) := hmem
      have cv := HCV.out
      have lk := HLK.out 2 true hbm
      clear hbm hmem
      go_enter Try.func21, Try.ntmps21
      go_wp2
      go_quiet (fail)
      generalize nq = n0
      clear lk cv
      go_wp2
      cases took with
      | false =>
        go_quiet (fail)
        generalize nq = n1
        go_wp2
        have HRU : Hid (takR ⟨watch, xs, xn, false, value, inn, since, latched, fresh, acked⟩ ls ks ⟨kind, conn, 1, sess, number, on, code, data⟩ = 0) := by show _ = _; simp [takR, FactP.key, HM.out]
        go_region
        go_wp2
        have e1 := ((((HR.out.fr (HK.out.drewN (n0 + n1 + 1))).set (x' := ⟨watch, xs, xn, true, value, inn, since, latched, fresh, acked⟩) 3 _ (by omega) rfl).set (x' := ⟨watch, sess, xn, true, value, inn, since, latched, fresh, acked⟩) 1 _ (by omega) rfl).set (x' := ⟨watch, sess, number, true, value, inn, since, latched, fresh, acked⟩) 2 _ (by omega) rfl)
        have b1 := ((((Fr.refl No (w.alloc (.cells #[.int .i64 kind, .int .i64 conn, .int .i64 1, .int .u32 sess, .int .u32 number, .bool on, .int .i64 code, .slice a' data.length cap'] 43))).drewN (n0 + n1 + 1)).no (fun b => b = q)).setCell (p := ⟨q, o + 3, none⟩) (fun _ => rfl) (.bool true)).setCell (p := ⟨q, o + 1, none⟩) (fun _ => rfl) (.int .u32 sess) |>.setCell (p := ⟨q, o + 2, none⟩) (fun _ => rfl) (.int .u32 number)
        have hne : w.heap.size ≠ q := by omega
        have b3 := (b1.blk HB0.out hne).cell 3
        have b7 := (b1.blk HB0.out hne).cell 7
        have y4 := e1.free 4
        have y5 := e1.free 5
        clear b1
        generalize ((((w.alloc (.cells #[.int .i64 kind, .int .i64 conn, .int .i64 1, .int .u32 sess, .int .u32 number, .bool on, .int .i64 code, .slice a' data.length cap'] 43)).drewN (n0 + n1 + 1)).setCell ⟨q, o + 3, none⟩ (.bool true)).setCell ⟨q, o + 1, none⟩ (.int .u32 sess)).setCell ⟨q, o + 2, none⟩ (.int .u32 number) = W7 at e1 b3 b7 y4 y5 ⊢
        have HE1 := Lib.hid e1.drew
        have K7 := HE1.out.frq
        have B3 : W7.drew.cell? ⟨w.heap.size, 3, none⟩ = some (.int .u32 sess) := b3
        have B7 : W7.drew.cell? ⟨w.heap.size, 7, none⟩ = some (.slice a' data.length cap') := b7
        clear e1
        go_region_held (fun W => W.cell? ⟨w.heap.size, 3, none⟩ = some (.int .u32 sess) ∧ W.cell? ⟨w.heap.size, 7, none⟩ = some (.slice a' data.length cap')) (first | (exact ⟨b3, b7⟩) | (exact ⟨x3, x7⟩) | (exact ⟨set_keep _ x3 hne, set_keep _ x7 hne⟩) | (exact ⟨set_keep _ (set_keep _ x3 hne) hne, set_keep _ (set_keep _ x7 hne) hne⟩)) ((first | (go_at_call 28; refine (HCL.out _ K7).mono ?_; rintro e w8 ⟨v', rfl, hob, k8⟩; obtain ⟨a9, cap9, hv9⟩ := hob.shape; rw [hv9] at hob ⊢; have x3 := k8.old B3 id; have x7 := k8.old B7 id; have e8 := HE1.out.fr k8; have s8 := K7.size; have o8 := hob.wide (C := fun b => w.heap.size ≤ b) (fun b h _ => Nat.le_trans s8 h); have u4 := e8.free 4; have u5 := e8.free 5; have g4 := e8.c4; have g5 := e8.c5)))
        go_wp2
        go_ret
        rw [HRU.out]
        refine ⟨rfl, fun _ => ⟨_, (e8.set (x' := ⟨watch, sess, number, true, data, inn, since, latched, fresh, acked⟩) 4 _ (by omega) rfl).set (x' := ⟨watch, sess, number, true, data, sess, since, latched, fresh, acked⟩) 5 _ (by omega) rfl, o8.keep' (C := fun b => b = q) ?_ ?_⟩, fun h => absurd rfl h⟩
        · exact ((Fr.refl (fun b => b = q) w8).setCell (p := ⟨q, o + 4, none⟩) (fun _ => rfl) _).setCell (p := ⟨q, o + 5, none⟩) (fun _ => rfl) _
        · rintro b9 cur9 _ h9 rfl; obtain ⟨cs8, q8, _⟩ := e8; exact h9.unlike q8 (by decide) rfl
      | true =>
        by_cases h1 : sess < xs
        · have H1 : Hid (sess < xs) := h1
          have h1_0 : decide (sess < xs) = true := by simpa using h1
          clear h1
          go_quiet (fail)
          generalize nq = n1
          go_wp2
          have HRU : Hid (takR ⟨watch, xs, xn, true, value, inn, since, latched, fresh, acked⟩ ls ks ⟨kind, conn, 1, sess, number, on, code, data⟩ = 3) := by show _ = _; simp [takR, FactP.key, HM.out, H1.out]
          go_ret
          rw [HRU.out]
          try simp only [World.drewN_drewN]
          exact ⟨rfl, fun h => absurd h (by decide), fun _ => HR.out.fr (HK.out.drewN _)⟩
        · have H1 : Hid (xs ≤ sess) := Int.not_lt.1 h1
          have H1' := Int.not_lt.2 H1.out
          have h1_0 : decide (sess < xs) = false := by simpa using h1
          have H1'' := Lib.hid H1'
          clear h1 H1'
          by_cases h2 : sess = xs
          · subst h2
            have hxx : (sess == sess) = true := beq_self_eq_true _
            by_cases h3 : number ≤ xn
            · have H3 : Hid (number ≤ xn) := h3
              have h3_0 : decide (number ≤ xn) = true := by simpa using h3
              clear h3
              go_quiet (fail)
              generalize nq = n1
              go_wp2
              have HRU : Hid (takR ⟨watch, sess, xn, true, value, inn, since, latched, fresh, acked⟩ ls ks ⟨kind, conn, 1, sess, number, on, code, data⟩ = 3) := by show _ = _; simp [takR, FactP.key, HM.out, H1''.out, H3.out]
              go_ret
              rw [HRU.out]
              try simp only [World.drewN_drewN]
              exact ⟨rfl, fun h => absurd h (by decide), fun _ => HR.out.fr (HK.out.drewN _)⟩
            · have H3 : Hid (xn < number) := Int.not_le.1 h3
              have H3' := Lib.hid (Int.not_le.2 H3.out)
              have h3_0 : decide (number ≤ xn) = false := by simpa using h3
              clear h3
              go_quiet (fail)
              generalize nq = n1
              go_wp2
              have HRU : Hid (takR ⟨watch, sess, xn, true, value, inn, since, latched, fresh, acked⟩ ls ks ⟨kind, conn, 1, sess, number, on, code, data⟩ = 0) := by show _ = _; simp [takR, FactP.key, HM.out, H1''.out, H3'.out]
              go_region
              go_wp2
              have e1 := ((((HR.out.fr (HK.out.drewN (n0 + n1 + 1))).set (x' := ⟨watch, sess, xn, true, value, inn, since, latched, fresh, acked⟩) 3 _ (by omega) rfl).set (x' := ⟨watch, sess, xn, true, value, inn, since, latched, fresh, acked⟩) 1 _ (by omega) rfl).set (x' := ⟨watch, sess, number, true, value, inn, since, latched, fresh, acked⟩) 2 _ (by omega) rfl)
              have b1 := ((((Fr.refl No (w.alloc (.cells #[.int .i64 kind, .int .i64 conn, .int .i64 1, .int .u32 sess, .int .u32 number, .bool on, .int .i64 code, .slice a' data.length cap'] 43))).drewN (n0 + n1 + 1)).no (fun b => b = q)).setCell (p := ⟨q, o + 3, none⟩) (fun _ => rfl) (.bool true)).setCell (p := ⟨q, o + 1, none⟩) (fun _ => rfl) (.int .u32 sess) |>.setCell (p := ⟨q, o + 2, none⟩) (fun _ => rfl) (.int .u32 number)
              have hne : w.heap.size ≠ q := by omega
              have b3 := (b1.blk HB0.out hne).cell 3
              have b7 := (b1.blk HB0.out hne).cell 7
              have y4 := e1.free 4
              have y5 := e1.free 5
              clear b1
              generalize ((((w.alloc (.cells #[.int .i64 kind, .int .i64 conn, .int .i64 1, .int .u32 sess, .int .u32 number, .bool on, .int .i64 code, .slice a' data.length cap'] 43)).drewN (n0 + n1 + 1)).setCell ⟨q, o + 3, none⟩ (.bool true)).setCell ⟨q, o + 1, none⟩ (.int .u32 sess)).setCell ⟨q, o + 2, none⟩ (.int .u32 number) = W7 at e1 b3 b7 y4 y5 ⊢
              have HE1 := Lib.hid e1.drew
              have K7 := HE1.out.frq
              have B3 : W7.drew.cell? ⟨w.heap.size, 3, none⟩ = some (.int .u32 sess) := b3
              have B7 : W7.drew.cell? ⟨w.heap.size, 7, none⟩ = some (.slice a' data.length cap') := b7
              clear e1
              go_region_held (fun W => W.cell? ⟨w.heap.size, 3, none⟩ = some (.int .u32 sess) ∧ W.cell? ⟨w.heap.size, 7, none⟩ = some (.slice a' data.length cap')) (first | (exact ⟨b3, b7⟩) | (exact ⟨x3, x7⟩) | (exact ⟨set_keep _ x3 hne, set_keep _ x7 hne⟩) | (exact ⟨set_keep _ (set_keep _ x3 hne) hne, set_keep _ (set_keep _ x7 hne) hne⟩)) ((first | (go_at_call 28; refine (HCL.out _ K7).mono ?_; rintro e w8 ⟨v', rfl, hob, k8⟩; obtain ⟨a9, cap9, hv9⟩ := hob.shape; rw [hv9] at hob ⊢; have x3 := k8.old B3 id; have x7 := k8.old B7 id; have e8 := HE1.out.fr k8; have s8 := K7.size; have o8 := hob.wide (C := fun b => w.heap.size ≤ b) (fun b h _ => Nat.le_trans s8 h); have u4 := e8.free 4; have u5 := e8.free 5; have g4 := e8.c4; have g5 := e8.c5)))
              go_wp2
              go_ret
              rw [HRU.out]
              refine ⟨rfl, fun _ => ⟨_, (e8.set (x' := ⟨watch, sess, number, true, data, inn, since, latched, fresh, acked⟩) 4 _ (by omega) rfl).set (x' := ⟨watch, sess, number, true, data, sess, since, latched, fresh, acked⟩) 5 _ (by omega) rfl, o8.keep' (C := fun b => b = q) ?_ ?_⟩, fun h => absurd rfl h⟩
              · exact ((Fr.refl (fun b => b = q) w8).setCell (p := ⟨q, o + 4, none⟩) (fun _ => rfl) _).setCell (p := ⟨q, o + 5, none⟩) (fun _ => rfl) _
              · rintro b9 cur9 _ h9 rfl; obtain ⟨cs8, q8, _⟩ := e8; exact h9.unlike q8 (by decide) rfl
          · have H2 : Hid (¬ (sess = xs)) := h2
            have h2_0 : (sess == xs) = false := by simpa using h2
            clear h2
            go_quiet (fail)
            generalize nq = n1
            go_wp2
            have HRU : Hid (takR ⟨watch, xs, xn, true, value, inn, since, latched, fresh, acked⟩ ls ks ⟨kind, conn, 1, sess, number, on, code, data⟩ = 0) := by show _ = _; simp [takR, FactP.key, HM.out, H1''.out, H2.out]
            go_region
            go_wp2
            have e1 := ((((HR.out.fr (HK.out.drewN (n0 + n1 + 1))).set (x' := ⟨watch, xs, xn, true, value, inn, since, latched, fresh, acked⟩) 3 _ (by omega) rfl).set (x' := ⟨watch, sess, xn, true, value, inn, since, latched, fresh, acked⟩) 1 _ (by omega) rfl).set (x' := ⟨watch, sess, number, true, value, inn, since, latched, fresh, acked⟩) 2 _ (by omega) rfl)
            have b1 := ((((Fr.refl No (w.alloc (.cells #[.int .i64 kind, .int .i64 conn, .int .i64 1, .int .u32 sess, .int .u32 number, .bool on, .int .i64 code, .slice a' data.length cap'] 43))).drewN (n0 + n1 + 1)).no (fun b => b = q)).setCell (p := ⟨q, o + 3, none⟩) (fun _ => rfl) (.bool true)).setCell (p := ⟨q, o + 1, none⟩) (fun _ => rfl) (.int .u32 sess) |>.setCell (p := ⟨q, o + 2, none⟩) (fun _ => rfl) (.int .u32 number)
            have hne : w.heap.size ≠ q := by omega
            have b3 := (b1.blk HB0.out hne).cell 3
            have b7 := (b1.blk HB0.out hne).cell 7
            have y4 := e1.free 4
            have y5 := e1.free 5
            clear b1
            generalize ((((w.alloc (.cells #[.int .i64 kind, .int .i64 conn, .int .i64 1, .int .u32 sess, .int .u32 number, .bool on, .int .i64 code, .slice a' data.length cap'] 43)).drewN (n0 + n1 + 1)).setCell ⟨q, o + 3, none⟩ (.bool true)).setCell ⟨q, o + 1, none⟩ (.int .u32 sess)).setCell ⟨q, o + 2, none⟩ (.int .u32 number) = W7 at e1 b3 b7 y4 y5 ⊢
            have HE1 := Lib.hid e1.drew
            have K7 := HE1.out.frq
            have B3 : W7.drew.cell? ⟨w.heap.size, 3, none⟩ = some (.int .u32 sess) := b3
            have B7 : W7.drew.cell? ⟨w.heap.size, 7, none⟩ = some (.slice a' data.length cap') := b7
            clear e1
            go_region_held (fun W => W.cell? ⟨w.heap.size, 3, none⟩ = some (.int .u32 sess) ∧ W.cell? ⟨w.heap.size, 7, none⟩ = some (.slice a' data.length cap')) (first | (exact ⟨b3, b7⟩) | (exact ⟨x3, x7⟩) | (exact ⟨set_keep _ x3 hne, set_keep _ x7 hne⟩) | (exact ⟨set_keep _ (set_keep _ x3 hne) hne, set_keep _ (set_keep _ x7 hne) hne⟩)) ((first | (go_at_call 28; refine (HCL.out _ K7).mono ?_; rintro e w8 ⟨v', rfl, hob, k8⟩; obtain ⟨a9, cap9, hv9⟩ := hob.shape; rw [hv9] at hob ⊢; have x3 := k8.old B3 id; have x7 := k8.old B7 id; have e8 := HE1.out.fr k8; have s8 := K7.size; have o8 := hob.wide (C := fun b => w.heap.size ≤ b) (fun b h _ => Nat.le_trans s8 h); have u4 := e8.free 4; have u5 := e8.free 5; have g4 := e8.c4; have g5 := e8.c5)))
            go_wp2
            go_ret
            rw [HRU.out]
            refine ⟨rfl, fun _ => ⟨_, (e8.set (x' := ⟨watch, sess, number, true, data, inn, since, latched, fresh, acked⟩) 4 _ (by omega) rfl).set (x' := ⟨watch, sess, number, true, data, sess, since, latched, fresh, acked⟩) 5 _ (by omega) rfl, o8.keep' (C := fun b => b = q) ?_ ?_⟩, fun h => absurd rfl h⟩
            · exact ((Fr.refl (fun b => b = q) w8).setCell (p := ⟨q, o + 4, none⟩) (fun _ => rfl) _).setCell (p := ⟨q, o + 5, none⟩) (fun _ => rfl) _
            · rintro b9 cur9 _ h9 rfl; obtain ⟨cs8, q8, _⟩ := e8; exact h9.unlike q8 (by decide) rfl
    · have hbm : decide ((⟨2, sess, number, data⟩ : Key) ∈ ks) = false := by simpa using hmem
      have HM : Hid (¬ ((⟨2, sess, number, data⟩ : Key) ∈ ks)) := hmem
      have cv := HCV.out
      have lk := HLK.out 2 false hbm
      clear hbm hmem
      go_enter Try.func21, Try.ntmps21
      go_wp2
      go_quiet (fail)
      generalize nq = n0
      clear lk cv
      go_wp2
      have HRU : Hid (takR ⟨watch, xs, xn, took, value, inn, since, latched, fresh, acked⟩ ls ks ⟨kind, conn, 1, sess, number, on, code, data⟩ = 2) := by show _ = _; simp [takR, FactP.key, HM.out]
      go_ret
      rw [HRU.out]
      try simp only [World.drewN_drewN]
      exact ⟨rfl, fun h => absurd h (by decide), fun _ => HR.out.fr (HK.out.drewN _)⟩
  · by_cases hs : sess = ls
    · subst hs
      have hss : (sess != sess) = false := by simp
      by_cases hmem : (⟨1, sess, number, data⟩ : Key) ∈ ks
      · have hbm : decide ((⟨1, sess, number, data⟩ : Key) ∈ ks) = true := by simpa using hmem
        have HM : Hid ((⟨1, sess, number, data⟩ : Key) ∈ ks) := hmem
        have cv := HCV.out
        have lk := HLK.out 1 true hbm
        clear hbm hmem
        go_enter Try.func21, Try.ntmps21
        go_wp2
        go_quiet (fail)
        generalize nq = n0
        clear lk cv
        go_wp2
        cases took with
        | false =>
          go_quiet (fail)
          generalize nq = n1
          go_wp2
          have HRU : Hid (takR ⟨watch, xs, xn, false, value, inn, since, latched, fresh, acked⟩ sess ks ⟨kind, conn, 2, sess, number, on, code, data⟩ = 0) := by show _ = _; simp [takR, FactP.key, HM.out]
          go_region
          go_wp2
          have e1 := ((((HR.out.fr (HK.out.drewN (n0 + n1 + 1))).set (x' := ⟨watch, xs, xn, true, value, inn, since, latched, fresh, acked⟩) 3 _ (by omega) rfl).set (x' := ⟨watch, sess, xn, true, value, inn, since, latched, fresh, acked⟩) 1 _ (by omega) rfl).set (x' := ⟨watch, sess, number, true, value, inn, since, latched, fresh, acked⟩) 2 _ (by omega) rfl)
          have b1 := ((((Fr.refl No (w.alloc (.cells #[.int .i64 kind, .int .i64 conn, .int .i64 2, .int .u32 sess, .int .u32 number, .bool on, .int .i64 code, .slice a' data.length cap'] 43))).drewN (n0 + n1 + 1)).no (fun b => b = q)).setCell (p := ⟨q, o + 3, none⟩) (fun _ => rfl) (.bool true)).setCell (p := ⟨q, o + 1, none⟩) (fun _ => rfl) (.int .u32 sess) |>.setCell (p := ⟨q, o + 2, none⟩) (fun _ => rfl) (.int .u32 number)
          have hne : w.heap.size ≠ q := by omega
          have b3 := (b1.blk HB0.out hne).cell 3
          have b7 := (b1.blk HB0.out hne).cell 7
          have y4 := e1.free 4
          have y5 := e1.free 5
          clear b1
          generalize ((((w.alloc (.cells #[.int .i64 kind, .int .i64 conn, .int .i64 2, .int .u32 sess, .int .u32 number, .bool on, .int .i64 code, .slice a' data.length cap'] 43)).drewN (n0 + n1 + 1)).setCell ⟨q, o + 3, none⟩ (.bool true)).setCell ⟨q, o + 1, none⟩ (.int .u32 sess)).setCell ⟨q, o + 2, none⟩ (.int .u32 number) = W7 at e1 b3 b7 y4 y5 ⊢
          have HE1 := Lib.hid e1.drew
          have K7 := HE1.out.frq
          have B3 : W7.drew.cell? ⟨w.heap.size, 3, none⟩ = some (.int .u32 sess) := b3
          have B7 : W7.drew.cell? ⟨w.heap.size, 7, none⟩ = some (.slice a' data.length cap') := b7
          clear e1
          go_region_held (fun W => W.cell? ⟨w.heap.size, 3, none⟩ = some (.int .u32 sess) ∧ W.cell? ⟨w.heap.size, 7, none⟩ = some (.slice a' data.length cap')) (first | (exact ⟨b3, b7⟩) | (exact ⟨x3, x7⟩) | (exact ⟨set_keep _ x3 hne, set_keep _ x7 hne⟩) | (exact ⟨set_keep _ (set_keep _ x3 hne) hne, set_keep _ (set_keep _ x7 hne) hne⟩)) ((first | (go_at_call 28; refine (HCL.out _ K7).mono ?_; rintro e w8 ⟨v', rfl, hob, k8⟩; obtain ⟨a9, cap9, hv9⟩ := hob.shape; rw [hv9] at hob ⊢; have x3 := k8.old B3 id; have x7 := k8.old B7 id; have e8 := HE1.out.fr k8; have s8 := K7.size; have o8 := hob.wide (C := fun b => w.heap.size ≤ b) (fun b h _ => Nat.le_trans s8 h); have u4 := e8.free 4; have u5 := e8.free 5; have g4 := e8.c4; have g5 := e8.c5)))
          go_wp2
          go_ret
          rw [HRU.out]
          refine ⟨rfl, fun _ => ⟨_, (e8.set (x' := ⟨watch, sess, number, true, data, inn, since, latched, fresh, acked⟩) 4 _ (by omega) rfl).set (x' := ⟨watch, sess, number, true, data, sess, since, latched, fresh, acked⟩) 5 _ (by omega) rfl, o8.keep' (C := fun b => b = q) ?_ ?_⟩, fun h => absurd rfl h⟩
          · exact ((Fr.refl (fun b => b = q) w8).setCell (p := ⟨q, o + 4, none⟩) (fun _ => rfl) _).setCell (p := ⟨q, o + 5, none⟩) (fun _ => rfl) _
          · rintro b9 cur9 _ h9 rfl; obtain ⟨cs8, q8, _⟩ := e8; exact h9.unlike q8 (by decide) rfl
        | true =>
          by_cases h1 : sess < xs
          · have H1 : Hid (sess < xs) := h1
            have h1_0 : decide (sess < xs) = true := by simpa using h1
            clear h1
            go_quiet (fail)
            generalize nq = n1
            go_wp2
            have HRU : Hid (takR ⟨watch, xs, xn, true, value, inn, since, latched, fresh, acked⟩ sess ks ⟨kind, conn, 2, sess, number, on, code, data⟩ = 3) := by show _ = _; simp [takR, FactP.key, HM.out, H1.out]
            go_ret
            rw [HRU.out]
            try simp only [World.drewN_drewN]
            exact ⟨rfl, fun h => absurd h (by decide), fun _ => HR.out.fr (HK.out.drewN _)⟩
          · have H1 : Hid (xs ≤ sess) := Int.not_lt.1 h1
            have H1' := Int.not_lt.2 H1.out
            have h1_0 : decide (sess < xs) = false := by simpa using h1
            have H1'' := Lib.hid H1'
            clear h1 H1'
            by_cases h2 : sess = xs
            · subst h2
              have hxx : (sess == sess) = true := beq_self_eq_true _
              by_cases h3 : number ≤ xn
              · have H3 : Hid (number ≤ xn) := h3
                have h3_0 : decide (number ≤ xn) = true := by simpa using h3
                clear h3
                go_quiet (fail)
                generalize nq = n1
                go_wp2
                have HRU : Hid (takR ⟨watch, sess, xn, true, value, inn, since, latched, fresh, acked⟩ sess ks ⟨kind, conn, 2, sess, number, on, code, data⟩ = 3) := by show _ = _; simp [takR, FactP.key, HM.out, H1''.out, H3.out]
                go_ret
                rw [HRU.out]
                try simp only [World.drewN_drewN]
                exact ⟨rfl, fun h => absurd h (by decide), fun _ => HR.out.fr (HK.out.drewN _)⟩
              · have H3 : Hid (xn < number) := Int.not_le.1 h3
                have H3' := Lib.hid (Int.not_le.2 H3.out)
                have h3_0 : decide (number ≤ xn) = false := by simpa using h3
                clear h3
                go_quiet (fail)
                generalize nq = n1
                go_wp2
                have HRU : Hid (takR ⟨watch, sess, xn, true, value, inn, since, latched, fresh, acked⟩ sess ks ⟨kind, conn, 2, sess, number, on, code, data⟩ = 0) := by show _ = _; simp [takR, FactP.key, HM.out, H1''.out, H3'.out]
                go_region
                go_wp2
                have e1 := ((((HR.out.fr (HK.out.drewN (n0 + n1 + 1))).set (x' := ⟨watch, sess, xn, true, value, inn, since, latched, fresh, acked⟩) 3 _ (by omega) rfl).set (x' := ⟨watch, sess, xn, true, value, inn, since, latched, fresh, acked⟩) 1 _ (by omega) rfl).set (x' := ⟨watch, sess, number, true, value, inn, since, latched, fresh, acked⟩) 2 _ (by omega) rfl)
                have b1 := ((((Fr.refl No (w.alloc (.cells #[.int .i64 kind, .int .i64 conn, .int .i64 2, .int .u32 sess, .int .u32 number, .bool on, .int .i64 code, .slice a' data.length cap'] 43))).drewN (n0 + n1 + 1)).no (fun b => b = q)).setCell (p := ⟨q, o + 3, none⟩) (fun _ => rfl) (.bool true)).setCell (p := ⟨q, o + 1, none⟩) (fun _ => rfl) (.int .u32 sess) |>.setCell (p := ⟨q, o + 2, none⟩) (fun _ => rfl) (.int .u32 number)
                have hne : w.heap.size ≠ q := by omega
                have b3 := (b1.blk HB0.out hne).cell 3
                have b7 := (b1.blk HB0.out hne).cell 7
                have y4 := e1.free 4
                have y5 := e1.free 5
                clear b1
                generalize ((((w.alloc (.cells #[.int .i64 kind, .int .i64 conn, .int .i64 2, .int .u32 sess, .int .u32 number, .bool on, .int .i64 code, .slice a' data.length cap'] 43)).drewN (n0 + n1 + 1)).setCell ⟨q, o + 3, none⟩ (.bool true)).setCell ⟨q, o + 1, none⟩ (.int .u32 sess)).setCell ⟨q, o + 2, none⟩ (.int .u32 number) = W7 at e1 b3 b7 y4 y5 ⊢
                have HE1 := Lib.hid e1.drew
                have K7 := HE1.out.frq
                have B3 : W7.drew.cell? ⟨w.heap.size, 3, none⟩ = some (.int .u32 sess) := b3
                have B7 : W7.drew.cell? ⟨w.heap.size, 7, none⟩ = some (.slice a' data.length cap') := b7
                clear e1
                go_region_held (fun W => W.cell? ⟨w.heap.size, 3, none⟩ = some (.int .u32 sess) ∧ W.cell? ⟨w.heap.size, 7, none⟩ = some (.slice a' data.length cap')) (first | (exact ⟨b3, b7⟩) | (exact ⟨x3, x7⟩) | (exact ⟨set_keep _ x3 hne, set_keep _ x7 hne⟩) | (exact ⟨set_keep _ (set_keep _ x3 hne) hne, set_keep _ (set_keep _ x7 hne) hne⟩)) ((first | (go_at_call 28; refine (HCL.out _ K7).mono ?_; rintro e w8 ⟨v', rfl, hob, k8⟩; obtain ⟨a9, cap9, hv9⟩ := hob.shape; rw [hv9] at hob ⊢; have x3 := k8.old B3 id; have x7 := k8.old B7 id; have e8 := HE1.out.fr k8; have s8 := K7.size; have o8 := hob.wide (C := fun b => w.heap.size ≤ b) (fun b h _ => Nat.le_trans s8 h); have u4 := e8.free 4; have u5 := e8.free 5; have g4 := e8.c4; have g5 := e8.c5)))
                go_wp2
                go_ret
                rw [HRU.out]
                refine ⟨rfl, fun _ => ⟨_, (e8.set (x' := ⟨watch, sess, number, true, data, inn, since, latched, fresh, acked⟩) 4 _ (by omega) rfl).set (x' := ⟨watch, sess, number, true, data, sess, since, latched, fresh, acked⟩) 5 _ (by omega) rfl, o8.keep' (C := fun b => b = q) ?_ ?_⟩, fun h => absurd rfl h⟩
                · exact ((Fr.refl (fun b => b = q) w8).setCell (p := ⟨q, o + 4, none⟩) (fun _ => rfl) _).setCell (p := ⟨q, o + 5, none⟩) (fun _ => rfl) _
                · rintro b9 cur9 _ h9 rfl; obtain ⟨cs8, q8, _⟩ := e8; exact h9.unlike q8 (by decide) rfl
            · have H2 : Hid (¬ (sess = xs)) := h2
              have h2_0 : (sess == xs) = false := by simpa using h2
              clear h2
              go_quiet (fail)
              generalize nq = n1
              go_wp2
              have HRU : Hid (takR ⟨watch, xs, xn, true, value, inn, since, latched, fresh, acked⟩ sess ks ⟨kind, conn, 2, sess, number, on, code, data⟩ = 0) := by show _ = _; simp [takR, FactP.key, HM.out, H1''.out, H2.out]
              go_region
              go_wp2
              have e1 := ((((HR.out.fr (HK.out.drewN (n0 + n1 + 1))).set (x' := ⟨watch, xs, xn, true, value, inn, since, latched, fresh, acked⟩) 3 _ (by omega) rfl).set (x' := ⟨watch, sess, xn, true, value, inn, since, latched, fresh, acked⟩) 1 _ (by omega) rfl).set (x' := ⟨watch, sess, number, true, value, inn, since, latched, fresh, acked⟩) 2 _ (by omega) rfl)
              have b1 := ((((Fr.refl No (w.alloc (.cells #[.int .i64 kind, .int .i64 conn, .int .i64 2, .int .u32 sess, .int .u32 number, .bool on, .int .i64 code, .slice a' data.length cap'] 43))).drewN (n0 + n1 + 1)).no (fun b => b = q)).setCell (p := ⟨q, o + 3, none⟩) (fun _ => rfl) (.bool true)).setCell (p := ⟨q, o + 1, none⟩) (fun _ => rfl) (.int .u32 sess) |>.setCell (p := ⟨q, o + 2, none⟩) (fun _ => rfl) (.int .u32 number)
              have hne : w.heap.size ≠ q := by omega
              have b3 := (b1.blk HB0.out hne).cell 3
              have b7 := (b1.blk HB0.out hne).cell 7
              have y4 := e1.free 4
              have y5 := e1.free 5
              clear b1
              generalize ((((w.alloc (.cells #[.int .i64 kind, .int .i64 conn, .int .i64 2, .int .u32 sess, .int .u32 number, .bool on, .int .i64 code, .slice a' data.length cap'] 43)).drewN (n0 + n1 + 1)).setCell ⟨q, o + 3, none⟩ (.bool true)).setCell ⟨q, o + 1, none⟩ (.int .u32 sess)).setCell ⟨q, o + 2, none⟩ (.int .u32 number) = W7 at e1 b3 b7 y4 y5 ⊢
              have HE1 := Lib.hid e1.drew
              have K7 := HE1.out.frq
              have B3 : W7.drew.cell? ⟨w.heap.size, 3, none⟩ = some (.int .u32 sess) := b3
              have B7 : W7.drew.cell? ⟨w.heap.size, 7, none⟩ = some (.slice a' data.length cap') := b7
              clear e1
              go_region_held (fun W => W.cell? ⟨w.heap.size, 3, none⟩ = some (.int .u32 sess) ∧ W.cell? ⟨w.heap.size, 7, none⟩ = some (.slice a' data.length cap')) (first | (exact ⟨b3, b7⟩) | (exact ⟨x3, x7⟩) | (exact ⟨set_keep _ x3 hne, set_keep _ x7 hne⟩) | (exact ⟨set_keep _ (set_keep _ x3 hne) hne, set_keep _ (set_keep _ x7 hne) hne⟩)) ((first | (go_at_call 28; refine (HCL.out _ K7).mono ?_; rintro e w8 ⟨v', rfl, hob, k8⟩; obtain ⟨a9, cap9, hv9⟩ := hob.shape; rw [hv9] at hob ⊢; have x3 := k8.old B3 id; have x7 := k8.old B7 id; have e8 := HE1.out.fr k8; have s8 := K7.size; have o8 := hob.wide (C := fun b => w.heap.size ≤ b) (fun b h _ => Nat.le_trans s8 h); have u4 := e8.free 4; have u5 := e8.free 5; have g4 := e8.c4; have g5 := e8.c5)))
              go_wp2
              go_ret
              rw [HRU.out]
              refine ⟨rfl, fun _ => ⟨_, (e8.set (x' := ⟨watch, sess, number, true, data, inn, since, latched, fresh, acked⟩) 4 _ (by omega) rfl).set (x' := ⟨watch, sess, number, true, data, sess, since, latched, fresh, acked⟩) 5 _ (by omega) rfl, o8.keep' (C := fun b => b = q) ?_ ?_⟩, fun h => absurd rfl h⟩
              · exact ((Fr.refl (fun b => b = q) w8).setCell (p := ⟨q, o + 4, none⟩) (fun _ => rfl) _).setCell (p := ⟨q, o + 5, none⟩) (fun _ => rfl) _
              · rintro b9 cur9 _ h9 rfl; obtain ⟨cs8, q8, _⟩ := e8; exact h9.unlike q8 (by decide) rfl
      · have hbm : decide ((⟨1, sess, number, data⟩ : Key) ∈ ks) = false := by simpa using hmem
        have HM : Hid (¬ ((⟨1, sess, number, data⟩ : Key) ∈ ks)) := hmem
        have cv := HCV.out
        have lk := HLK.out 1 false hbm
        clear hbm hmem
        go_enter Try.func21, Try.ntmps21
        go_wp2
        go_quiet (fail)
        generalize nq = n0
        clear lk cv
        go_wp2
        have HRU : Hid (takR ⟨watch, xs, xn, took, value, inn, since, latched, fresh, acked⟩ sess ks ⟨kind, conn, 2, sess, number, on, code, data⟩ = 2) := by show _ = _; simp [takR, FactP.key, HM.out]
        go_ret
        rw [HRU.out]
        try simp only [World.drewN_drewN]
        exact ⟨rfl, fun h => absurd h (by decide), fun _ => HR.out.fr (HK.out.drewN _)⟩
    · have HS : Hid (¬ (sess = ls)) := hs
      have hs_0 : (sess != ls) = true := by simpa using hs
      have hs_1 : (sess == ls) = false := by simpa using hs
      clear hs
      go_enter Try.func21, Try.ntmps21
      go_wp2
      go_quiet (fail)
      generalize nq = n0
      go_wp2
      have HRU : Hid (takR ⟨watch, xs, xn, took, value, inn, since, latched, fresh, acked⟩ ls ks ⟨kind, conn, 2, sess, number, on, code, data⟩ = 2) := by show _ = _; simp [takR, FactP.key, HS.out]
      go_ret
      rw [HRU.out]
      try simp only [World.drewN_drewN]
      exact ⟨rfl, fun h => absurd h (by decide), fun _ => HR.out.fr (HK.out.drewN _)⟩
end Go.Proofs.Ytmggfdhlbjlpjaa
