/-
  DERIVED. The reference's ends, and the walk of End.out. (Printed by rout.py.)
-/
import Derived.Test.YtmggfdhlbjlpjaaRefB
namespace Go.Proofs.Ytmggfdhlbjlpjaa
open Go.RowKit
set_option linter.unusedSimpArgs false
set_option linter.unusedVariables false

/-- The cells of an end of the reference; h: has it a value? -/
def rendCells (x : EndP) (h : Bool) : List Value :=
  [.int .i64 x.watch, .bool x.took, .int .u32 x.session, .int .u32 x.number, .bool h, .string (strV x.value), .int .u32 x.inn, .int .i64 x.since, .int .i64 x.latched, .bool x.fresh, .bool x.acked]

/-- From place o on these cells are an end. -/
def REndCs (cs : Array Value) (o : Nat) (x : EndP) (h : Bool) : Prop := ∀ k, k < 11 → cs[o + k]? = (rendCells x h)[k]?

theorem REndCs.set {cs : Array Value} {o : Nat} {x x' : EndP} {h h' : Bool} (hc : REndCs cs o x h) (k : Nat) (c : Value) (hk : k < 11) (hx : rendCells x' h' = (rendCells x h).set k c) :
    REndCs (cs.setIfInBounds (o + k) c) o x' h' := by
  intro j hj
  rw [hx, Array.getElem?_setIfInBounds]
  have h0 := hc k hk
  have hl : (rendCells x h).length = 11 := rfl
  by_cases e : k = j
  · subst e
    have hs : o + k < cs.size := by
      rcases Nat.lt_or_ge (o + k) cs.size with h | h
      · exact h
      · rw [Array.getElem?_eq_none h, List.getElem?_eq_getElem (by omega)] at h0; cases h0
    rw [if_pos rfl, if_pos hs, List.getElem?_set_self (by omega)]
  · rw [if_neg (by omega), List.getElem?_set_ne e]
    exact hc j hj

/-- What a call on an end leaves: another end at o, all else in the block as it was, and no other old block changed. -/
def REndTo (w w' : World) (q : Nat) (cs : Array Value) (o : Nat) (x : EndP) (h : Bool) : Prop :=
  ∃ cs', Blk w' q cs' 68 ∧ REndCs cs' o x h ∧ (∀ k, k < o ∨ o + 11 ≤ k → cs'[k]? = cs[k]?) ∧ Fr (fun b => b = q) w w'

section
variable {w w' : World} {q o : Nat} {cs : Array Value} {x x' : EndP} {h h' : Bool}
theorem REndTo.refl (hb : Blk w q cs 68) (h : REndCs cs o x h') : REndTo w w q cs o x h' := ⟨cs, hb, h, fun _ _ => rfl, Fr.refl _ _⟩
theorem REndTo.fr {w'' : World} (h : REndTo w w' q cs o x h') (k : Fr No w' w'') : REndTo w w'' q cs o x h' := let ⟨cs', a, b, c, d⟩ := h; ⟨cs', k.blk a id, b, c, d.more k fun _ h _ => h.elim⟩
theorem REndTo.drew (h : REndTo w w' q cs o x h') : REndTo w w'.drew q cs o x h' := h.fr (Fr.refl No w').drew
theorem REndTo.drewN (h : REndTo w w' q cs o x h') (n : Nat) : REndTo w (w'.drewN n) q cs o x h' := h.fr ((Fr.refl No w').drewN n)
theorem REndTo.alloc (h : REndTo w w' q cs o x h') (ob : Obj) : REndTo w (w'.alloc ob) q cs o x h' := h.fr ((Fr.refl No w').alloc ob)
theorem REndTo.ahead {W : World} (h : REndTo W w' q cs o x h') (k : Fr No w W) : REndTo w w' q cs o x h' := let ⟨cs', a, b, c, d⟩ := h; ⟨cs', a, b, c, (k.no _).trans d⟩
theorem REndTo.set (hr : REndTo w w' q cs o x h) (k : Nat) (c : Value) (hk : k < 11) (hx : rendCells x' h' = (rendCells x h).set k c) : REndTo w (w'.setCell ⟨q, o + k, none⟩ c) q cs o x' h' := by
  obtain ⟨cs', a, b, e, d⟩ := hr
  refine ⟨_, a.set _ _, b.set k c hk hx, fun j hj => ?_, d.setCell (fun _ => rfl) c⟩
  rw [Array.getElem?_setIfInBounds, if_neg (by omega)]
  exact e j hj
theorem REndTo.free (h : REndTo w w' q cs o x h') (k : Nat) : w'.frozen? ⟨q, o + k, none⟩ = false := let ⟨_, a, _⟩ := h; a.free _

/-- The facts on cells that a walk wants. -/
theorem rend_cells (hb : Blk w q cs 68) (hE : REndCs cs o x h) :
    w.cell? ⟨q, o, none⟩ = some (.int .i64 x.watch) ∧ w.cell? ⟨q, o + 1, none⟩ = some (.bool x.took) ∧ w.cell? ⟨q, o + 2, none⟩ = some (.int .u32 x.session) ∧ w.cell? ⟨q, o + 3, none⟩ = some (.int .u32 x.number) ∧
    w.cell? ⟨q, o + 4, none⟩ = some (.bool h) ∧ w.cell? ⟨q, o + 5, none⟩ = some (.string (strV x.value)) ∧ w.cell? ⟨q, o + 6, none⟩ = some (.int .u32 x.inn) ∧ w.cell? ⟨q, o + 7, none⟩ = some (.int .i64 x.since) ∧
    w.cell? ⟨q, o + 8, none⟩ = some (.int .i64 x.latched) ∧ w.cell? ⟨q, o + 9, none⟩ = some (.bool x.fresh) ∧ w.cell? ⟨q, o + 10, none⟩ = some (.bool x.acked) := by
  refine ⟨?_, ?_, ?_, ?_, ?_, ?_, ?_, ?_, ?_, ?_, ?_⟩
  · rw [hb.cell]; exact hE 0 (by omega)
  · rw [hb.cell]; exact hE 1 (by omega)
  · rw [hb.cell]; exact hE 2 (by omega)
  · rw [hb.cell]; exact hE 3 (by omega)
  · rw [hb.cell]; exact hE 4 (by omega)
  · rw [hb.cell]; exact hE 5 (by omega)
  · rw [hb.cell]; exact hE 6 (by omega)
  · rw [hb.cell]; exact hE 7 (by omega)
  · rw [hb.cell]; exact hE 8 (by omega)
  · rw [hb.cell]; exact hE 9 (by omega)
  · rw [hb.cell]; exact hE 10 (by omega)
end

theorem outRule_4 {e : EndP} {f : FactP} {s : Int} (h : f.on = true ∧ (e.value ≠ f.data ∨ e.value = [] ∨ (f.side = 2 ∧ e.inn ≠ s))) : e.outRule f s = 4 := by unfold EndP.outRule; rw [if_pos h]
theorem outRule_5 {e : EndP} {f : FactP} {s : Int} (h0 : f.on = false) (h : (f.data.any fun b => b != 0) = true) : e.outRule f s = 5 := by
  unfold EndP.outRule; rw [if_neg (by rw [h0]; simp), if_pos ⟨h0, h⟩]
theorem outRule_on {e : EndP} {f : FactP} {s : Int} (h0 : f.on = true) (h1 : e.value = f.data) (h2 : e.value ≠ []) (h3 : ¬ (f.side = 2 ∧ e.inn ≠ s)) : e.outRule f s = if f.code ≠ 0 ∨ e.watch ≤ e.since then 6 else if e.latched ≠ 0 ∧ e.acked = false then 8 else 0 := by
  unfold EndP.outRule
  rw [if_neg (by rintro ⟨_, h | h | h⟩; exact h h1; exact h2 h; exact h3 h), if_neg (by rw [h0]; simp)]
  by_cases hc : f.code ≠ 0 ∨ e.watch ≤ e.since
  · rw [if_pos ⟨h0, hc⟩, if_pos hc]
  · rw [if_neg (fun h => hc h.2), if_neg hc, if_neg (fun h => hc (.inr h.1))]
    have hc0 : f.code = 0 := Classical.byContradiction fun h => hc (.inl h)
    simp [hc0]
theorem outRule_off {e : EndP} {f : FactP} {s : Int} (h0 : f.on = false) (h1 : (f.data.any fun b => b != 0) = false) : e.outRule f s = if f.code = 0 then (if e.watch ≤ e.since then 7 else if e.latched ≠ 0 ∧ e.acked = false then 8 else 0) else 0 := by
  unfold EndP.outRule
  rw [if_neg (by rw [h0]; simp), if_neg (by rw [h1]; simp), if_neg (by rw [h0]; simp)]
  by_cases hc : f.code = 0
  · simp [hc]
  · simp [hc]

set_option maxRecDepth 1000000 in
set_option maxHeartbeats 8000000 in
theorem rout_any (q o : Nat) (x : EndP) (h : Bool) (f : FactP) (vf : Value) (cs : Array Value) (session : Int) (dev : Bool) (O' : Nat → Prop) (w : World) (hb : Blk w q cs 68) (hE : REndCs cs o x h) (hh : h = false → x.value = []) (hf : Bs w O' vf f.data) (hlen : f.data.length ≤ 140737488351232) (hdev : dev = decide (f.side = 2)) (hq : ∀ b, O' b → b ≠ q) :
    Calls Try.prog 27 #[.pointer (some ⟨q, o, none⟩), factV f vf, .bool dev, .int .u32 session] w fun e w' => e = .returned (.int .i64 (x.outRule f session)) ∧ (x.outRule f session = 0 → REndTo w w' q cs o (x.outTo f) h) ∧ (x.outRule f session ≠ 0 → REndTo w w' q cs o x h) := by
  obtain ⟨c0, c1, c2, c3, c4, c5, c6, c7, c8, c9, c10⟩ := rend_cells hb hE
  have hr := REndTo.refl hb hE
  have hltq := hb.lt
  obtain ⟨kind, conn, side, sess, number, on, code, data⟩ := f
  obtain ⟨watch, xs, xn, took, value, inn, since, latched, fresh, acked⟩ := x
  obtain ⟨a', cap', rfl, _, hrd'⟩ := hf
  dsimp only at c0 c1 c2 c3 c4 c5 c6 c7 c8 c9 c10 hlen hrd' hdev hh
  show Calls Try.prog 27 #[.pointer (some ⟨q, o, none⟩), .agg #[.int .i64 kind, .int .i64 conn, .int .i64 side, .int .u32 sess, .int .u32 number, .bool on, .int .i64 code, .slice a' data.length cap'], .bool dev, .int .u32 session] w _
  obtain ⟨W0, hW0⟩ : ∃ W0, W0 = w.alloc (.cells #[.int .i64 kind, .int .i64 conn, .int .i64 side, .int .u32 sess, .int .u32 number, .bool on, .int .i64 code, .slice a' data.length cap'] 43) := ⟨_, rfl⟩
  have K0 : Fr No w W0 := hW0 ▸ (Fr.refl No w).alloc _
  have CV : ∀ n, (convert 41 9 (.slice a' data.length cap')).run Try.prog (W0.drewN n) = .ok (.string (strV data)) (W0.drewN n) := fun n => conv_rd (hrd'.keep (K0.drewN n) (fun _ _ => id))
  have HCV := Lib.hid CV
  have HR := Lib.hid hr
  have HK := Lib.hid K0
  have HRD := Lib.hid hrd'
  have HDEV := Lib.hid hdev
  have HH := Lib.hid hh
  have HLEN := Lib.hid hlen
  have HW0 := hW0
  clear CV hr K0 hW0 hrd' hlen hb hE hdev hh hq
  subst HW0
  cases on with
  | true =>
    cases h with
    | false =>
      have hv0 := HH.out rfl
      subst hv0
      have HRU : Hid (EndP.outRule ⟨watch, xs, xn, took, [], inn, since, latched, fresh, acked⟩ ⟨kind, conn, side, sess, number, true, code, data⟩ session = 4) := outRule_4 ⟨rfl, .inr (.inl rfl)⟩
      have cv := HCV.out
      go_enter Try.func27, Try.ntmps27
      go_wp2
      go_quiet (fail)
      generalize nq = n0
      go_wp2
      go_ret
      rw [HRU.out]
      try simp only [World.drewN_drewN]
      exact ⟨rfl, fun h => absurd h (by decide), fun _ => HR.out.fr (HK.out.drewN _)⟩
    | true =>
      by_cases hl0 : data = []
      · subst hl0
        have hv1 : value ≠ [] ∨ value = [] := by by_cases e : value = [] <;> simp [e]
        have HRU : Hid (EndP.outRule ⟨watch, xs, xn, took, value, inn, since, latched, fresh, acked⟩ ⟨kind, conn, side, sess, number, true, code, []⟩ session = 4) := outRule_4 ⟨rfl, by rcases hv1 with e | e; exact .inl e; exact .inr (.inl e)⟩
        have cv := HCV.out
        clear hv1
        go_enter Try.func27, Try.ntmps27
        go_wp2
        go_quiet (fail)
        generalize nq = n0
        go_wp2
        go_ret
        rw [HRU.out]
        try simp only [World.drewN_drewN]
        exact ⟨rfl, fun h => absurd h (by decide), fun _ => HR.out.fr (HK.out.drewN _)⟩
      · have Hl0 : Hid (¬ (data = [])) := hl0
        have hln : ((data.length : Int) == 0) = false := by simpa using hl0
        clear hl0
        by_cases hvd : value = data
        · have Hvd : Hid (data = value) := hvd.symm
          have hse : ((strV value).toList == (strV data).toList) = true := by rw [hvd]; simp
          clear hvd
          by_cases hs : side = 2
          · have hd2 := HDEV.out
            rw [decide_eq_true hs] at hd2
            subst hd2
            have Hs := Lib.hid hs
            clear hs
            by_cases hin : inn = session
            · subst hin
              have HPRE : Hid (EndP.outRule ⟨watch, xs, xn, took, value, inn, since, latched, fresh, acked⟩ ⟨kind, conn, side, sess, number, true, code, data⟩ inn = if code ≠ 0 ∨ watch ≤ since then 6 else if latched ≠ 0 ∧ acked = false then 8 else 0) := outRule_on rfl Hvd.out.symm (by rw [← Hvd.out]; exact Hl0.out) (by rintro ⟨_, h⟩; exact h rfl)
              have cv := HCV.out
              go_enter Try.func27, Try.ntmps27
              go_wp2
              go_quiet (fail)
              generalize nq = n0
              go_wp2
              clear hse
              have hvd := Hvd.out
              subst hvd
              obtain ⟨W1, hW1⟩ : ∃ W1, W1 = (w.alloc (.cells #[.int .i64 kind, .int .i64 conn, .int .i64 side, .int .u32 sess, .int .u32 number, .bool true, .int .i64 code, .slice a' data.length cap'] 43)).drewN n0 := ⟨_, rfl⟩
              rw [← hW1]
              have HK1 : Hid (Fr No w W1) := by rw [hW1]; exact HK.out.drewN n0
              have fB : Blk W1 w.heap.size #[.int .i64 kind, .int .i64 conn, .int .i64 side, .int .u32 sess, .int .u32 number, .bool true, .int .i64 code, .slice a' data.length cap'] 43 := by rw [hW1]; exact ((Fr.refl No _).drewN n0).blk (Blk.new _ _ _) id
              have f5 : W1.cell? ⟨w.heap.size, 5, none⟩ = some (.bool true) := fB.cell 5
              have f6 : W1.cell? ⟨w.heap.size, 6, none⟩ = some (.int .i64 code) := fB.cell 6
              have f7 : W1.cell? ⟨w.heap.size, 7, none⟩ = some (.slice a' data.length cap') := fB.cell 7
              have HTO := Lib.hid (HR.out.fr HK1.out)
              have hk1 := HK1.out
              have e0 := hk1.old c0 id
              have e7 := hk1.old c7 id
              have e8 := hk1.old c8 id
              have e9 := hk1.old c9 id
              have e10 := hk1.old c10 id
              have z8 := HTO.out.free 8
              have z9 := HTO.out.free 9
              have z10 := HTO.out.free 10
              have ne1 : ¬ q = w.heap.size := by omega
              have ne2 : ¬ w.heap.size = q := by omega
              clear hk1 fB hW1 HK HR c0 c1 c2 c3 c4 c5 c6 c7 c8 c9 c10 HCV cv
              have HK := HK1
              have HR := HTO
              clear HTO HK1
              have hlw := HK.out.size
              generalize hN0 : w.heap.size = N0 at f5 f6 f7 ne1 ne2 ⊢
              go_loopw [9] (fun vk wr => ∃ k : Nat, k ≤ data.length ∧ vk = .int .i64 k ∧ Hid (wr = W1)) (fun k _ => data.length - (intOf k).toNat)
              case atStart => exact ⟨0, Nat.zero_le _, rfl, Lib.hid rfl⟩
              case round =>
                obtain ⟨k, hk, rfl, HWR⟩ := hrel
                have hwr := HWR.out
                subst hwr
                by_cases hlt : k < data.length
                · have g1 : (k : Int) < (data.length : Int) := by omega
                  have hk8 : k ≤ 140737488351232 := by have := HLEN.out; omega
                  have hkw : wrap64 ((k : Int) + 1) = (k : Int) + 1 := by unfold wrap64; omega
                  go_wp2
                  go_roundw
                  case rel => exact ⟨k + 1, by omega, by go_num, by first | exact Lib.hid rfl | exact Lib.hid trivial⟩
                  case measure => simp [intOf, hkw]; omega
                · have g1 : ¬ (k : Int) < (data.length : Int) := by omega
                  by_cases cz : code = 0
                  · subst cz
                    by_cases lt : watch ≤ since
                    · have Hlt : Hid (watch ≤ since) := lt
                      have lt_0 : decide (watch ≤ since) = true := by simpa using lt
                      clear lt
                      have HRU : Hid (EndP.outRule ⟨watch, xs, xn, took, data, inn, since, latched, fresh, acked⟩ ⟨kind, conn, side, sess, number, true, 0, data⟩ inn = 6) := by show _ = _; rw [HPRE.out]; simp [Hlt.out]
                      clear HPRE
                      go_wp2
                      go_quiet (fail)
                      generalize nq = nl
                      go_wp2
                      go_ret
                      rw [HRU.out]
                      try simp only [World.drewN_drewN]
                      exact ⟨rfl, fun h => absurd h (by decide), fun _ => (HR.out.fr ((Fr.refl No _).drewN nl))⟩
                    · have Hlt : Hid (¬ (watch ≤ since)) := lt
                      have lt_0 : decide (watch ≤ since) = false := by simpa using lt
                      clear lt
                      by_cases lz : latched = 0
                      · subst lz
                        have HRU : Hid (EndP.outRule ⟨watch, xs, xn, took, data, inn, since, 0, fresh, acked⟩ ⟨kind, conn, side, sess, number, true, 0, data⟩ inn = 0) := by show _ = _; rw [HPRE.out]; simp [Hlt.out]
                        clear HPRE
                        go_wp2
                        go_quiet (fail)
                        generalize nq = nl
                        go_wp2
                        go_quiet (fail)
                        generalize nq = nm
                        go_wp2
                        go_ret
                        rw [HRU.out]
                        try simp only [World.drewN_drewN]
                        have HTO : Hid (EndP.outTo ⟨watch, xs, xn, took, data, inn, since, 0, fresh, acked⟩ ⟨kind, conn, side, sess, number, true, 0, data⟩ = ⟨watch, xs, xn, took, data, inn, since, 0, fresh, false⟩) := by show _ = _; simp [EndP.outTo]
                        rw [HTO.out]
                        exact ⟨rfl, fun _ => (((HR.out.fr ((Fr.refl No _).drewN (nl + nm))).set (x' := ⟨watch, xs, xn, took, data, inn, since, 0, fresh, acked⟩) (h' := true) 8 _ (by omega) rfl).set (x' := ⟨watch, xs, xn, took, data, inn, since, 0, fresh, false⟩) (h' := true) 10 _ (by omega) rfl), fun h => absurd rfl h⟩
                      · have Hlz : Hid (¬ (latched = 0)) := lz
                        have Hcl : Hid (¬ (0 = latched)) := fun h => lz h.symm
                        have lz_0 : (latched == 0) = false := by simpa using lz
                        have lz_1 : (latched != 0) = true := by simpa using lz
                        have cl_0 : ((0 : Int) == latched) = false := by simp; omega
                        have cl_1 : ((0 : Int) != latched) = true := by simp; omega
                        clear lz
                        cases acked with
                        | false =>
                          have HRU : Hid (EndP.outRule ⟨watch, xs, xn, took, data, inn, since, latched, fresh, false⟩ ⟨kind, conn, side, sess, number, true, 0, data⟩ inn = 8) := by show _ = _; rw [HPRE.out]; simp [Hlt.out, Hlz.out]
                          clear HPRE
                          go_wp2
                          go_quiet (fail)
                          generalize nq = nl
                          go_wp2
                          go_ret
                          rw [HRU.out]
                          try simp only [World.drewN_drewN]
                          exact ⟨rfl, fun h => absurd h (by decide), fun _ => (HR.out.fr ((Fr.refl No _).drewN nl))⟩
                        | true =>
                          have HRU : Hid (EndP.outRule ⟨watch, xs, xn, took, data, inn, since, latched, fresh, true⟩ ⟨kind, conn, side, sess, number, true, 0, data⟩ inn = 0) := by show _ = _; rw [HPRE.out]; simp [Hlt.out, Hlz.out]
                          clear HPRE
                          go_wp2
                          go_quiet (fail)
                          generalize nq = nl
                          go_wp2
                          go_quiet (fail)
                          generalize nq = nm
                          go_wp2
                          go_ret
                          rw [HRU.out]
                          try simp only [World.drewN_drewN]
                          have HTO : Hid (EndP.outTo ⟨watch, xs, xn, took, data, inn, since, latched, fresh, true⟩ ⟨kind, conn, side, sess, number, true, 0, data⟩ = ⟨watch, xs, xn, took, data, inn, since, 0, false, false⟩) := by show _ = _; simp [EndP.outTo, Hcl.out]
                          rw [HTO.out]
                          exact ⟨rfl, fun _ => ((((HR.out.fr ((Fr.refl No _).drewN (nl + nm))).set (x' := ⟨watch, xs, xn, took, data, inn, since, latched, false, true⟩) (h' := true) 9 _ (by omega) rfl).set (x' := ⟨watch, xs, xn, took, data, inn, since, 0, false, true⟩) (h' := true) 8 _ (by omega) rfl).set (x' := ⟨watch, xs, xn, took, data, inn, since, 0, false, false⟩) (h' := true) 10 _ (by omega) rfl), fun h => absurd rfl h⟩
                  · have Hcz : Hid (¬ (code = 0)) := cz
                    have cz_0 : (code == 0) = false := by simpa using cz
                    have cz_1 : (code != 0) = true := by simpa using cz
                    clear cz
                    have HRU : Hid (EndP.outRule ⟨watch, xs, xn, took, data, inn, since, latched, fresh, acked⟩ ⟨kind, conn, side, sess, number, true, code, data⟩ inn = 6) := by show _ = _; rw [HPRE.out]; simp [Hcz.out]
                    clear HPRE
                    go_wp2
                    go_quiet (fail)
                    generalize nq = nl
                    go_wp2
                    go_ret
                    rw [HRU.out]
                    try simp only [World.drewN_drewN]
                    exact ⟨rfl, fun h => absurd h (by decide), fun _ => (HR.out.fr ((Fr.refl No _).drewN nl))⟩
            · have hin_0 : (inn == session) = false := by simpa using hin
              have hin_1 : (inn != session) = true := by simpa using hin
              have Hin := Lib.hid hin
              clear hin
              have HRU : Hid (EndP.outRule ⟨watch, xs, xn, took, value, inn, since, latched, fresh, acked⟩ ⟨kind, conn, side, sess, number, true, code, data⟩ session = 4) := outRule_4 ⟨rfl, .inr (.inr ⟨Hs.out, Hin.out⟩)⟩
              have cv := HCV.out
              go_enter Try.func27, Try.ntmps27
              go_wp2
              go_quiet (fail)
              generalize nq = n0
              go_wp2
              go_ret
              rw [HRU.out]
              try simp only [World.drewN_drewN]
              exact ⟨rfl, fun h => absurd h (by decide), fun _ => HR.out.fr (HK.out.drewN _)⟩
          · have hd2 := HDEV.out
            rw [decide_eq_false hs] at hd2
            subst hd2
            have Hs := Lib.hid hs
            clear hs
            have HPRE : Hid (EndP.outRule ⟨watch, xs, xn, took, value, inn, since, latched, fresh, acked⟩ ⟨kind, conn, side, sess, number, true, code, data⟩ session = if code ≠ 0 ∨ watch ≤ since then 6 else if latched ≠ 0 ∧ acked = false then 8 else 0) := outRule_on rfl Hvd.out.symm (by rw [← Hvd.out]; exact Hl0.out) (by rintro ⟨h, _⟩; exact Hs.out h)
            have cv := HCV.out
            go_enter Try.func27, Try.ntmps27
            go_wp2
            go_quiet (fail)
            generalize nq = n0
            go_wp2
            clear hse
            have hvd := Hvd.out
            subst hvd
            obtain ⟨W1, hW1⟩ : ∃ W1, W1 = (w.alloc (.cells #[.int .i64 kind, .int .i64 conn, .int .i64 side, .int .u32 sess, .int .u32 number, .bool true, .int .i64 code, .slice a' data.length cap'] 43)).drewN n0 := ⟨_, rfl⟩
            rw [← hW1]
            have HK1 : Hid (Fr No w W1) := by rw [hW1]; exact HK.out.drewN n0
            have fB : Blk W1 w.heap.size #[.int .i64 kind, .int .i64 conn, .int .i64 side, .int .u32 sess, .int .u32 number, .bool true, .int .i64 code, .slice a' data.length cap'] 43 := by rw [hW1]; exact ((Fr.refl No _).drewN n0).blk (Blk.new _ _ _) id
            have f5 : W1.cell? ⟨w.heap.size, 5, none⟩ = some (.bool true) := fB.cell 5
            have f6 : W1.cell? ⟨w.heap.size, 6, none⟩ = some (.int .i64 code) := fB.cell 6
            have f7 : W1.cell? ⟨w.heap.size, 7, none⟩ = some (.slice a' data.length cap') := fB.cell 7
            have HTO := Lib.hid (HR.out.fr HK1.out)
            have hk1 := HK1.out
            have e0 := hk1.old c0 id
            have e7 := hk1.old c7 id
            have e8 := hk1.old c8 id
            have e9 := hk1.old c9 id
            have e10 := hk1.old c10 id
            have z8 := HTO.out.free 8
            have z9 := HTO.out.free 9
            have z10 := HTO.out.free 10
            have ne1 : ¬ q = w.heap.size := by omega
            have ne2 : ¬ w.heap.size = q := by omega
            clear hk1 fB hW1 HK HR c0 c1 c2 c3 c4 c5 c6 c7 c8 c9 c10 HCV cv
            have HK := HK1
            have HR := HTO
            clear HTO HK1
            have hlw := HK.out.size
            generalize hN0 : w.heap.size = N0 at f5 f6 f7 ne1 ne2 ⊢
            go_loopw [9] (fun vk wr => ∃ k : Nat, k ≤ data.length ∧ vk = .int .i64 k ∧ Hid (wr = W1)) (fun k _ => data.length - (intOf k).toNat)
            case atStart => exact ⟨0, Nat.zero_le _, rfl, Lib.hid rfl⟩
            case round =>
              obtain ⟨k, hk, rfl, HWR⟩ := hrel
              have hwr := HWR.out
              subst hwr
              by_cases hlt : k < data.length
              · have g1 : (k : Int) < (data.length : Int) := by omega
                have hk8 : k ≤ 140737488351232 := by have := HLEN.out; omega
                have hkw : wrap64 ((k : Int) + 1) = (k : Int) + 1 := by unfold wrap64; omega
                go_wp2
                go_roundw
                case rel => exact ⟨k + 1, by omega, by go_num, by first | exact Lib.hid rfl | exact Lib.hid trivial⟩
                case measure => simp [intOf, hkw]; omega
              · have g1 : ¬ (k : Int) < (data.length : Int) := by omega
                by_cases cz : code = 0
                · subst cz
                  by_cases lt : watch ≤ since
                  · have Hlt : Hid (watch ≤ since) := lt
                    have lt_0 : decide (watch ≤ since) = true := by simpa using lt
                    clear lt
                    have HRU : Hid (EndP.outRule ⟨watch, xs, xn, took, data, inn, since, latched, fresh, acked⟩ ⟨kind, conn, side, sess, number, true, 0, data⟩ session = 6) := by show _ = _; rw [HPRE.out]; simp [Hlt.out]
                    clear HPRE
                    go_wp2
                    go_quiet (fail)
                    generalize nq = nl
                    go_wp2
                    go_ret
                    rw [HRU.out]
                    try simp only [World.drewN_drewN]
                    exact ⟨rfl, fun h => absurd h (by decide), fun _ => (HR.out.fr ((Fr.refl No _).drewN nl))⟩
                  · have Hlt : Hid (¬ (watch ≤ since)) := lt
                    have lt_0 : decide (watch ≤ since) = false := by simpa using lt
                    clear lt
                    by_cases lz : latched = 0
                    · subst lz
                      have HRU : Hid (EndP.outRule ⟨watch, xs, xn, took, data, inn, since, 0, fresh, acked⟩ ⟨kind, conn, side, sess, number, true, 0, data⟩ session = 0) := by show _ = _; rw [HPRE.out]; simp [Hlt.out]
                      clear HPRE
                      go_wp2
                      go_quiet (fail)
                      generalize nq = nl
                      go_wp2
                      go_quiet (fail)
                      generalize nq = nm
                      go_wp2
                      go_ret
                      rw [HRU.out]
                      try simp only [World.drewN_drewN]
                      have HTO : Hid (EndP.outTo ⟨watch, xs, xn, took, data, inn, since, 0, fresh, acked⟩ ⟨kind, conn, side, sess, number, true, 0, data⟩ = ⟨watch, xs, xn, took, data, inn, since, 0, fresh, false⟩) := by show _ = _; simp [EndP.outTo]
                      rw [HTO.out]
                      exact ⟨rfl, fun _ => (((HR.out.fr ((Fr.refl No _).drewN (nl + nm))).set (x' := ⟨watch, xs, xn, took, data, inn, since, 0, fresh, acked⟩) (h' := true) 8 _ (by omega) rfl).set (x' := ⟨watch, xs, xn, took, data, inn, since, 0, fresh, false⟩) (h' := true) 10 _ (by omega) rfl), fun h => absurd rfl h⟩
                    · have Hlz : Hid (¬ (latched = 0)) := lz
                      have Hcl : Hid (¬ (0 = latched)) := fun h => lz h.symm
                      have lz_0 : (latched == 0) = false := by simpa using lz
                      have lz_1 : (latched != 0) = true := by simpa using lz
                      have cl_0 : ((0 : Int) == latched) = false := by simp; omega
                      have cl_1 : ((0 : Int) != latched) = true := by simp; omega
                      clear lz
                      cases acked with
                      | false =>
                        have HRU : Hid (EndP.outRule ⟨watch, xs, xn, took, data, inn, since, latched, fresh, false⟩ ⟨kind, conn, side, sess, number, true, 0, data⟩ session = 8) := by show _ = _; rw [HPRE.out]; simp [Hlt.out, Hlz.out]
                        clear HPRE
                        go_wp2
                        go_quiet (fail)
                        generalize nq = nl
                        go_wp2
                        go_ret
                        rw [HRU.out]
                        try simp only [World.drewN_drewN]
                        exact ⟨rfl, fun h => absurd h (by decide), fun _ => (HR.out.fr ((Fr.refl No _).drewN nl))⟩
                      | true =>
                        have HRU : Hid (EndP.outRule ⟨watch, xs, xn, took, data, inn, since, latched, fresh, true⟩ ⟨kind, conn, side, sess, number, true, 0, data⟩ session = 0) := by show _ = _; rw [HPRE.out]; simp [Hlt.out, Hlz.out]
                        clear HPRE
                        go_wp2
                        go_quiet (fail)
                        generalize nq = nl
                        go_wp2
                        go_quiet (fail)
                        generalize nq = nm
                        go_wp2
                        go_ret
                        rw [HRU.out]
                        try simp only [World.drewN_drewN]
                        have HTO : Hid (EndP.outTo ⟨watch, xs, xn, took, data, inn, since, latched, fresh, true⟩ ⟨kind, conn, side, sess, number, true, 0, data⟩ = ⟨watch, xs, xn, took, data, inn, since, 0, false, false⟩) := by show _ = _; simp [EndP.outTo, Hcl.out]
                        rw [HTO.out]
                        exact ⟨rfl, fun _ => ((((HR.out.fr ((Fr.refl No _).drewN (nl + nm))).set (x' := ⟨watch, xs, xn, took, data, inn, since, latched, false, true⟩) (h' := true) 9 _ (by omega) rfl).set (x' := ⟨watch, xs, xn, took, data, inn, since, 0, false, true⟩) (h' := true) 8 _ (by omega) rfl).set (x' := ⟨watch, xs, xn, took, data, inn, since, 0, false, false⟩) (h' := true) 10 _ (by omega) rfl), fun h => absurd rfl h⟩
                · have Hcz : Hid (¬ (code = 0)) := cz
                  have cz_0 : (code == 0) = false := by simpa using cz
                  have cz_1 : (code != 0) = true := by simpa using cz
                  clear cz
                  have HRU : Hid (EndP.outRule ⟨watch, xs, xn, took, data, inn, since, latched, fresh, acked⟩ ⟨kind, conn, side, sess, number, true, code, data⟩ session = 6) := by show _ = _; rw [HPRE.out]; simp [Hcz.out]
                  clear HPRE
                  go_wp2
                  go_quiet (fail)
                  generalize nq = nl
                  go_wp2
                  go_ret
                  rw [HRU.out]
                  try simp only [World.drewN_drewN]
                  exact ⟨rfl, fun h => absurd h (by decide), fun _ => (HR.out.fr ((Fr.refl No _).drewN nl))⟩
        · have hse : ((strV value).toList == (strV data).toList) = false := by rw [strV_toList, strV_toList]; simpa using hvd
          have HRU : Hid (EndP.outRule ⟨watch, xs, xn, took, value, inn, since, latched, fresh, acked⟩ ⟨kind, conn, side, sess, number, true, code, data⟩ session = 4) := outRule_4 ⟨rfl, .inl hvd⟩
          have cv := HCV.out
          go_enter Try.func27, Try.ntmps27
          go_wp2
          go_quiet (fail)
          generalize nq = n0
          go_wp2
          go_ret
          rw [HRU.out]
          try simp only [World.drewN_drewN]
          exact ⟨rfl, fun h => absurd h (by decide), fun _ => HR.out.fr (HK.out.drewN _)⟩
  | false =>
    go_enter Try.func27, Try.ntmps27
    have cv := HCV.out
    go_wp2
    go_quiet (fail)
    generalize nq = n0
    go_wp2
    obtain ⟨W1, hW1⟩ : ∃ W1, W1 = (w.alloc (.cells #[.int .i64 kind, .int .i64 conn, .int .i64 side, .int .u32 sess, .int .u32 number, .bool false, .int .i64 code, .slice a' data.length cap'] 43)).drewN n0 := ⟨_, rfl⟩
    rw [← hW1]
    have HK1 : Hid (Fr No w W1) := by rw [hW1]; exact HK.out.drewN n0
    have fB : Blk W1 w.heap.size #[.int .i64 kind, .int .i64 conn, .int .i64 side, .int .u32 sess, .int .u32 number, .bool false, .int .i64 code, .slice a' data.length cap'] 43 := by rw [hW1]; exact ((Fr.refl No _).drewN n0).blk (Blk.new _ _ _) id
    have f5 : W1.cell? ⟨w.heap.size, 5, none⟩ = some (.bool false) := fB.cell 5
    have f6 : W1.cell? ⟨w.heap.size, 6, none⟩ = some (.int .i64 code) := fB.cell 6
    have f7 : W1.cell? ⟨w.heap.size, 7, none⟩ = some (.slice a' data.length cap') := fB.cell 7
    have HTO := Lib.hid (HR.out.fr HK1.out)
    have hk1 := HK1.out
    have e0 := hk1.old c0 id
    have e7 := hk1.old c7 id
    have e8 := hk1.old c8 id
    have e9 := hk1.old c9 id
    have e10 := hk1.old c10 id
    have z8 := HTO.out.free 8
    have z9 := HTO.out.free 9
    have z10 := HTO.out.free 10
    have ne1 : ¬ q = w.heap.size := by omega
    have ne2 : ¬ w.heap.size = q := by omega
    clear hk1 fB hW1 HK HR c0 c1 c2 c3 c4 c5 c6 c7 c8 c9 c10 HCV cv
    have HK := HK1
    have HR := HTO
    clear HTO HK1
    have hlw := HK.out.size
    generalize hN0 : w.heap.size = N0 at f5 f6 f7 ne1 ne2 ⊢
    go_loopw [9] (fun vk wr => ∃ k : Nat, k ≤ data.length ∧ vk = .int .i64 k ∧ Hid (wr = W1) ∧ Hid (((data.take k).any fun b => b != 0) = false)) (fun k _ => data.length - (intOf k).toNat)
    case atStart => exact ⟨0, Nat.zero_le _, rfl, Lib.hid rfl, (show _ = _ by simp)⟩
    case round =>
      obtain ⟨k, hk, rfl, HWR, HE⟩ := hrel
      have hwr := HWR.out
      subst hwr
      by_cases hlt : k < data.length
      · have g1 : (k : Int) < (data.length : Int) := by omega
        have hk8 : k ≤ 140737488351232 := by have := HLEN.out; omega
        have hkw : wrap64 ((k : Int) + 1) = (k : Int) + 1 := by unfold wrap64; omega
        obtain ⟨b, off, rfl, _, hc⟩ := HRD.out (by omega)
        have z1 := HK.out.old (hc k hlt) id
        clear hc
        by_cases hz : (data[k] != 0) = true
        · have HZ : Hid ((data.any fun b => b != 0) = true) := by show _ = _; rw [List.any_eq_true]; exact ⟨data[k], List.getElem_mem _, hz⟩
          have hy : (((data[k].toNat : Nat) : Int) != 0) = true := by have := byte_ne (a := data[k]) (b := 0) (by simpa using hz); simpa [bne] using this
          have HRU : Hid (EndP.outRule ⟨watch, xs, xn, took, value, inn, since, latched, fresh, acked⟩ ⟨kind, conn, side, sess, number, false, code, data⟩ session = 5) := outRule_5 rfl HZ.out
          clear hz
          generalize data[k] = y at z1 hy
          go_wp2
          go_ret
          rw [HRU.out]
          exact ⟨rfl, fun h => absurd h (by decide), fun _ => HR.out⟩
        · have hz' : (data[k] != 0) = false := by simpa using hz
          have HZ : Hid (((data.take (k + 1)).any fun b => b != 0) = false) := any_take_succ hlt HE.out hz'
          have hy0 : data[k] = 0 := by simpa using hz'
          have hy : (((data[k].toNat : Nat) : Int) != 0) = false := by rw [hy0]; rfl
          clear hz hz' hy0
          generalize data[k] = y at z1 hy
          go_wp2
          go_roundw
          case rel => exact ⟨k + 1, by omega, by go_num, by first | exact Lib.hid rfl | exact Lib.hid trivial, HZ⟩
          case measure => simp [intOf, hkw]; omega
      · obtain rfl : k = data.length := by omega
        have g1 : ¬ (data.length : Int) < (data.length : Int) := by omega
        have HPRE : Hid (EndP.outRule ⟨watch, xs, xn, took, value, inn, since, latched, fresh, acked⟩ ⟨kind, conn, side, sess, number, false, code, data⟩ session = if code = 0 then (if watch ≤ since then 7 else if latched ≠ 0 ∧ acked = false then 8 else 0) else 0) := outRule_off rfl (by have := HE.out; rwa [List.take_length] at this)
        by_cases cz : code = 0
        · subst cz
          by_cases lt : watch ≤ since
          · have Hlt : Hid (watch ≤ since) := lt
            have lt_0 : decide (watch ≤ since) = true := by simpa using lt
            clear lt
            have HRU : Hid (EndP.outRule ⟨watch, xs, xn, took, value, inn, since, latched, fresh, acked⟩ ⟨kind, conn, side, sess, number, false, 0, data⟩ session = 7) := by show _ = _; rw [HPRE.out]; simp [Hlt.out]
            clear HPRE
            go_wp2
            go_quiet (fail)
            generalize nq = nl
            go_wp2
            go_ret
            rw [HRU.out]
            try simp only [World.drewN_drewN]
            exact ⟨rfl, fun h => absurd h (by decide), fun _ => (HR.out.fr ((Fr.refl No _).drewN nl))⟩
          · have Hlt : Hid (¬ (watch ≤ since)) := lt
            have lt_0 : decide (watch ≤ since) = false := by simpa using lt
            clear lt
            by_cases lz : latched = 0
            · subst lz
              have HRU : Hid (EndP.outRule ⟨watch, xs, xn, took, value, inn, since, 0, fresh, acked⟩ ⟨kind, conn, side, sess, number, false, 0, data⟩ session = 0) := by show _ = _; rw [HPRE.out]; simp [Hlt.out]
              clear HPRE
              go_wp2
              go_quiet (fail)
              generalize nq = nl
              go_wp2
              go_quiet (fail)
              generalize nq = nm
              go_wp2
              go_ret
              rw [HRU.out]
              try simp only [World.drewN_drewN]
              have HTO : Hid (EndP.outTo ⟨watch, xs, xn, took, value, inn, since, 0, fresh, acked⟩ ⟨kind, conn, side, sess, number, false, 0, data⟩ = ⟨watch, xs, xn, took, value, inn, since, 0, fresh, false⟩) := by show _ = _; simp [EndP.outTo]
              rw [HTO.out]
              exact ⟨rfl, fun _ => (((HR.out.fr ((Fr.refl No _).drewN (nl + nm))).set (x' := ⟨watch, xs, xn, took, value, inn, since, 0, fresh, acked⟩) (h' := h) 8 _ (by omega) rfl).set (x' := ⟨watch, xs, xn, took, value, inn, since, 0, fresh, false⟩) (h' := h) 10 _ (by omega) rfl), fun h => absurd rfl h⟩
            · have Hlz : Hid (¬ (latched = 0)) := lz
              have Hcl : Hid (¬ (0 = latched)) := fun h => lz h.symm
              have lz_0 : (latched == 0) = false := by simpa using lz
              have lz_1 : (latched != 0) = true := by simpa using lz
              have cl_0 : ((0 : Int) == latched) = false := by simp; omega
              have cl_1 : ((0 : Int) != latched) = true := by simp; omega
              clear lz
              cases acked with
              | false =>
                have HRU : Hid (EndP.outRule ⟨watch, xs, xn, took, value, inn, since, latched, fresh, false⟩ ⟨kind, conn, side, sess, number, false, 0, data⟩ session = 8) := by show _ = _; rw [HPRE.out]; simp [Hlt.out, Hlz.out]
                clear HPRE
                go_wp2
                go_quiet (fail)
                generalize nq = nl
                go_wp2
                go_ret
                rw [HRU.out]
                try simp only [World.drewN_drewN]
                exact ⟨rfl, fun h => absurd h (by decide), fun _ => (HR.out.fr ((Fr.refl No _).drewN nl))⟩
              | true =>
                have HRU : Hid (EndP.outRule ⟨watch, xs, xn, took, value, inn, since, latched, fresh, true⟩ ⟨kind, conn, side, sess, number, false, 0, data⟩ session = 0) := by show _ = _; rw [HPRE.out]; simp [Hlt.out, Hlz.out]
                clear HPRE
                go_wp2
                go_quiet (fail)
                generalize nq = nl
                go_wp2
                go_quiet (fail)
                generalize nq = nm
                go_wp2
                go_ret
                rw [HRU.out]
                try simp only [World.drewN_drewN]
                have HTO : Hid (EndP.outTo ⟨watch, xs, xn, took, value, inn, since, latched, fresh, true⟩ ⟨kind, conn, side, sess, number, false, 0, data⟩ = ⟨watch, xs, xn, took, value, inn, since, 0, false, false⟩) := by show _ = _; simp [EndP.outTo, Hcl.out]
                rw [HTO.out]
                exact ⟨rfl, fun _ => ((((HR.out.fr ((Fr.refl No _).drewN (nl + nm))).set (x' := ⟨watch, xs, xn, took, value, inn, since, latched, false, true⟩) (h' := h) 9 _ (by omega) rfl).set (x' := ⟨watch, xs, xn, took, value, inn, since, 0, false, true⟩) (h' := h) 8 _ (by omega) rfl).set (x' := ⟨watch, xs, xn, took, value, inn, since, 0, false, false⟩) (h' := h) 10 _ (by omega) rfl), fun h => absurd rfl h⟩
        · have Hcz : Hid (¬ (code = 0)) := cz
          have cz_0 : (code == 0) = false := by simpa using cz
          have cz_1 : (code != 0) = true := by simpa using cz
          clear cz
          by_cases lt : watch ≤ since
          · have Hlt : Hid (watch ≤ since) := lt
            have lt_0 : decide (watch ≤ since) = true := by simpa using lt
            clear lt
            by_cases cl : code = latched
            · subst cl
              have HRU : Hid (EndP.outRule ⟨watch, xs, xn, took, value, inn, since, code, fresh, acked⟩ ⟨kind, conn, side, sess, number, false, code, data⟩ session = 0) := by show _ = _; rw [HPRE.out]; simp [Hcz.out]
              clear HPRE
              go_wp2
              go_quiet (fail)
              generalize nq = nl
              go_wp2
              go_quiet (fail)
              generalize nq = nm
              go_wp2
              go_ret
              rw [HRU.out]
              try simp only [World.drewN_drewN]
              have HTO : Hid (EndP.outTo ⟨watch, xs, xn, took, value, inn, since, code, fresh, acked⟩ ⟨kind, conn, side, sess, number, false, code, data⟩ = ⟨watch, xs, xn, took, value, inn, since, code, fresh, false⟩) := by show _ = _; simp [EndP.outTo]
              rw [HTO.out]
              exact ⟨rfl, fun _ => (((HR.out.fr ((Fr.refl No _).drewN (nl + nm))).set (x' := ⟨watch, xs, xn, took, value, inn, since, code, fresh, acked⟩) (h' := h) 8 _ (by omega) rfl).set (x' := ⟨watch, xs, xn, took, value, inn, since, code, fresh, false⟩) (h' := h) 10 _ (by omega) rfl), fun h => absurd rfl h⟩
            · have Hcl : Hid (¬ (code = latched)) := cl
              have cl_0 : (code == latched) = false := by simpa using cl
              have cl_1 : (code != latched) = true := by simpa using cl
              clear cl
              by_cases lz : latched = 0
              · subst lz
                have HRU : Hid (EndP.outRule ⟨watch, xs, xn, took, value, inn, since, 0, fresh, acked⟩ ⟨kind, conn, side, sess, number, false, code, data⟩ session = 0) := by show _ = _; rw [HPRE.out]; simp [Hcz.out]
                clear HPRE
                go_wp2
                go_quiet (fail)
                generalize nq = nl
                go_wp2
                go_quiet (fail)
                generalize nq = nm
                go_wp2
                go_ret
                rw [HRU.out]
                try simp only [World.drewN_drewN]
                have HTO : Hid (EndP.outTo ⟨watch, xs, xn, took, value, inn, since, 0, fresh, acked⟩ ⟨kind, conn, side, sess, number, false, code, data⟩ = ⟨watch, xs, xn, took, value, inn, since, code, false, false⟩) := by show _ = _; simp [EndP.outTo, Hcl.out]
                rw [HTO.out]
                exact ⟨rfl, fun _ => ((((HR.out.fr ((Fr.refl No _).drewN (nl + nm))).set (x' := ⟨watch, xs, xn, took, value, inn, since, 0, false, acked⟩) (h' := h) 9 _ (by omega) rfl).set (x' := ⟨watch, xs, xn, took, value, inn, since, code, false, acked⟩) (h' := h) 8 _ (by omega) rfl).set (x' := ⟨watch, xs, xn, took, value, inn, since, code, false, false⟩) (h' := h) 10 _ (by omega) rfl), fun h => absurd rfl h⟩
              · have lz_0 : (latched == 0) = false := by simpa using lz
                have lz_1 : (latched != 0) = true := by simpa using lz
                clear lz
                have HRU : Hid (EndP.outRule ⟨watch, xs, xn, took, value, inn, since, latched, fresh, acked⟩ ⟨kind, conn, side, sess, number, false, code, data⟩ session = 0) := by show _ = _; rw [HPRE.out]; simp [Hcz.out]
                clear HPRE
                go_wp2
                go_quiet (fail)
                generalize nq = nl
                go_wp2
                go_quiet (fail)
                generalize nq = nm
                go_wp2
                go_ret
                rw [HRU.out]
                try simp only [World.drewN_drewN]
                have HTO : Hid (EndP.outTo ⟨watch, xs, xn, took, value, inn, since, latched, fresh, acked⟩ ⟨kind, conn, side, sess, number, false, code, data⟩ = ⟨watch, xs, xn, took, value, inn, since, code, false, false⟩) := by show _ = _; simp [EndP.outTo, Hcl.out]
                rw [HTO.out]
                exact ⟨rfl, fun _ => ((((HR.out.fr ((Fr.refl No _).drewN (nl + nm))).set (x' := ⟨watch, xs, xn, took, value, inn, since, latched, false, acked⟩) (h' := h) 9 _ (by omega) rfl).set (x' := ⟨watch, xs, xn, took, value, inn, since, code, false, acked⟩) (h' := h) 8 _ (by omega) rfl).set (x' := ⟨watch, xs, xn, took, value, inn, since, code, false, false⟩) (h' := h) 10 _ (by omega) rfl), fun h => absurd rfl h⟩
          · have Hlt : Hid (¬ (watch ≤ since)) := lt
            have lt_0 : decide (watch ≤ since) = false := by simpa using lt
            clear lt
            by_cases cl : code = latched
            · subst cl
              have HRU : Hid (EndP.outRule ⟨watch, xs, xn, took, value, inn, since, code, fresh, acked⟩ ⟨kind, conn, side, sess, number, false, code, data⟩ session = 0) := by show _ = _; rw [HPRE.out]; simp [Hcz.out]
              clear HPRE
              go_wp2
              go_quiet (fail)
              generalize nq = nl
              go_wp2
              go_quiet (fail)
              generalize nq = nm
              go_wp2
              go_ret
              rw [HRU.out]
              try simp only [World.drewN_drewN]
              have HTO : Hid (EndP.outTo ⟨watch, xs, xn, took, value, inn, since, code, fresh, acked⟩ ⟨kind, conn, side, sess, number, false, code, data⟩ = ⟨watch, xs, xn, took, value, inn, since, code, fresh, false⟩) := by show _ = _; simp [EndP.outTo]
              rw [HTO.out]
              exact ⟨rfl, fun _ => (((HR.out.fr ((Fr.refl No _).drewN (nl + nm))).set (x' := ⟨watch, xs, xn, took, value, inn, since, code, fresh, acked⟩) (h' := h) 8 _ (by omega) rfl).set (x' := ⟨watch, xs, xn, took, value, inn, since, code, fresh, false⟩) (h' := h) 10 _ (by omega) rfl), fun h => absurd rfl h⟩
            · have Hcl : Hid (¬ (code = latched)) := cl
              have cl_0 : (code == latched) = false := by simpa using cl
              have cl_1 : (code != latched) = true := by simpa using cl
              clear cl
              by_cases lz : latched = 0
              · subst lz
                have HRU : Hid (EndP.outRule ⟨watch, xs, xn, took, value, inn, since, 0, fresh, acked⟩ ⟨kind, conn, side, sess, number, false, code, data⟩ session = 0) := by show _ = _; rw [HPRE.out]; simp [Hcz.out]
                clear HPRE
                go_wp2
                go_quiet (fail)
                generalize nq = nl
                go_wp2
                go_quiet (fail)
                generalize nq = nm
                go_wp2
                go_ret
                rw [HRU.out]
                try simp only [World.drewN_drewN]
                have HTO : Hid (EndP.outTo ⟨watch, xs, xn, took, value, inn, since, 0, fresh, acked⟩ ⟨kind, conn, side, sess, number, false, code, data⟩ = ⟨watch, xs, xn, took, value, inn, since, code, false, false⟩) := by show _ = _; simp [EndP.outTo, Hcl.out]
                rw [HTO.out]
                exact ⟨rfl, fun _ => ((((HR.out.fr ((Fr.refl No _).drewN (nl + nm))).set (x' := ⟨watch, xs, xn, took, value, inn, since, 0, false, acked⟩) (h' := h) 9 _ (by omega) rfl).set (x' := ⟨watch, xs, xn, took, value, inn, since, code, false, acked⟩) (h' := h) 8 _ (by omega) rfl).set (x' := ⟨watch, xs, xn, took, value, inn, since, code, false, false⟩) (h' := h) 10 _ (by omega) rfl), fun h => absurd rfl h⟩
              · have lz_0 : (latched == 0) = false := by simpa using lz
                have lz_1 : (latched != 0) = true := by simpa using lz
                clear lz
                have HRU : Hid (EndP.outRule ⟨watch, xs, xn, took, value, inn, since, latched, fresh, acked⟩ ⟨kind, conn, side, sess, number, false, code, data⟩ session = 0) := by show _ = _; rw [HPRE.out]; simp [Hcz.out]
                clear HPRE
                go_wp2
                go_quiet (fail)
                generalize nq = nl
                go_wp2
                go_quiet (fail)
                generalize nq = nm
                go_wp2
                go_ret
                rw [HRU.out]
                try simp only [World.drewN_drewN]
                have HTO : Hid (EndP.outTo ⟨watch, xs, xn, took, value, inn, since, latched, fresh, acked⟩ ⟨kind, conn, side, sess, number, false, code, data⟩ = ⟨watch, xs, xn, took, value, inn, since, code, false, false⟩) := by show _ = _; simp [EndP.outTo, Hcl.out]
                rw [HTO.out]
                exact ⟨rfl, fun _ => ((((HR.out.fr ((Fr.refl No _).drewN (nl + nm))).set (x' := ⟨watch, xs, xn, took, value, inn, since, latched, false, acked⟩) (h' := h) 9 _ (by omega) rfl).set (x' := ⟨watch, xs, xn, took, value, inn, since, code, false, acked⟩) (h' := h) 8 _ (by omega) rfl).set (x' := ⟨watch, xs, xn, took, value, inn, since, code, false, false⟩) (h' := h) 10 _ (by omega) rfl), fun h => absurd rfl h⟩
end Go.Proofs.Ytmggfdhlbjlpjaa
