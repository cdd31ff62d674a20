/-
  DERIVED. The walk of an end's out. (Printed by out.py.)
-/
import Derived.Test.YtmggfdhlbjlpjaaEnd
import Derived.Test.YtmggfdhlbjlpjaaSl
import Derived.Lib.Hide
namespace Go.Proofs.Ytmggfdhlbjlpjaa
open Go.RowKit
set_option linter.unusedSimpArgs false
set_option linter.unusedVariables false

/-- A fact as a value; v is its data, as a slice. -/
def factCells (f : FactP) (v : Value) : Array Value := #[.int .i64 f.kind, .int .i64 f.conn, .int .i64 f.side, .int .u32 f.session, .int .u32 f.number, .bool f.on, .int .i64 f.code, v]
def factV (f : FactP) (v : Value) : Value := .agg (factCells f v)

set_option maxRecDepth 1000000 in
set_option maxHeartbeats 8000000 in
theorem out_any (q o : Nat) (x : EndP) (f : FactP) (v vf : Value) (cs : Array Value) (session : Int) (O O' : Nat → Prop) (w : World) (hb : Blk w q cs 64) (hE : EndCs cs o x v) (hv : Bs w O v x.value) (hf : Bs w O' vf f.data) (hlen : x.value.length ≤ 140737488351232) (hlen' : f.data.length ≤ 140737488351232) :
    Calls Try.prog 24 #[.pointer (some ⟨q, o, none⟩), factV f vf, .int .u32 session] w fun e w' => e = .returned (.int .i64 (x.outRule f session)) ∧ (x.outRule f session = 0 → EndTo w w' q cs o (x.outTo f) v) ∧ (x.outRule f session ≠ 0 → EndTo w w' q cs o x v) := by
  obtain ⟨c0, c1, c2, c3, c4, c5, c6, c7, c8, c9⟩ := end_cells hb hE
  have hr := EndTo.refl hb hE
  have hlt := hb.lt
  have hfree := hb.free
  have z7 := hfree (o + 7)
  have z8 := hfree (o + 8)
  have z9 := hfree (o + 9)
  obtain ⟨kind, conn, side, sess, number, on, code, data⟩ := f
  obtain ⟨watch, xs, xn, took, value, inn, since, latched, fresh, acked⟩ := x
  obtain ⟨a, cap, rfl, _, hrd⟩ := hv
  obtain ⟨a', cap', rfl, _, hrd'⟩ := hf
  dsimp only at c0 c1 c2 c3 c4 c5 c6 c7 c8 c9 hlen hlen' hrd hrd'
  show Calls Try.prog 24 #[.pointer (some ⟨q, o, none⟩), .agg #[.int .i64 kind, .int .i64 conn, .int .i64 side, .int .u32 sess, .int .u32 number, .bool on, .int .i64 code, .slice a' data.length cap'], .int .u32 session] w _
  have K0 := (Fr.refl No w).alloc (.cells #[.int .i64 kind, .int .i64 conn, .int .i64 side, .int .u32 sess, .int .u32 number, .bool on, .int .i64 code, .slice a' data.length cap'] 43)
  have EQ : ∀ b, decide (value = data) = b → ∀ n, Calls Try.prog 29 #[.slice a value.length cap, .slice a' data.length cap'] ((w.alloc (.cells #[.int .i64 kind, .int .i64 conn, .int .i64 side, .int .u32 sess, .int .u32 number, .bool on, .int .i64 code, .slice a' data.length cap'] 43)).drewN n) fun e w' => e = .returned (.bool b) ∧ ∃ m, w' = ((w.alloc (.cells #[.int .i64 kind, .int .i64 conn, .int .i64 side, .int .u32 sess, .int .u32 number, .bool on, .int .i64 code, .slice a' data.length cap'] 43)).drewN n).drewN m :=
    fun b hb n => hb ▸ equal_any O O' a a' cap cap' value data _ (hrd.keep (K0.drewN n) (fun _ _ => id)) (hrd'.keep (K0.drewN n) (fun _ _ => id)) hlen
  have CT : ∀ b, (data.any fun b => b != 0) = b → ∀ W, Fr No w W → Calls Try.prog 30 #[.slice a' data.length cap', .func (.func 31) #[] #[]] W fun e w' => e = .returned (.bool b) ∧ w' = W :=
    fun b hb W hW => contains_any O' a' cap' data b W (hrd'.keep hW (fun _ _ => id)) hlen' hb
  have HEQ : Hid _ := EQ
  have HCT : Hid _ := CT
  have HR := Lib.hid hr
  have HK : Hid _ := K0
  have HLEN : Hid (hlen = hlen) := rfl
  clear EQ CT hr K0 hrd hrd' hlen hlen' hb hE hfree HLEN
  cases on with
  | true =>
    by_cases hvd : value = data
    · have hdd : decide (value = data) = true := by simpa using hvd
      have EQ := HEQ.out true hdd
      have hEQ : Hid _ := EQ
      have Hvd : Hid (value = data) := hvd
      clear EQ hdd hvd
      by_cases hl0 : value = []
      · have Hl0 : Hid (value = []) := hl0
        have hln : ((value.length : Int) == 0) = true := by simpa using hl0
        clear hl0
        go_enter Try.func24, Try.ntmps24
        go_wp2
        go_quiet ((go_at_call 29; exact Calls.quiet_of (hEQ.out _)))
        generalize nq = n0
        have HRU : Hid (EndP.outRule ⟨watch, xs, xn, took, value, inn, since, latched, fresh, acked⟩ ⟨kind, conn, side, sess, number, true, code, data⟩ session = 4) := by show _ = _; simp [EndP.outRule, Hl0.out]
        go_wp2
        go_ret
        rw [HRU.out]
        try simp only [World.drewN_drewN]
        exact ⟨rfl, fun h => absurd h (by decide), fun _ => HR.out.fr (HK.out.drewN _)⟩
      · have Hl0 : Hid (¬ (value = [])) := hl0
        have hln : ((value.length : Int) == 0) = false := by simpa using hl0
        clear hl0
        by_cases hs : side = 2
        · subst hs
          by_cases hin : inn = session
          · subst hin
            have HNV : Hid (¬ (data = [])) := by have h1 := Hl0.out; have h2 := Hvd.out; intro h; exact h1 (h2.trans h)
            go_enter Try.func24, Try.ntmps24
            go_wp2
            go_quiet ((go_at_call 29; exact Calls.quiet_of (hEQ.out _)))
            generalize nq = n0
            go_wp2
            by_cases cz : code = 0
            · subst cz
              by_cases lt : watch ≤ since
              · have Hlt : Hid (watch ≤ since) := lt
                have lt_0 : decide (watch ≤ since) = true := by simpa using lt
                clear lt
                go_quiet (fail)
                generalize nq = n1
                have HRU : Hid (EndP.outRule ⟨watch, xs, xn, took, value, inn, since, latched, fresh, acked⟩ ⟨kind, conn, 2, sess, number, true, 0, data⟩ inn = 6) := by show _ = _; simp [EndP.outRule, Hvd.out, HNV.out, Hlt.out]
                go_wp2
                go_ret
                rw [HRU.out]
                try simp only [World.drewN_drewN]
                exact ⟨rfl, fun h => absurd h (by decide), fun _ => HR.out.fr (HK.out.drewN _)⟩
              · have Hlt : Hid (since < watch) := Int.not_le.1 lt
                have lt_0 : decide (watch ≤ since) = false := by simpa using lt
                clear lt
                go_quiet (fail)
                generalize nq = n1
                go_wp2
                go_quiet (fail)
                generalize nq = n2
                by_cases lz : latched = 0
                · subst lz
                  go_wp2
                  have HRU : Hid (EndP.outRule ⟨watch, xs, xn, took, value, inn, since, 0, fresh, acked⟩ ⟨kind, conn, 2, sess, number, true, 0, data⟩ inn = 0) := by show _ = _; simp [EndP.outRule, Hvd.out, HNV.out, Int.not_le.2 Hlt.out]
                  go_quiet (fail)
                  generalize nq = n3
                  go_wp2
                  go_ret
                  rw [HRU.out]
                  try simp only [World.drewN_drewN]
                  have HTO : Hid (EndP.outTo ⟨watch, xs, xn, took, value, inn, since, 0, fresh, acked⟩ ⟨kind, conn, 2, sess, number, true, 0, data⟩ = ⟨watch, xs, xn, took, value, inn, since, 0, fresh, false⟩) := by show _ = _; simp [EndP.outTo]
                  rw [HTO.out]
                  exact ⟨rfl, fun _ => (((HR.out.fr (HK.out.drewN _)).set (x' := ⟨watch, xs, xn, took, value, inn, since, 0, fresh, acked⟩) 7 _ (by omega) rfl).set (x' := ⟨watch, xs, xn, took, value, inn, since, 0, fresh, false⟩) 9 _ (by omega) rfl), fun h => absurd rfl h⟩
                · have Hlz : Hid (¬ (latched = 0)) := lz
                  have lz_0 : (latched == 0) = false := by simpa using lz
                  have lz_1 : (latched != 0) = true := by simpa using lz
                  clear lz
                  cases acked with
                  | false =>
                    have HRU : Hid (EndP.outRule ⟨watch, xs, xn, took, value, inn, since, latched, fresh, false⟩ ⟨kind, conn, 2, sess, number, true, 0, data⟩ inn = 8) := by show _ = _; simp [EndP.outRule, Hvd.out, HNV.out, Int.not_le.2 Hlt.out, Hlz.out]
                    go_wp2
                    go_ret
                    rw [HRU.out]
                    try simp only [World.drewN_drewN]
                    exact ⟨rfl, fun h => absurd h (by decide), fun _ => HR.out.fr (HK.out.drewN _)⟩
                  | true =>
                    go_wp2
                    have HRU : Hid (EndP.outRule ⟨watch, xs, xn, took, value, inn, since, latched, fresh, true⟩ ⟨kind, conn, 2, sess, number, true, 0, data⟩ inn = 0) := by show _ = _; simp [EndP.outRule, Hvd.out, HNV.out, Int.not_le.2 Hlt.out, Hlz.out]
                    have Hcl : Hid (¬ (0 = latched)) := fun h => Hlz.out h.symm
                    have cl_0 : ((0 : Int) == latched) = false := by simp; have := Hlz.out; omega
                    have cl_1 : ((0 : Int) != latched) = true := by simp; have := Hlz.out; omega
                    go_quiet (fail)
                    generalize nq = n3
                    go_wp2
                    go_ret
                    rw [HRU.out]
                    try simp only [World.drewN_drewN]
                    have HTO : Hid (EndP.outTo ⟨watch, xs, xn, took, value, inn, since, latched, fresh, true⟩ ⟨kind, conn, 2, sess, number, true, 0, data⟩ = ⟨watch, xs, xn, took, value, inn, since, 0, false, false⟩) := by show _ = _; simp [EndP.outTo, Hcl.out]
                    rw [HTO.out]
                    exact ⟨rfl, fun _ => ((((HR.out.fr (HK.out.drewN _)).set (x' := ⟨watch, xs, xn, took, value, inn, since, latched, false, true⟩) 8 _ (by omega) rfl).set (x' := ⟨watch, xs, xn, took, value, inn, since, 0, false, true⟩) 7 _ (by omega) rfl).set (x' := ⟨watch, xs, xn, took, value, inn, since, 0, false, false⟩) 9 _ (by omega) rfl), fun h => absurd rfl h⟩
            · have Hcz : Hid (¬ (code = 0)) := cz
              have cz_0 : (code == 0) = false := by simpa using cz
              have cz_1 : (code != 0) = true := by simpa using cz
              clear cz
              go_quiet (fail)
              generalize nq = n1
              have HRU : Hid (EndP.outRule ⟨watch, xs, xn, took, value, inn, since, latched, fresh, acked⟩ ⟨kind, conn, 2, sess, number, true, code, data⟩ inn = 6) := by show _ = _; simp [EndP.outRule, Hvd.out, HNV.out, Hcz.out]
              go_wp2
              go_ret
              rw [HRU.out]
              try simp only [World.drewN_drewN]
              exact ⟨rfl, fun h => absurd h (by decide), fun _ => HR.out.fr (HK.out.drewN _)⟩
          · have Hin : Hid (¬ (inn = session)) := hin
            have hin_0 : (inn == session) = false := by simpa using hin
            clear hin
            go_enter Try.func24, Try.ntmps24
            go_wp2
            go_quiet ((go_at_call 29; exact Calls.quiet_of (hEQ.out _)))
            generalize nq = n0
            have HRU : Hid (EndP.outRule ⟨watch, xs, xn, took, value, inn, since, latched, fresh, acked⟩ ⟨kind, conn, 2, sess, number, true, code, data⟩ session = 4) := by show _ = _; simp [EndP.outRule, Hin.out]
            go_wp2
            go_ret
            rw [HRU.out]
            try simp only [World.drewN_drewN]
            exact ⟨rfl, fun h => absurd h (by decide), fun _ => HR.out.fr (HK.out.drewN _)⟩
        · have Hs : Hid (¬ (side = 2)) := hs
          have hs_0 : (side == 2) = false := by simpa using hs
          clear hs
          have HNV : Hid (¬ (data = [])) := by have h1 := Hl0.out; have h2 := Hvd.out; intro h; exact h1 (h2.trans h)
          go_enter Try.func24, Try.ntmps24
          go_wp2
          go_quiet ((go_at_call 29; exact Calls.quiet_of (hEQ.out _)))
          generalize nq = n0
          go_wp2
          by_cases cz : code = 0
          · subst cz
            by_cases lt : watch ≤ since
            · have Hlt : Hid (watch ≤ since) := lt
              have lt_0 : decide (watch ≤ since) = true := by simpa using lt
              clear lt
              go_quiet (fail)
              generalize nq = n1
              have HRU : Hid (EndP.outRule ⟨watch, xs, xn, took, value, inn, since, latched, fresh, acked⟩ ⟨kind, conn, side, sess, number, true, 0, data⟩ session = 6) := by show _ = _; simp [EndP.outRule, Hs.out, Hvd.out, HNV.out, Hlt.out]
              go_wp2
              go_ret
              rw [HRU.out]
              try simp only [World.drewN_drewN]
              exact ⟨rfl, fun h => absurd h (by decide), fun _ => HR.out.fr (HK.out.drewN _)⟩
            · have Hlt : Hid (since < watch) := Int.not_le.1 lt
              have lt_0 : decide (watch ≤ since) = false := by simpa using lt
              clear lt
              go_quiet (fail)
              generalize nq = n1
              go_wp2
              go_quiet (fail)
              generalize nq = n2
              by_cases lz : latched = 0
              · subst lz
                go_wp2
                have HRU : Hid (EndP.outRule ⟨watch, xs, xn, took, value, inn, since, 0, fresh, acked⟩ ⟨kind, conn, side, sess, number, true, 0, data⟩ session = 0) := by show _ = _; simp [EndP.outRule, Hs.out, Hvd.out, HNV.out, Int.not_le.2 Hlt.out]
                go_quiet (fail)
                generalize nq = n3
                go_wp2
                go_ret
                rw [HRU.out]
                try simp only [World.drewN_drewN]
                have HTO : Hid (EndP.outTo ⟨watch, xs, xn, took, value, inn, since, 0, fresh, acked⟩ ⟨kind, conn, side, sess, number, true, 0, data⟩ = ⟨watch, xs, xn, took, value, inn, since, 0, fresh, false⟩) := by show _ = _; simp [EndP.outTo]
                rw [HTO.out]
                exact ⟨rfl, fun _ => (((HR.out.fr (HK.out.drewN _)).set (x' := ⟨watch, xs, xn, took, value, inn, since, 0, fresh, acked⟩) 7 _ (by omega) rfl).set (x' := ⟨watch, xs, xn, took, value, inn, since, 0, fresh, false⟩) 9 _ (by omega) rfl), fun h => absurd rfl h⟩
              · have Hlz : Hid (¬ (latched = 0)) := lz
                have lz_0 : (latched == 0) = false := by simpa using lz
                have lz_1 : (latched != 0) = true := by simpa using lz
                clear lz
                cases acked with
                | false =>
                  have HRU : Hid (EndP.outRule ⟨watch, xs, xn, took, value, inn, since, latched, fresh, false⟩ ⟨kind, conn, side, sess, number, true, 0, data⟩ session = 8) := by show _ = _; simp [EndP.outRule, Hs.out, Hvd.out, HNV.out, Int.not_le.2 Hlt.out, Hlz.out]
                  go_wp2
                  go_ret
                  rw [HRU.out]
                  try simp only [World.drewN_drewN]
                  exact ⟨rfl, fun h => absurd h (by decide), fun _ => HR.out.fr (HK.out.drewN _)⟩
                | true =>
                  go_wp2
                  have HRU : Hid (EndP.outRule ⟨watch, xs, xn, took, value, inn, since, latched, fresh, true⟩ ⟨kind, conn, side, sess, number, true, 0, data⟩ session = 0) := by show _ = _; simp [EndP.outRule, Hs.out, Hvd.out, HNV.out, Int.not_le.2 Hlt.out, Hlz.out]
                  have Hcl : Hid (¬ (0 = latched)) := fun h => Hlz.out h.symm
                  have cl_0 : ((0 : Int) == latched) = false := by simp; have := Hlz.out; omega
                  have cl_1 : ((0 : Int) != latched) = true := by simp; have := Hlz.out; omega
                  go_quiet (fail)
                  generalize nq = n3
                  go_wp2
                  go_ret
                  rw [HRU.out]
                  try simp only [World.drewN_drewN]
                  have HTO : Hid (EndP.outTo ⟨watch, xs, xn, took, value, inn, since, latched, fresh, true⟩ ⟨kind, conn, side, sess, number, true, 0, data⟩ = ⟨watch, xs, xn, took, value, inn, since, 0, false, false⟩) := by show _ = _; simp [EndP.outTo, Hcl.out]
                  rw [HTO.out]
                  exact ⟨rfl, fun _ => ((((HR.out.fr (HK.out.drewN _)).set (x' := ⟨watch, xs, xn, took, value, inn, since, latched, false, true⟩) 8 _ (by omega) rfl).set (x' := ⟨watch, xs, xn, took, value, inn, since, 0, false, true⟩) 7 _ (by omega) rfl).set (x' := ⟨watch, xs, xn, took, value, inn, since, 0, false, false⟩) 9 _ (by omega) rfl), fun h => absurd rfl h⟩
          · have Hcz : Hid (¬ (code = 0)) := cz
            have cz_0 : (code == 0) = false := by simpa using cz
            have cz_1 : (code != 0) = true := by simpa using cz
            clear cz
            go_quiet (fail)
            generalize nq = n1
            have HRU : Hid (EndP.outRule ⟨watch, xs, xn, took, value, inn, since, latched, fresh, acked⟩ ⟨kind, conn, side, sess, number, true, code, data⟩ session = 6) := by show _ = _; simp [EndP.outRule, Hs.out, Hvd.out, HNV.out, Hcz.out]
            go_wp2
            go_ret
            rw [HRU.out]
            try simp only [World.drewN_drewN]
            exact ⟨rfl, fun h => absurd h (by decide), fun _ => HR.out.fr (HK.out.drewN _)⟩
    · have hdd : decide (value = data) = false := by simpa using hvd
      have EQ := HEQ.out false hdd
      have hEQ : Hid _ := EQ
      have Hvd : Hid (¬ (value = data)) := hvd
      clear EQ hdd hvd
      go_enter Try.func24, Try.ntmps24
      go_wp2
      go_quiet ((go_at_call 29; exact Calls.quiet_of (hEQ.out _)))
      generalize nq = n0
      have HRU : Hid (EndP.outRule ⟨watch, xs, xn, took, value, inn, since, latched, fresh, acked⟩ ⟨kind, conn, side, sess, number, true, code, data⟩ session = 4) := by show _ = _; simp [EndP.outRule, Hvd.out]
      go_wp2
      go_ret
      rw [HRU.out]
      try simp only [World.drewN_drewN]
      exact ⟨rfl, fun h => absurd h (by decide), fun _ => HR.out.fr (HK.out.drewN _)⟩
  | false =>
    by_cases han : (data.any fun b => b != 0) = true
    · have Han : Hid ((data.any fun b => b != 0) = true) := han
      clear han
      have CT := HCT.out true Han.out
      have hCT : Hid _ := CT
      clear CT
      go_enter Try.func24, Try.ntmps24
      go_wp2
      go_quiet (fail)
      generalize nq = n0
      go_wp2_with (go_at_call 30; refine (hCT.out _ (HK.out.drewN _)).mono ?_; rintro e w' ⟨rfl, rfl⟩)
      have HRU : Hid (EndP.outRule ⟨watch, xs, xn, took, value, inn, since, latched, fresh, acked⟩ ⟨kind, conn, side, sess, number, false, code, data⟩ session = 5) := by show _ = _; simp [EndP.outRule, Han.out]
      go_ret
      rw [HRU.out]
      try simp only [World.drewN_drewN]
      exact ⟨rfl, fun h => absurd h (by decide), fun _ => HR.out.fr (HK.out.drewN _)⟩
    · have Han : Hid ((data.any fun b => b != 0) = false) := by show _ = _; simpa using han
      clear han
      have CT := HCT.out false Han.out
      have hCT : Hid _ := CT
      clear CT
      go_enter Try.func24, Try.ntmps24
      go_wp2
      go_quiet (fail)
      generalize nq = n0
      go_wp2_with (go_at_call 30; refine (hCT.out _ (HK.out.drewN _)).mono ?_; rintro e w' ⟨rfl, rfl⟩)
      go_quiet (fail)
      generalize nq = n1
      go_wp2
      by_cases cz : code = 0
      · subst cz
        by_cases lt : watch ≤ since
        · have Hlt : Hid (watch ≤ since) := lt
          have lt_0 : decide (watch ≤ since) = true := by simpa using lt
          clear lt
          go_quiet (fail)
          generalize nq = n2
          have HRU : Hid (EndP.outRule ⟨watch, xs, xn, took, value, inn, since, latched, fresh, acked⟩ ⟨kind, conn, side, sess, number, false, 0, data⟩ session = 7) := by show _ = _; simp [EndP.outRule, Han.out, Hlt.out]
          go_wp2
          go_ret
          rw [HRU.out]
          try simp only [World.drewN_drewN]
          exact ⟨rfl, fun h => absurd h (by decide), fun _ => HR.out.fr (HK.out.drewN _)⟩
        · have Hlt : Hid (since < watch) := Int.not_le.1 lt
          have lt_0 : decide (watch ≤ since) = false := by simpa using lt
          clear lt
          go_quiet (fail)
          generalize nq = n2
          by_cases lz : latched = 0
          · subst lz
            go_wp2
            have HRU : Hid (EndP.outRule ⟨watch, xs, xn, took, value, inn, since, 0, fresh, acked⟩ ⟨kind, conn, side, sess, number, false, 0, data⟩ session = 0) := by show _ = _; simp [EndP.outRule, Han.out, Int.not_le.2 Hlt.out]
            go_quiet (fail)
            generalize nq = n3
            go_wp2
            go_ret
            rw [HRU.out]
            try simp only [World.drewN_drewN]
            have HTO : Hid (EndP.outTo ⟨watch, xs, xn, took, value, inn, since, 0, fresh, acked⟩ ⟨kind, conn, side, sess, number, false, 0, data⟩ = ⟨watch, xs, xn, took, value, inn, since, 0, fresh, false⟩) := by show _ = _; simp [EndP.outTo]
            rw [HTO.out]
            exact ⟨rfl, fun _ => (((HR.out.fr (HK.out.drewN _)).set (x' := ⟨watch, xs, xn, took, value, inn, since, 0, fresh, acked⟩) 7 _ (by omega) rfl).set (x' := ⟨watch, xs, xn, took, value, inn, since, 0, fresh, false⟩) 9 _ (by omega) rfl), fun h => absurd rfl h⟩
          · have Hlz : Hid (¬ (latched = 0)) := lz
            have lz_0 : (latched == 0) = false := by simpa using lz
            have lz_1 : (latched != 0) = true := by simpa using lz
            clear lz
            cases acked with
            | false =>
              have HRU : Hid (EndP.outRule ⟨watch, xs, xn, took, value, inn, since, latched, fresh, false⟩ ⟨kind, conn, side, sess, number, false, 0, data⟩ session = 8) := by show _ = _; simp [EndP.outRule, Han.out, Int.not_le.2 Hlt.out, Hlz.out]
              go_wp2
              go_ret
              rw [HRU.out]
              try simp only [World.drewN_drewN]
              exact ⟨rfl, fun h => absurd h (by decide), fun _ => HR.out.fr (HK.out.drewN _)⟩
            | true =>
              go_wp2
              have HRU : Hid (EndP.outRule ⟨watch, xs, xn, took, value, inn, since, latched, fresh, true⟩ ⟨kind, conn, side, sess, number, false, 0, data⟩ session = 0) := by show _ = _; simp [EndP.outRule, Han.out, Int.not_le.2 Hlt.out, Hlz.out]
              have Hcl : Hid (¬ (0 = latched)) := fun h => Hlz.out h.symm
              have cl_0 : ((0 : Int) == latched) = false := by simp; have := Hlz.out; omega
              have cl_1 : ((0 : Int) != latched) = true := by simp; have := Hlz.out; omega
              go_quiet (fail)
              generalize nq = n3
              go_wp2
              go_ret
              rw [HRU.out]
              try simp only [World.drewN_drewN]
              have HTO : Hid (EndP.outTo ⟨watch, xs, xn, took, value, inn, since, latched, fresh, true⟩ ⟨kind, conn, side, sess, number, false, 0, data⟩ = ⟨watch, xs, xn, took, value, inn, since, 0, false, false⟩) := by show _ = _; simp [EndP.outTo, Hcl.out]
              rw [HTO.out]
              exact ⟨rfl, fun _ => ((((HR.out.fr (HK.out.drewN _)).set (x' := ⟨watch, xs, xn, took, value, inn, since, latched, false, true⟩) 8 _ (by omega) rfl).set (x' := ⟨watch, xs, xn, took, value, inn, since, 0, false, true⟩) 7 _ (by omega) rfl).set (x' := ⟨watch, xs, xn, took, value, inn, since, 0, false, false⟩) 9 _ (by omega) rfl), fun h => absurd rfl h⟩
      · have Hcz : Hid (¬ (code = 0)) := cz
        have cz_0 : (code == 0) = false := by simpa using cz
        have cz_1 : (code != 0) = true := by simpa using cz
        clear cz
        by_cases lt : watch ≤ since
        · have Hlt : Hid (watch ≤ since) := lt
          have lt_0 : decide (watch ≤ since) = true := by simpa using lt
          clear lt
          go_quiet (fail)
          generalize nq = n2
          by_cases lz : latched = 0
          · subst lz
            go_wp2
            have Hcl : Hid (¬ (code = 0)) := Hcz.out
            have HRU : Hid (EndP.outRule ⟨watch, xs, xn, took, value, inn, since, 0, fresh, acked⟩ ⟨kind, conn, side, sess, number, false, code, data⟩ session = 0) := by show _ = _; simp [EndP.outRule, Han.out, Hcz.out, Hlt.out]
            go_quiet (fail)
            generalize nq = n3
            go_wp2
            go_ret
            rw [HRU.out]
            try simp only [World.drewN_drewN]
            have HTO : Hid (EndP.outTo ⟨watch, xs, xn, took, value, inn, since, 0, fresh, acked⟩ ⟨kind, conn, side, sess, number, false, code, data⟩ = ⟨watch, xs, xn, took, value, inn, since, code, false, false⟩) := by show _ = _; simp [EndP.outTo, Hcl.out]
            rw [HTO.out]
            exact ⟨rfl, fun _ => ((((HR.out.fr (HK.out.drewN _)).set (x' := ⟨watch, xs, xn, took, value, inn, since, 0, false, acked⟩) 8 _ (by omega) rfl).set (x' := ⟨watch, xs, xn, took, value, inn, since, code, false, acked⟩) 7 _ (by omega) rfl).set (x' := ⟨watch, xs, xn, took, value, inn, since, code, false, false⟩) 9 _ (by omega) rfl), fun h => absurd rfl h⟩
          · have Hlz : Hid (¬ (latched = 0)) := lz
            have lz_0 : (latched == 0) = false := by simpa using lz
            have lz_1 : (latched != 0) = true := by simpa using lz
            clear lz
            go_wp2
            have HRU : Hid (EndP.outRule ⟨watch, xs, xn, took, value, inn, since, latched, fresh, acked⟩ ⟨kind, conn, side, sess, number, false, code, data⟩ session = 0) := by show _ = _; simp [EndP.outRule, Han.out, Hcz.out, Hlt.out, Hlz.out]
            by_cases cl : code = latched
            · subst cl
              go_quiet (fail)
              generalize nq = n3
              go_wp2
              go_ret
              rw [HRU.out]
              try simp only [World.drewN_drewN]
              have HTO : Hid (EndP.outTo ⟨watch, xs, xn, took, value, inn, since, code, fresh, acked⟩ ⟨kind, conn, side, sess, number, false, code, data⟩ = ⟨watch, xs, xn, took, value, inn, since, code, fresh, false⟩) := by show _ = _; simp [EndP.outTo]
              rw [HTO.out]
              exact ⟨rfl, fun _ => (((HR.out.fr (HK.out.drewN _)).set (x' := ⟨watch, xs, xn, took, value, inn, since, code, fresh, acked⟩) 7 _ (by omega) rfl).set (x' := ⟨watch, xs, xn, took, value, inn, since, code, fresh, false⟩) 9 _ (by omega) rfl), fun h => absurd rfl h⟩
            · have Hcl : Hid (¬ (code = latched)) := cl
              have cl_0 : (code == latched) = false := by simpa using cl
              have cl_1 : (code != latched) = true := by simpa using cl
              clear cl
              go_quiet (fail)
              generalize nq = n3
              go_wp2
              go_ret
              rw [HRU.out]
              try simp only [World.drewN_drewN]
              have HTO : Hid (EndP.outTo ⟨watch, xs, xn, took, value, inn, since, latched, fresh, acked⟩ ⟨kind, conn, side, sess, number, false, code, data⟩ = ⟨watch, xs, xn, took, value, inn, since, code, false, false⟩) := by show _ = _; simp [EndP.outTo, Hcl.out]
              rw [HTO.out]
              exact ⟨rfl, fun _ => ((((HR.out.fr (HK.out.drewN _)).set (x' := ⟨watch, xs, xn, took, value, inn, since, latched, false, acked⟩) 8 _ (by omega) rfl).set (x' := ⟨watch, xs, xn, took, value, inn, since, code, false, acked⟩) 7 _ (by omega) rfl).set (x' := ⟨watch, xs, xn, took, value, inn, since, code, false, false⟩) 9 _ (by omega) rfl), fun h => absurd rfl h⟩
        · have Hlt : Hid (since < watch) := Int.not_le.1 lt
          have lt_0 : decide (watch ≤ since) = false := by simpa using lt
          clear lt
          go_quiet (fail)
          generalize nq = n2
          by_cases lz : latched = 0
          · subst lz
            go_wp2
            have Hcl : Hid (¬ (code = 0)) := Hcz.out
            have HRU : Hid (EndP.outRule ⟨watch, xs, xn, took, value, inn, since, 0, fresh, acked⟩ ⟨kind, conn, side, sess, number, false, code, data⟩ session = 0) := by show _ = _; simp [EndP.outRule, Han.out, Hcz.out, Int.not_le.2 Hlt.out]
            go_quiet (fail)
            generalize nq = n3
            go_wp2
            go_ret
            rw [HRU.out]
            try simp only [World.drewN_drewN]
            have HTO : Hid (EndP.outTo ⟨watch, xs, xn, took, value, inn, since, 0, fresh, acked⟩ ⟨kind, conn, side, sess, number, false, code, data⟩ = ⟨watch, xs, xn, took, value, inn, since, code, false, false⟩) := by show _ = _; simp [EndP.outTo, Hcl.out]
            rw [HTO.out]
            exact ⟨rfl, fun _ => ((((HR.out.fr (HK.out.drewN _)).set (x' := ⟨watch, xs, xn, took, value, inn, since, 0, false, acked⟩) 8 _ (by omega) rfl).set (x' := ⟨watch, xs, xn, took, value, inn, since, code, false, acked⟩) 7 _ (by omega) rfl).set (x' := ⟨watch, xs, xn, took, value, inn, since, code, false, false⟩) 9 _ (by omega) rfl), fun h => absurd rfl h⟩
          · have Hlz : Hid (¬ (latched = 0)) := lz
            have lz_0 : (latched == 0) = false := by simpa using lz
            have lz_1 : (latched != 0) = true := by simpa using lz
            clear lz
            go_wp2
            have HRU : Hid (EndP.outRule ⟨watch, xs, xn, took, value, inn, since, latched, fresh, acked⟩ ⟨kind, conn, side, sess, number, false, code, data⟩ session = 0) := by show _ = _; simp [EndP.outRule, Han.out, Hcz.out, Int.not_le.2 Hlt.out, Hlz.out]
            by_cases cl : code = latched
            · subst cl
              go_quiet (fail)
              generalize nq = n3
              go_wp2
              go_ret
              rw [HRU.out]
              try simp only [World.drewN_drewN]
              have HTO : Hid (EndP.outTo ⟨watch, xs, xn, took, value, inn, since, code, fresh, acked⟩ ⟨kind, conn, side, sess, number, false, code, data⟩ = ⟨watch, xs, xn, took, value, inn, since, code, fresh, false⟩) := by show _ = _; simp [EndP.outTo]
              rw [HTO.out]
              exact ⟨rfl, fun _ => (((HR.out.fr (HK.out.drewN _)).set (x' := ⟨watch, xs, xn, took, value, inn, since, code, fresh, acked⟩) 7 _ (by omega) rfl).set (x' := ⟨watch, xs, xn, took, value, inn, since, code, fresh, false⟩) 9 _ (by omega) rfl), fun h => absurd rfl h⟩
            · have Hcl : Hid (¬ (code = latched)) := cl
              have cl_0 : (code == latched) = false := by simpa using cl
              have cl_1 : (code != latched) = true := by simpa using cl
              clear cl
              go_quiet (fail)
              generalize nq = n3
              go_wp2
              go_ret
              rw [HRU.out]
              try simp only [World.drewN_drewN]
              have HTO : Hid (EndP.outTo ⟨watch, xs, xn, took, value, inn, since, latched, fresh, acked⟩ ⟨kind, conn, side, sess, number, false, code, data⟩ = ⟨watch, xs, xn, took, value, inn, since, code, false, false⟩) := by show _ = _; simp [EndP.outTo, Hcl.out]
              rw [HTO.out]
              exact ⟨rfl, fun _ => ((((HR.out.fr (HK.out.drewN _)).set (x' := ⟨watch, xs, xn, took, value, inn, since, latched, false, acked⟩) 8 _ (by omega) rfl).set (x' := ⟨watch, xs, xn, took, value, inn, since, code, false, acked⟩) 7 _ (by omega) rfl).set (x' := ⟨watch, xs, xn, took, value, inn, since, code, false, false⟩) 9 _ (by omega) rfl), fun h => absurd rfl h⟩
end Go.Proofs.Ytmggfdhlbjlpjaa
