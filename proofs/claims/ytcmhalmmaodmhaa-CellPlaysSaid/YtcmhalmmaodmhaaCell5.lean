/-
  DERIVED. The walk of package cell: Next where a number is left.
-/
import Derived.Test.YtcmhalmmaodmhaaCell4
import Derived.Test.YtcmhalmmaodmhaaCuts
namespace Go.Proofs.Ytcmhalmmaodmhaa
open Go.RowKit
set_option linter.unusedSimpArgs false
set_option linter.unusedVariables false

/-- What Next answers, where a number is left and the power is on. -/
def Nexted (w' : World) (c p : Nat) (s : MS) (mx v : Int) (e : Ending) : Prop :=
  ((nextR s v).2 = 0 ∧ e = .returned (.tuple #[.int .u32 (v + 1), .int .i64 0]) ∧ IsCell w' c p mx (v + 1) false) ∨
  ((nextR s v).2 ≠ 0 ∧ e = .returned (.tuple #[.int .u32 0, .int .i64 70]) ∧ IsCell w' c p mx v true)

theorem IsCell.unlike {w : World} {c p q r : Nat} {mx v : Int} {dead : Bool} {s : MS} (h : IsCell w c p mx v dead) (k : IsMem w q r s) : c ≠ q :=
  let ⟨_, _, hb, _⟩ := k; Blk.unlike h hb (by decide)

theorem IsCell.kept {w w1 : World} {n c p : Nat} {mx v : Int} {dead : Bool} (h : IsCell w c p mx v dead) (k : Chg [] (w.drewN n) w1) : IsCell w1.drew c p mx v dead :=
  Blk.drew (Chg.blk (w := w.drewN n) k h (by simp))
theorem IsMem.kept {w w1 : World} {n p q : Nat} {s : MS} (h : IsMem w p q s) (k : Chg [] (w.drewN n) w1) : IsMem w1.drew p q s :=
  IsMem.keep h (((Chg.refl [] w).drewN n).trans k).drew (by simp) (by simp)
theorem Chg.kept {w w1 : World} {n : Nat} (bs : List Nat) (k : Chg [] (w.drewN n) w1) : Chg bs w w1.drew :=
  ((((Chg.refl [] w).drewN n).trans k).drew).wide (by simp)

set_option maxRecDepth 1000000 in
set_option maxHeartbeats 1000000 in
theorem next_some (c p q : Nat) (s : MS) (mx v : Int) (w : World) (hc : IsCell w c p mx v false) (hmem : IsMem w p q s) (hcq : c ≠ q) (ho : s.off = false) (hv : v < mx) (hv0 : 0 ≤ v) (hmx : mx ≤ 4294967295)
    (hlen2 : 10 ≤ s.B.length) (hok : s.Ok 100000) (hb : s.Bytes) :
    Calls Try.prog 31 #[.pointer (some ⟨c, 0, none⟩)] w fun e w' => Nexted w' c p s mx v e ∧ IsMem w' p q (nextR s v).1 ∧ Chg [p, q, c] w w' := by
  have c0 := hc.c0
  have c1 := hc.c1
  have c2 := hc.c2
  have c3 := hc.c3
  have hcp := hc.unlike hmem
  have hlc := hc.lt
  have hlen := hok.len
  have hd : decide (mx ≤ v) = false := by simp; omega
  have hsp : ∀ w, IsCell w c p mx v false → IsMem w p q s → Calls Try.prog 44 #[.pointer (some ⟨c, 0, none⟩)] w fun e w' => e = .returned (.tuple #[.int .i64 (spareP s), .int .i64 0]) ∧ Chg [] w w' :=
    fun w h1 h2 => spare_any c p q s mx v false w h1 h2 hlen hlen2 ho hb
  have HSP : Hid _ := hsp
  clear hsp
  unfold Nexted
  have hN : nextR s v = wr6 s (spareP s).toNat (v + 1) := rfl
  have hwv : IntKind.u32.wrap (v + 1) = v + 1 := IntWalk.u32_in _ (by omega)
  have hbv : 0 ≤ v + 1 ∧ v + 1 ≤ 4294967295 := by omega
  rcases spareP_or s with hk | hk
  · rw [hk] at hN
    rw [hk] at HSP
    rw [show (0 : Int).toNat = 0 from rfl] at hN
    obtain ⟨r, hr⟩ : ∃ r, r = nextR s v := ⟨_, rfl⟩
    rw [← hr]
    rw [← hr] at hN
    have Q : Hid _ := hN
    clear hr hN hk
    go_enter Try.func31, Try.ntmps31
    go_wp2_with (go_at_call 20; refine (off_any p q s _ hmem).mono ?_; rintro e w' ⟨rfl, rfl⟩)
    go_quiet (fail)
    go_wp2_with (go_at_call 44; go_must (refine (HSP.out _ ?_ ?_).mono ?_; exact hc; exact hmem; rintro e w1 ⟨rfl, k1⟩; have hcD := IsCell.kept hc k1; have hmD := IsMem.kept hmem k1; have hgD := Chg.kept [p, q, c] k1))
    have d0 := hcD.c0
    have d2 := hcD.c2
    have d3 := hcD.c3
    clear c0 c1 c2 c3 hc hmem k1
    go_region_held (fun W => W.cell? ⟨c, 0, none⟩ = some (.pointer (some ⟨p, 0, none⟩)) ∧ W.cell? ⟨c, 2, none⟩ = some (.int .u32 v)) (first | (exact ⟨d0, d2⟩) | (exact ⟨x0, x2⟩)) ((first | (go_at_call 45; refine (cwrite_any p q 0 s (v + 1) _ hmD (by omega) hok hbv).mono ?_; rintro e w2 ⟨he, hm2, kk⟩; rw [← Q.out] at he hm2; subst he; have hc2 : IsCell w2 c p mx v false := kk.blk hcD (by simp; omega); have x0 := hc2.c0; have x2 := hc2.c2; have hg2 := hgD.more kk (by simp))))
    have x1 := hc2.c1
    have x3 := hc2.c3
    have y2 : w2.frozen? ⟨c, 2, none⟩ = false := Blk.free hc2 2
    have y3 : w2.frozen? ⟨c, 3, none⟩ = false := Blk.free hc2 3
    go_wp2
    · have hx : (r.2 != 0) = true := by assumption
      go_ret2
      exact ⟨.inr ⟨by simpa using hx, rfl, Blk.set' hc2 3 _ rfl⟩, hm2.other _ _ (by simp; omega) (by simp; omega), hg2.setCell (by simp) _⟩
    · have hx : (r.2 != 0) = false := by assumption
      go_ret2
      exact ⟨.inl ⟨by simpa using hx, rfl, Blk.set' hc2 2 _ rfl⟩, hm2.other _ _ (by simp; omega) (by simp; omega), hg2.setCell (by simp) _⟩
  · rw [hk] at hN
    rw [hk] at HSP
    rw [show (1 : Int).toNat = 1 from rfl] at hN
    obtain ⟨r, hr⟩ : ∃ r, r = nextR s v := ⟨_, rfl⟩
    rw [← hr]
    rw [← hr] at hN
    have Q : Hid _ := hN
    clear hr hN hk
    go_enter Try.func31, Try.ntmps31
    go_wp2_with (go_at_call 20; refine (off_any p q s _ hmem).mono ?_; rintro e w' ⟨rfl, rfl⟩)
    go_quiet (fail)
    go_wp2_with (go_at_call 44; go_must (refine (HSP.out _ ?_ ?_).mono ?_; exact hc; exact hmem; rintro e w1 ⟨rfl, k1⟩; have hcD := IsCell.kept hc k1; have hmD := IsMem.kept hmem k1; have hgD := Chg.kept [p, q, c] k1))
    have d0 := hcD.c0
    have d2 := hcD.c2
    have d3 := hcD.c3
    clear c0 c1 c2 c3 hc hmem k1
    go_region_held (fun W => W.cell? ⟨c, 0, none⟩ = some (.pointer (some ⟨p, 0, none⟩)) ∧ W.cell? ⟨c, 2, none⟩ = some (.int .u32 v)) (first | (exact ⟨d0, d2⟩) | (exact ⟨x0, x2⟩)) ((first | (go_at_call 45; refine (cwrite_any p q 1 s (v + 1) _ hmD (by omega) hok hbv).mono ?_; rintro e w2 ⟨he, hm2, kk⟩; rw [← Q.out] at he hm2; subst he; have hc2 : IsCell w2 c p mx v false := kk.blk hcD (by simp; omega); have x0 := hc2.c0; have x2 := hc2.c2; have hg2 := hgD.more kk (by simp))))
    have x1 := hc2.c1
    have x3 := hc2.c3
    have y2 : w2.frozen? ⟨c, 2, none⟩ = false := Blk.free hc2 2
    have y3 : w2.frozen? ⟨c, 3, none⟩ = false := Blk.free hc2 3
    go_wp2
    · have hx : (r.2 != 0) = true := by assumption
      go_ret2
      exact ⟨.inr ⟨by simpa using hx, rfl, Blk.set' hc2 3 _ rfl⟩, hm2.other _ _ (by simp; omega) (by simp; omega), hg2.setCell (by simp) _⟩
    · have hx : (r.2 != 0) = false := by assumption
      go_ret2
      exact ⟨.inl ⟨by simpa using hx, rfl, Blk.set' hc2 2 _ rfl⟩, hm2.other _ _ (by simp; omega) (by simp; omega), hg2.setCell (by simp) _⟩

end Go.Proofs.Ytcmhalmmaodmhaa
