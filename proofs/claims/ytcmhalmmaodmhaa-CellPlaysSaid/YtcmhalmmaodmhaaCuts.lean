/-
  DERIVED. The walk of MemCuts.
-/
import Derived.Test.YtcmhalmmaodmhaaMade
import Derived.Deep.RegionHeld
namespace Go.Proofs.Ytcmhalmmaodmhaa
open Go.RowKit
set_option linter.unusedSimpArgs false
set_option linter.unusedVariables false

/-- What holds of the memory at each round: it is armed; what is written is counted; the power has gone only where nothing was left. -/
structure CutInv (n : Int) (lb k d : Nat) (s : MS) : Prop where
  armed : s.armed = true
  left : s.left = n - d
  writes : s.writes = d
  len : s.B.length = lb
  off : s.off = true → (d : Int) = n
  le : (d : Int) ≤ n
  n0 : 0 ≤ n
  dk : d ≤ k

theorem mod_at (z : Int) (lb : Nat) (h : 0 < lb) : ∃ j : Nat, (IntKind.u64.wrap z).tmod (lb : Int) = (j : Int) ∧ j < lb := by
  have h1 : 0 ≤ IntKind.u64.wrap z := by rw [IntKind.wrap_u64]; omega
  have h2 : 0 ≤ (IntKind.u64.wrap z).tmod (lb : Int) := Int.tmod_nonneg _ h1
  have h3 : (IntKind.u64.wrap z).tmod (lb : Int) < (lb : Int) := Int.tmod_lt_of_pos _ (by omega)
  exact ⟨((IntKind.u64.wrap z).tmod (lb : Int)).toNat, by omega, by omega⟩

theorem cut_full {s : MS} {j : Nat} {c : Int} (ha : s.armed = true) (hl : s.left = 0) (hj : j < s.B.length) : s.write (j : Int) c = ({ s with off := true }, 70) := by
  unfold MS.write
  cases ho : s.off with
  | true =>
    rw [if_pos rfl]
    have : s = { s with off := true } := by cases s; simp_all
    rw [← this]
  | false =>
    rw [if_neg (by simp), if_neg (by omega), if_pos ⟨ha, hl⟩]

theorem cut_some {s : MS} {j : Nat} {c : Int} (ho : s.off = false) (ha : s.armed = true) (hl : s.left ≠ 0) (hj : j < s.B.length) :
    s.write (j : Int) c = ({ s with B := s.B.set j c, left := s.left - 1, writes := s.writes + 1 }, 0) := by
  unfold MS.write
  rw [if_neg (by simp [ho]), if_neg (by omega), if_neg (fun h => hl h.2)]
  simp [ha]

theorem IsMem.other {w : World} {p q : Nat} {s : MS} (h : IsMem w p q s) (x : Addr) (v : Value) (hp : p ≠ x.block) (hq : q ≠ x.block) : IsMem (w.setCell x v) p q s :=
  let ⟨a, cap, hb, hl, hr⟩ := h; ⟨a, cap, hb.other x v hp, hl, fun h0 => ⟨(hr h0).1, (hr h0).2.other x v hq⟩⟩

theorem cut_row {w : World} {q j : Nat} {B : List Int} {c : Int} (h : Row w q B) (hj : j < B.length) : Row (w.setCell ⟨q, j, none⟩ (.int .u8 c)) q (B.set j c) := h.set j c hj

theorem on_write (s : MS) (c : Int) (h : 0 < s.B.length) : s.on.write 0 c = ({ s.on with B := s.B.set 0 c, writes := s.writes + 1 }, 0) := by
  unfold MS.write MS.on
  rw [if_neg (by simp), if_neg (by simp only []; omega), if_neg (by simp)]
  simp

theorem arm_ok (s : MS) {n : Int} (h : 0 ≤ n) : s.arm n = ({ s with armed := true, left := n }, 0) := by
  unfold MS.arm; rw [if_neg (by omega)]

set_option maxRecDepth 1000000 in
set_option maxHeartbeats 2000000 in
theorem cuts_true (n : Int) (h0 : 0 ≤ n) (h1 : n ≤ 300) (ab : Option Addr) (lb cb : Nat) (xs : List Int) (as_ : Option Addr) (ls cs : Nat) (zs : Nat → Int) (w : World) (hxl : xs.length = lb) (hl1 : 1 ≤ lb) (hl2 : lb ≤ 4096) (hls : ls ≤ 400)
    (hx : 0 < lb → ∃ x, ab = some x ∧ ∀ i, i < xs.length → w.cell? (x.add i) = some (.int .u8 (xs.getD i 0)))
    (hs : 0 < ls → ∃ b off, as_ = some ⟨b, off, none⟩ ∧ ∀ i, i < ls → w.cell? ⟨b, off + i, none⟩ = some (.int .i64 (zs i))) :
    Calls Try.prog 4 #[.slice ab lb cb, .int .i64 n, .slice as_ ls cs] w fun e w' => e = .returned (.bool true) ∧ Chg [] w w' := by
  have HX : Hid _ := hx
  have HS : Hid _ := hs
  have HC : Hid (lb ≤ 140737488351232) := by show _ ≤ _; omega
  have hd1 : decide ((lb : Int) < 1) = false := by simp; omega
  have hd2 : decide ((4096 : Int) < (lb : Int)) = false := by simp; omega
  have hd3 : decide (n < 0) = false := by simp; omega
  have hd4 : decide (300 < n) = false := by simp; omega
  have hd5 : decide ((400 : Int) < (ls : Int)) = false := by simp; omega
  clear hx hs
  go_enter Try.func4, Try.ntmps4
  go_wp2_with (first | (go_at_call 12; refine (awake_any _).mono ?_; rintro e w1 ⟨rfl, g1⟩; have hbe := Blk.new w1 #[] 5; have ge := g1.alloc (.cells #[] 5); have hxe : Hid (0 < lb → ∃ x, ab = some x ∧ ∀ i, i < xs.length → (w1.alloc (.cells #[] 5)).cell? (x.add i) = some (.int .u8 (xs.getD i 0))) := fun h0 => let ⟨x, hx, hcell⟩ := HX.out h0; ⟨x, hx, fun i hi => cell_kept _ (keep_cell g1 (hcell i hi))⟩) | (at_builtin; have _t := hbe; refine wpList_bytes rfl _ _ rfl w1.heap.size rfl hbe ab lb cb rfl xs hxl HC.out hxe.out ?_; clear hbe; intro cap4 w4 q4 hb4 hq4 hql4 k4; have g4 := ge.more k4 (by have := g1.size; simp; omega)) | (go_at_call 14; refine (loadm _ lb cap4 xs _ hxl hl2 (bs_src hxl hb4)).mono ?_; rintro e w5 ⟨p, q, rfl, m5, n5, k5⟩; have g5 := g4.trans k5) | (go_at_call 18; refine (arm_any p q (MS.fresh xs) n _ m5).mono ?_; rintro e w6 ⟨he, m6, k6⟩; rw [arm_ok _ h0] at he m6; subst he; have g6 := g5.more k6 (by obtain ⟨a1, a2, a3, a4⟩ := n5; have := g4.size; simp; omega); have hb6 := Blk.new w6 #[] 5; have ge6 := g6.alloc (.cells #[] 5); have hxe6 : Hid (0 < lb → ∃ x, ab = some x ∧ ∀ i, i < xs.length → (w6.alloc (.cells #[] 5)).cell? (x.add i) = some (.int .u8 (xs.getD i 0))) := fun h0 => let ⟨x, hx, hcell⟩ := HX.out h0; ⟨x, hx, fun i hi => cell_kept _ (keep_cell g6 (hcell i hi))⟩) | (at_builtin; refine wpList_bytes rfl _ _ rfl w6.heap.size rfl hb6 ab lb cb rfl xs hxl HC.out hxe6.out ?_; clear hb6; intro cap7 w7 q7 hb7 hq7 hql7 k7; have g7 := ge6.more k7 (by have := g6.size; simp; omega); have m7 := m6.keep (((Chg.refl [] w6).alloc (.cells #[] 5)).more k7 (by simp)) (by simp) (by simp)))
  obtain ⟨a1, a2, a3, a4⟩ := n5
  have hrow7 : Row w7 q7 xs := by
    obtain ⟨_, _, _, _, hr⟩ := hb7
    exact (hr (by omega)).2
  have hcap7 : lb ≤ cap7 := by
    obtain ⟨_, c, hv, hle, _⟩ := hb7
    injection hv with _ _ h3
    omega
  have z6 := k6.size
  have z7 := k7.size
  simp only [World.size_alloc] at z7
  have z4 := g4.size
  have PL : Hid (w.heap.size ≤ p ∧ w.heap.size ≤ q ∧ p < w6.heap.size ∧ q < w6.heap.size ∧ w6.heap.size ≤ q7 ∧ q7 < w7.heap.size) := by show _ ∧ _; omega
  have hi0 : CutInv n lb 0 0 { MS.fresh xs with armed := true, left := n } := by
    refine ⟨rfl, by simp [MS.fresh], by simp [MS.fresh], hxl, by simp [MS.fresh], by omega, h0, Nat.le_refl _⟩
  clear k7 hb7 hxe6 ge6 g6 m6 k6 m5 g5 k5 g4 k4 hb4 hxe ge g1 a1 a2 a3 a4 z6 z7 z4 hq7 hql7 hq4 hql4 HX
  go_loopw [10, 11] (fun vd vi wr => ∃ (k : Nat) (d : Nat) (s : MS), k ≤ ls ∧ vi = .int .i64 k ∧ vd = .int .i64 d ∧ IsMem wr p q s ∧ Row wr q7 s.B ∧ CutInv n lb k d s ∧ Chg [] w wr ∧ w7.heap.size ≤ wr.heap.size) (fun _ i _ => ls - (intOf i).toNat)
  case atStart => exact ⟨0, 0, _, Nat.zero_le _, rfl, rfl, m7, hrow7, hi0, g7, Nat.le_refl _⟩
  case round =>
    obtain ⟨k, d, s, hk, rfl, rfl, hm, hrow, hinv, hch, hsz⟩ := hrel
    clear m7 hrow7 hi0 g7
    by_cases hlt : k < ls
    · obtain ⟨b, off, rfl, hcell⟩ := HS.out (by omega)
      have f1 := hcell k hlt
      have hbl0 := lt_of_cell? f1
      have z1 := hch.old f1 (by simp)
      have hcast : (k : Int) < (ls : Int) := by omega
      have hd6 : decide ((k : Int) < (ls : Int)) = true := by simpa using hcast
      obtain ⟨z, hz⟩ : ∃ z, z = zs k := ⟨_, rfl⟩
      rw [← hz] at z1
      clear f1 hcell hz
      obtain ⟨j, hj, hjl⟩ := mod_at z lb (by omega)
      obtain ⟨iv1, iv2, iv3, iv4, iv5, iv6, iv7, iv8⟩ := hinv
      by_cases hdn : (d : Int) = n
      · have hw : s.write (j : Int) ((k : Int) % 256) = ({ s with off := true }, 70) := cut_full iv1 (by omega) (by omega)
        have HW : Hid _ := hw
        have H1 : Hid (s.B.length ≤ 4096 ∧ 0 ≤ s.left ∧ s.left ≤ 9223372036854775807 ∧ 0 ≤ s.writes ∧ s.writes ≤ 1000000000) := by show _ ∧ _; omega
        have H2 : Hid (CutInv n lb (k + 1) d { s with off := true }) := ⟨iv1, iv2, iv3, iv4, fun _ => hdn, iv6, iv7, by omega⟩
        have hdn2 : (d : Int) = n := hdn
        clear hw iv1 iv2 iv3 iv4 iv5 iv6 iv7 iv8 hdn
        subst hdn2
        go_wp2_with (first | (go_at_call 19; refine (write_any p q s (j : Int) ((k : Int) % 256) _ hm H1.out.1 H1.out.2.1 H1.out.2.2.1 H1.out.2.2.2.1 H1.out.2.2.2.2).mono ?_; rintro e w8 ⟨he, hm8, k8⟩; rw [HW.out] at he hm8; subst he; have hrow8 := hrow.keep k8 (by have := PL.out; simp; omega); have hch8 : Chg [] w w8 := hch.more k8 (by have := PL.out; simp; omega); have s8 := k8.size) | (go_at_call 20; refine (off_any p q _ _ hm8).mono ?_; rintro e w' ⟨rfl, rfl⟩))
        go_roundw
        case rel => exact ⟨k + 1, d, _, by omega, by go_num, rfl, hm8, hrow8, H2.out, hch8, by omega⟩
        case measure => simp [intOf]; omega
      · have hof : s.off = false := by
          cases ho : s.off with
          | false => rfl
          | true => exact absurd (iv5 ho) hdn
        have hw : s.write (j : Int) ((k : Int) % 256) = ({ s with B := s.B.set j ((k : Int) % 256), left := s.left - 1, writes := s.writes + 1 }, 0) := cut_some hof iv1 (by omega) (by omega)
        have HW : Hid _ := hw
        have H1 : Hid (s.B.length ≤ 4096 ∧ 0 ≤ s.left ∧ s.left ≤ 9223372036854775807 ∧ 0 ≤ s.writes ∧ s.writes ≤ 1000000000) := by show _ ∧ _; omega
        have H2 : Hid (CutInv n lb (k + 1) (d + 1) { s with B := s.B.set j ((k : Int) % 256), left := s.left - 1, writes := s.writes + 1 }) :=
          ⟨iv1, by simp only []; omega, by simp only []; omega, by simpa using iv4, fun h => by simp [hof] at h, by omega, iv7, by omega⟩
        have H3 : Hid (s.off = false ∧ j < s.B.length) := ⟨hof, by omega⟩
        have hdn2 : ((d : Int) == n) = false := by simpa using hdn
        have hdlt : (d : Int) < n := by omega
        clear hw iv1 iv2 iv3 iv4 iv5 iv6 iv7 iv8
        go_wp2_with (first | (go_at_call 19; refine (write_any p q s (j : Int) ((k : Int) % 256) _ hm H1.out.1 H1.out.2.1 H1.out.2.2.1 H1.out.2.2.2.1 H1.out.2.2.2.2).mono ?_; rintro e w8 ⟨he, hm8, k8⟩; rw [HW.out] at he hm8; subst he; have hrow8 := hrow.keep k8 (by have := PL.out; simp; omega); have hch8 : Chg [] w w8 := hch.more k8 (by have := PL.out; simp; omega); have s8 := k8.size; have q1 := hrow8.cell H3.out.2; have q2 := hrow8.free j; have hm9 := hm8.other ⟨q7, j, none⟩ (.int .u8 ((k : Int) % 256)) (by have := PL.out; simp; omega) (by have := PL.out; simp; omega)) | (go_at_call 20; refine (off_any p q _ _ hm9).mono ?_; rintro e w' ⟨rfl, rfl⟩))
        go_roundw
        case rel =>
          refine ⟨k + 1, d + 1, _, by omega, by go_num, by go_num, hm9, ?_, H2.out, hch8.setCell (fun h => absurd h (by have := PL.out; simp; omega)) _, by simp [World.setCell]; omega⟩
          exact cut_row hrow8 H3.out.2
        case measure => simp [intOf]; omega
    · have hke : k = ls := by omega
      subst hke
      have H4 := hinv.len
      have H5 := hinv.writes
      have H6 := hinv.le
      have hm0 := hm
      go_wp2_with (first | (go_at_call 21; refine (on_any p q s _ hm).mono ?_; rintro e w8 ⟨rfl, hm8, k8⟩; have hrow8 := hrow.keep k8 (by have := PL.out; simp; omega); have hch8 : Chg [] w w8 := hch.more k8 (by have := PL.out; simp; omega); have s8 := k8.size))
      have hmD : IsMem w8.drew p q s.on := hm8.drew
      have hrD : Row w8.drew q7 s.B := hrow8.keep (Chg.refl [] w8).drew (by simp)
      have hcD : Chg [] w w8.drew := hch8.drew
      have cv : ∀ W, Row W q7 s.B → (convert 22 9 (.slice (some ⟨q7, 0, none⟩) lb cap7)).run Try.prog W = .ok (.string (mkStr s.B)) W := fun W hW => by
        exact conv_run (w := W) (v := .slice (some ⟨q7, 0, none⟩) lb cap7) (q := q7) (xs := s.B) ⟨_, _, by rw [H4], by omega, fun _ => ⟨rfl, hW⟩⟩
      have CV : Hid _ := cv
      have cvD := cv _ hrD
      have hwr : s.on.write 0 9 = ({ s.on with B := s.B.set 0 9, writes := s.writes + 1 }, 0) := on_write s 9 (by omega)
      have HWR : Hid _ := hwr
      have hlen : s.on.B.length ≤ 4096 := by simp [MS.on]; omega
      have H7 : Hid (0 ≤ s.on.left ∧ s.on.left ≤ 9223372036854775807 ∧ 0 ≤ s.on.writes ∧ s.on.writes ≤ 1000000000) := by
        have := hinv.left
        have := hinv.n0
        show _ ∧ _
        simp only [MS.on]
        omega
      have eon : s.on.B = s.B := rfl
      have eow : s.on.writes = (d : Int) := H5
      have eoo : s.on.off = false := rfl
      clear hwr cv hinv hrow hm hm0 hm8 hrow8 hch8 H5 H6 hch
      go_region_held (fun W => (convert 22 9 (.slice (some ⟨q7, 0, none⟩) lb cap7)).run Try.prog W = .ok (.string (mkStr s.B)) W) (first | (exact cvD) | (exact cv9) | (exact cv10)) ((first | (go_at_call 16; refine (bytes_any p q s.on _ hmD hlen).mono ?_; rintro e w9 ⟨v, rfl, ⟨r, hb2, hr2⟩, k9⟩; have cv1 := conv_run hb2; rw [eon] at cv1; have hm9 := hmD.keep k9 (by simp) (by simp); have hr9 := hrD.keep k9 (by have := PL.out; simp); have cv9 := CV.out _ hr9; have hc9 := hcD.trans k9) | (go_at_call 22; refine (writes_any p q s.on _ hm9).mono ?_; rintro e w' ⟨rfl, rfl⟩) | (go_at_call 20; refine (off_any p q s.on _ hm9).mono ?_; rintro e w' ⟨rfl, rfl⟩) | (go_at_call 19; refine (write_any p q s.on 0 9 _ hm9 hlen H7.out.1 H7.out.2.1 H7.out.2.2.1 H7.out.2.2.2).mono ?_; rintro e w10 ⟨he, hm10, k10⟩; rw [HWR.out] at he; subst he; have cv10 := CV.out _ (hr9.keep k10 (by have := PL.out; simp; omega)); have hc10 : Chg [] w w10 := hc9.more k10 (by have := PL.out; simp; omega))))
      all_goals go_wp2
      all_goals go_ret
      all_goals exact ⟨rfl, hc10⟩

theorem cuts_out (n : Int) (ab : Option Addr) (lb cb : Nat) (as_ : Option Addr) (ls cs : Nat) (w : World) (h : n < 0 ∨ 300 < n ∨ lb < 1 ∨ 4096 < lb ∨ 400 < ls) :
    Calls Try.prog 4 #[.slice ab lb cb, .int .i64 n, .slice as_ ls cs] w fun e w' => e = .returned (.bool true) ∧ Chg [] w w' := by
  have hd : (decide ((lb : Int) < 1) || decide ((4096 : Int) < (lb : Int)) || decide (n < 0) || decide (300 < n) || decide ((400 : Int) < (ls : Int))) = true := by simp; omega
  go_enter Try.func4, Try.ntmps4
  go_wp2_with (first | (go_at_call 12; refine (awake_any _).mono ?_; rintro e w1 ⟨rfl, g1⟩))
  all_goals go_ret
  all_goals exact ⟨rfl, g1⟩

end Go.Proofs.Ytcmhalmmaodmhaa
