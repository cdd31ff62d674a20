/-
  DERIVED. The walk of CellRises.
-/
import Derived.Test.YtcmhalmmaodmhaaKeeps
import Derived.Test.YtcmhalmmaodmhaaCutsAll
namespace Go.Proofs.Ytcmhalmmaodmhaa
open Go.RowKit
set_option linter.unusedSimpArgs false
set_option linter.unusedVariables false

/-- A memory in a life: L was given last; A says whether it is armed. -/
structure In (s : MS) (A : Bool) (L : Int) (N : Nat) (W : Int) : Prop where
  armed : s.armed = A
  pow : A = false → s.off = false
  last : L ≤ openV s
  len : s.B.length = N
  bytes : s.Bytes
  ok : s.Ok W

theorem In.next {s : MS} {A : Bool} {L : Int} {N : Nat} {W : Int} (h : In s A L N W) (hN : 10 ≤ N) {v mx : Int} (hv : v = openV s) (hm : v < mx) (hmx : mx ≤ 4294967295) :
    ∃ t e, nextR s v = (t, e) ∧ ((e = 0 ∧ t.off = false ∧ openV t = v + 1 ∧ In t A (v + 1) N (W + 6)) ∨ (e ≠ 0 ∧ t.off = true ∧ In t A L N (W + 6))) := by
  subst hv
  have hl := next_left (s := s) (by rw [h.len]; omega) h.bytes (by omega)
  have hk := kp_next s (openV s)
  have hL := h.last
  refine ⟨(nextR s (openV s)).1, (nextR s (openV s)).2, rfl, ?_⟩
  have hp : A = false → (nextR s (openV s)).1.off = false := fun ha => (hk.pow (h.armed.trans ha)).trans (h.pow ha)
  rcases hl.2 with ⟨e, v⟩ | ⟨e, v⟩
  · refine .inl ⟨e, ?_, v, ⟨hk.armed.trans h.armed, hp, by omega, hl.1.len.trans h.len, hl.1.bytes, hk.ok _ h.ok⟩⟩
    rcases hl.1.pow with ⟨_, o⟩ | ⟨e2, _⟩
    · exact o
    · rw [e] at e2; cases e2
  · refine .inr ⟨by rw [e]; decide, ?_, ⟨hk.armed.trans h.armed, hp, by omega, hl.1.len.trans h.len, hl.1.bytes, hk.ok _ h.ok⟩⟩
    rcases hl.1.pow with ⟨e2, _⟩ | ⟨_, o⟩
    · rw [e] at e2; cases e2
    · exact o

theorem In.open {s : MS} {A : Bool} {L : Int} {N : Nat} {W : Int} (h : In s A L N W) (hN : 10 ≤ N) {mx : Int} (hm : mx ≠ 0) :
    ∃ t e, openR s mx = (t, e) ∧ openV t = openV s ∧ ((e = 0 ∧ t.off = false) ∨ (e = 70 ∧ t.off = true)) ∧ In t A L N (W + 6) := by
  have hl := open_left (s := s) (mx := mx) (by rw [h.len]; omega) h.bytes hm
  have hk := kl_open s mx
  refine ⟨(openR s mx).1, (openR s mx).2, rfl, hl.2, hl.1.pow, ⟨hk.armed.trans h.armed, fun ha => (hk.pow (h.armed.trans ha)).trans (h.pow ha), by rw [hl.2]; exact h.last, hl.1.len.trans h.len, hl.1.bytes, hk.ok _ h.ok⟩⟩

theorem In.on {s : MS} {A : Bool} {L : Int} {N : Nat} {W : Int} (h : In s A L N W) : In s.on false L N W :=
  ⟨rfl, fun _ => rfl, h.last, h.len, h.bytes, ⟨h.ok.l0, h.ok.l1, h.ok.w0, h.ok.w1, h.ok.len⟩⟩

theorem In.arm {s : MS} {L : Int} {N : Nat} {W : Int} (h : In s false L N W) {n : Int} (h0 : 0 ≤ n) (h1 : n ≤ 100) : ∃ t, s.arm n = (t, 0) ∧ In t true L N W :=
  ⟨_, arm_ok s h0, ⟨rfl, (fun h => nomatch h), h.last, h.len, h.bytes, ⟨h0, by show n ≤ _; omega, h.ok.w0, h.ok.w1, h.ok.len⟩⟩⟩

theorem fresh_in {xs : List Int} {n : Nat} (hl : xs.length = n) (h2 : n ≤ 100) (hb : ∀ x ∈ xs, 0 ≤ x ∧ x ≤ 255) : In (MS.fresh xs) false 0 n 0 :=
  ⟨rfl, fun _ => rfl, (openV_bd (s := MS.fresh xs) (bytes_of hb)).1, hl, bytes_of hb, ⟨Int.le_refl _, by show (0 : Int) ≤ _; omega, Int.le_refl _, Int.le_refl _, by show xs.length ≤ _; omega⟩⟩

theorem In.le {s : MS} {A : Bool} {L : Int} {N : Nat} {W V : Int} (h : In s A L N W) (hl : W ≤ V) : In s A L N V :=
  ⟨h.armed, h.pow, h.last, h.len, h.bytes, ok_le h.ok hl⟩

/-- Open, where the power goes. -/
theorem open_bad (p q : Nat) (s t : MS) (mx : Int) (w : World) (hmem : IsMem w p q s) (hq : q < w.heap.size) (hok : s.Ok 100000) (hb : s.Bytes) (hr : openR s mx = (t, 70)) :
    Calls Try.prog 32 #[.pointer (some ⟨p, 0, none⟩), .int .u32 mx] w fun e w' => e = .returned (.tuple #[.pointer none, .int .i64 70]) ∧ IsMem w' p q t ∧ Chg [p, q] w w' := by
  refine (open_any p q s mx w hmem hq hok hb).mono ?_
  rintro e w' ⟨ho, hm, hg⟩
  rw [hr] at hm
  rcases ho with ⟨h0, _⟩ | ⟨_, he⟩
  · rw [hr] at h0; cases h0
  · rw [hr] at he; exact ⟨he, hm, hg⟩

/-- Where Next has left a life: a number came, none is left, or the power went. -/
def Cs (w : World) (c p : Nat) (mx : Int) (s : MS) (e : Int) : Prop :=
  (e = 0 ∧ s.off = false ∧ IsCell w c p mx (openV s) false) ∨ (e = 80 ∧ mx ≤ openV s ∧ IsCell w c p mx (openV s) false) ∨ (e = 70 ∧ s.off = true)

set_option maxRecDepth 1000000 in
set_option maxHeartbeats 2000000 in
theorem rises_true (ab : Option Addr) (lb cb : Nat) (xs : List Int) (mx : Int) (as_ : Option Addr) (ls cs : Nat) (zs : Nat → Int) (w : World) (hxl : xs.length = lb) (hl1 : 10 ≤ lb) (hl2 : lb ≤ 100) (hxb : ∀ x ∈ xs, 0 ≤ x ∧ x ≤ 255) (hm0 : 0 < mx) (hm1 : mx ≤ 4294967295)
    (hx : 0 < lb → ∃ x, ab = some x ∧ ∀ i, i < xs.length → w.cell? (x.add i) = some (.int .u8 (xs.getD i 0)))
    (hs : 0 < ls → ∃ b off, as_ = some ⟨b, off, none⟩ ∧ ∀ i, i < ls → w.cell? ⟨b, off + i, none⟩ = some (.int .i64 (zs i))) :
    Calls Try.prog 10 #[.slice ab lb cb, .int .u32 mx, .slice as_ ls cs] w fun e w' => e = .returned (.bool true) ∧ Chg [] w w' := by
  have HX : Hid _ := hx
  have HS : Hid _ := hs
  have HM : Hid (0 < mx ∧ mx ≤ 4294967295) := ⟨hm0, hm1⟩
  have HC : Hid (lb ≤ 140737488351232) := by show _ ≤ _; omega
  have hd1 : decide ((lb : Int) < 10) = false := by simp; omega
  have hd2 : decide ((100 : Int) < (lb : Int)) = false := by simp; omega
  have hd3 : (mx == 0) = false := by simp; omega
  clear hx hs hm0 hm1
  go_enter Try.func10, Try.ntmps10
  go_wp2_with (first | (go_at_call 30; refine (awake8_any _).mono ?_; rintro e w1 ⟨rfl, g1⟩; have hbe := Blk.new w1 #[] 5; have ge := g1.alloc (.cells #[] 5); have hxe : Hid (0 < lb → ∃ x, ab = some x ∧ ∀ i, i < xs.length → (w1.alloc (.cells #[] 5)).cell? (x.add i) = some (.int .u8 (xs.getD i 0))) := fun h0 => let ⟨x, hx, hcell⟩ := HX.out h0; ⟨x, hx, fun i hi => cell_kept _ (keep_cell g1 (hcell i hi))⟩) | (at_builtin; have _t := hbe; refine wpList_bytes rfl _ _ rfl w1.heap.size rfl hbe ab lb cb rfl xs hxl HC.out hxe.out ?_; clear hbe; intro cap4 w4 q4 hb4 hq4 hql4 k4; have g4 := ge.more k4 (by have := g1.size; simp; omega)) | (go_at_call 14; refine (loadm _ lb cap4 xs _ hxl (by omega) (bs_src hxl hb4)).mono ?_; rintro e w5 ⟨p, q, rfl, m5, n5, k5⟩; have g5 := g4.trans k5))
  obtain ⟨a1, a2, a3, a4⟩ := n5
  have z4 := g4.size
  have PL : Hid (w.heap.size ≤ p ∧ w.heap.size ≤ q ∧ p < w5.heap.size ∧ q < w5.heap.size ∧ 10 ≤ lb) := by show _ ∧ _; omega
  have hi0 : In (MS.fresh xs) false 0 lb 0 := fresh_in hxl hl2 hxb
  clear k5 hxe ge g1 a1 a2 a3 a4 z4 hq4 hql4 HX g4 k4 hb4
  go_loopw [9, 10] (fun vl vi wr => ∃ (i : Nat) (L : Int) (A : Bool) (s : MS), i ≤ ls ∧ i ≤ 200 ∧ vi = .int .i64 i ∧ vl = .int .u32 L ∧ 0 ≤ L ∧ IsMem wr p q s ∧ In s A L lb (30 * i) ∧ Chg [] w wr ∧ w5.heap.size ≤ wr.heap.size) (fun _ i _ => ls - (intOf i).toNat)
  case atStart => exact ⟨0, 0, false, _, Nat.zero_le _, Nat.zero_le _, rfl, rfl, Int.le_refl _, m5, hi0, g5, Nat.le_refl _⟩
  case round =>
    obtain ⟨i, L, A, s, hi1, hi2, rfl, rfl, hL, hm, hin, hg, hsz⟩ := hrel
    clear m5 hi0 g5
    by_cases hlt : i < ls ∧ i < 200
    · have h1 : (i : Int) < (ls : Int) := by omega
      have h2 : (i : Int) < 200 := by omega
      obtain ⟨b, off, rfl, hcell⟩ := HS.out (by omega)
      have f1 := hcell i (by omega)
      have hbl := lt_of_cell? f1
      obtain ⟨z, hz⟩ : ∃ z, z = zs i := ⟨_, rfl⟩
      rw [← hz] at f1
      clear hcell hz
      by_cases hz : 0 ≤ z
      · obtain ⟨n, hn, hn0, hn1⟩ : ∃ n, z % 20 = n ∧ 0 ≤ n ∧ n ≤ 100 := ⟨_, rfl, by omega, by omega⟩
        obtain ⟨s1, es1, hin1⟩ := hin.on.arm hn0 hn1
        obtain ⟨t, e, et, hvt, hot, hint⟩ := hin1.open PL.out.2.2.2.2 (mx := mx) (by have := HM.out; omega)
        have H1 : Hid (s.on.arm n = (s1, 0)) := es1
        have H2 : Hid (In s1 true L lb (30 * i)) := hin1
        have H3 : Hid (openR s1 mx = (t, e)) := et
        have H4 : Hid (openV t = openV s1 ∧ In t true L lb (30 * i + 6)) := ⟨hvt, hint⟩
        have hz2 : decide (z < 0) = false := by simp; omega
        rcases hot with ⟨rfl, hot⟩ | ⟨rfl, hot⟩
        · clear es1 hin1 et hvt hint
          go_wp2_with (first | (go_at_call 21; refine (on_any p q s _ hm).mono ?_; rintro e w6 ⟨rfl, hm6, k⟩; have s6 := k.size; have f6 := k.old (hg.old f1 (by simp)) (by have := PL.out; simp; omega); replace hg := hg.more k (by have := PL.out; simp; omega); clear k) | (go_at_call 18; refine (arm_any p q s.on n _ hm6).mono ?_; rw [H1.out]; rintro e w7 ⟨rfl, hm7, k⟩; have f7 := k.old f6 (by have := PL.out; simp; omega); replace hg := hg.more k (by have := PL.out; simp; omega); have s7 := k.size; clear k) | (go_at_call 32; refine (open_ok p q s1 t mx (openV s1) _ hm7 (by have := PL.out; omega) (ok_le H2.out.ok (by omega)) H2.out.bytes H3.out rfl).mono ?_; rintro e w8 ⟨c, rfl, hc8, hcl, hm8, k⟩; have f8 := k.old f7 (by have := PL.out; simp; omega); replace hg := hg.more k (by have := PL.out; simp; omega); have s8 := k.size; clear k))
          have s9 := hc8.lt
          rw [← H4.out.1] at hc8
          have PL2 : Hid (w.heap.size ≤ c ∧ p < c ∧ q < c ∧ c < w8.heap.size ∧ w5.heap.size ≤ w8.heap.size) := by have := PL.out; show _ ∧ _; omega
          clear f6 f7 s6 s7 s8 s9 hcl hm hin hn
          go_loopw [12, 9, 13] (fun ve vl vk wr => ∃ (k : Nat) (s2 : MS) (L2 e : Int), k ≤ 4 ∧ ve = .int .i64 e ∧ vl = .int .u32 L2 ∧ vk = .int .i64 k ∧ 0 ≤ L2 ∧ In s2 true L2 lb (30 * i + 6 + 6 * k) ∧ IsMem wr p q s2 ∧ Chg [] w wr ∧ w8.heap.size ≤ wr.heap.size ∧ Cs wr c p mx s2 e) (fun _ _ k _ => 4 - (intOf k).toNat)
          case atStart => exact ⟨0, t, L, 0, by omega, rfl, rfl, rfl, hL, by simpa using H4.out.2, hm8, hg, Nat.le_refl _, .inl ⟨rfl, hot, hc8⟩⟩
          case round =>
            obtain ⟨k, s2, L2, e, hk, rfl, rfl, rfl, hL2, hin2, hm2, hg2, hsz2, hcs⟩ := hrel
            have f9 := hg2.old f1 (by simp)
            clear f8 hm8 hc8 hot H1 H2 H3 H4
            rcases hcs with ⟨rfl, ho2, hc2⟩ | ⟨rfl, hv2, hc2⟩ | ⟨rfl, ho2⟩
            · have hv0 := (openV_bd hin2.bytes).1
              have hv1 := hin2.last
              have H1 : Hid (In s2 true L2 lb (30 * i + 6 + 6 * k)) := hin2
              have H2 : Hid (s2.off = false ∧ c ≠ q) := ⟨ho2, by have := PL2.out; omega⟩
              by_cases hk4 : k < 4
              · have hk4' : (k : Int) < 4 := by omega
                have d1 : decide ((k : Int) < 4) = true := by simpa using hk4'
                by_cases hvm : openV s2 < mx
                · obtain ⟨t2, e2, et2, hr⟩ := hin2.next PL.out.2.2.2.2 rfl hvm HM.out.2
                  obtain ⟨v, hv⟩ : ∃ v, openV s2 = v := ⟨_, rfl⟩
                  rw [hv] at hc2 hv0 hv1 hvm hr et2
                  have e3 : decide (v + 1 ≤ L2) = false := by simp; omega
                  have e4 : decide (mx < v + 1) = false := by simp; omega
                  have HB : Hid (v < mx ∧ 0 ≤ v) := ⟨hvm, hv0⟩
                  rcases hr with ⟨rfl, h3, h4, h5⟩ | ⟨h2, h3, h5⟩
                  · have H3 : Hid (nextR s2 v = (t2, 0)) := et2
                    have H4 : Hid (t2.off = false ∧ openV t2 = v + 1 ∧ In t2 true (v + 1) lb (30 * i + 6 + 6 * k + 6)) := ⟨h3, h4, h5⟩
                    clear hin2 ho2 et2 h3 h4 h5 hvm hv
                    go_wp2_with (first | (go_at_call 31; refine (next_ok c p q s2 t2 mx v _ hc2 hm2 H2.out.2 H2.out.1 HB.out.1 HB.out.2 HM.out.2 (by rw [H1.out.len]; exact PL.out.2.2.2.2) (ok_le H1.out.ok (by omega)) H1.out.bytes H3.out).mono ?_; rintro e w10 ⟨rfl, hc10, hm10, k10⟩; have hg10 : Chg [] w w10 := hg2.more k10 (by have := PL.out; have := PL2.out; simp; omega); have s10 := k10.size; clear k10) | (go_at_call 33; refine (value_any c p mx _ false _ hc10).mono ?_; rintro e w' ⟨rfl, rfl⟩))
                    go_roundw
                    case rel => exact ⟨k + 1, t2, v + 1, 0, by omega, rfl, rfl, by go_num, by have := HB.out; omega, H4.out.2.2.le (by omega), hm10, hg10, by omega, .inl ⟨rfl, H4.out.1, by rw [H4.out.2.1]; exact hc10⟩⟩
                    case measure => simp [intOf]; omega
                  · have H3 : Hid (nextR s2 v = (t2, e2) ∧ e2 ≠ 0) := ⟨et2, h2⟩
                    have H4 : Hid (t2.off = true ∧ In t2 true L2 lb (30 * i + 6 + 6 * k + 6)) := ⟨h3, h5⟩
                    clear hin2 ho2 et2 h2 h3 h5 hvm hv
                    go_wp2_with (go_at_call 31; refine (next_bad c p q s2 t2 mx v _ hc2 hm2 H2.out.2 H2.out.1 HB.out.1 HB.out.2 HM.out.2 (by rw [H1.out.len]; exact PL.out.2.2.2.2) (ok_le H1.out.ok (by omega)) H1.out.bytes (by rw [H3.out.1]) (by rw [H3.out.1]; exact H3.out.2)).mono ?_; rintro e w10 ⟨rfl, hm10, k10⟩; have hg10 : Chg [] w w10 := hg2.more k10 (by have := PL.out; have := PL2.out; simp; omega); have s10 := k10.size; clear k10)
                    go_roundw
                    case rel => exact ⟨k + 1, t2, L2, 70, by omega, rfl, rfl, by go_num, hL2, H4.out.2.le (by omega), hm10, hg10, by omega, .inr (.inr ⟨rfl, H4.out.1⟩)⟩
                    case measure => simp [intOf]; omega
                · have HB : Hid (mx ≤ openV s2) := by show _ ≤ _; omega
                  clear hin2 ho2 hvm
                  go_wp2_with (go_at_call 31; refine (next_full c p q s2 mx _ _ hc2 hm2 H2.out.1 HB.out).mono ?_; rintro e w10 ⟨rfl, nn, rfl⟩)
                  go_roundw
                  case rel => exact ⟨k + 1, s2, L2, 80, by omega, rfl, rfl, by go_num, hL2, H1.out.le (by omega), hm2, hg2.drewN nn, hsz2, .inr (.inl ⟨rfl, HB.out, hc2⟩)⟩
                  case measure => simp [intOf]; omega
              · have hk5 : k = 4 := by omega
                subst hk5
                clear hin2 ho2
                go_wp2
                go_roundw
                case rel => exact ⟨i + 1, L2, _, s2, by omega, by omega, by go_num, rfl, hL2, hm2, H1.out.le (by omega), hg2, by have := PL2.out; omega⟩
                case measure => simp [intOf]; omega
            · have d1 : decide (openV s2 < mx) = false := by simp; omega
              have d2 : decide (openV s2 < L2) = false := by have := hin2.last; simp; omega
              have H1 : Hid (In s2 true L2 lb (30 * i + 6 + 6 * k)) := hin2
              clear hv2 hin2
              go_wp2_with (go_at_call 33; refine (value_any c p mx _ false _ hc2).mono ?_; rintro e w' ⟨rfl, rfl⟩)
              go_roundw
              case rel => exact ⟨i + 1, L2, _, s2, by omega, by omega, by go_num, rfl, hL2, hm2, H1.out.le (by omega), hg2, by have := PL2.out; omega⟩
              case measure => simp [intOf]; omega
            · go_wp2_with (go_at_call 20; refine (off_any p q s2 _ hm2).mono ?_; rintro e w' ⟨rfl, rfl⟩)
              go_roundw
              case rel => exact ⟨i + 1, L2, _, s2, by omega, by omega, by go_num, rfl, hL2, hm2, hin2.le (by omega), hg2, by have := PL2.out; omega⟩
              case measure => simp [intOf]; omega
        · clear es1 hin1 et hvt hint
          go_wp2_with (first | (go_at_call 21; refine (on_any p q s _ hm).mono ?_; rintro e w6 ⟨rfl, hm6, k⟩; have s6 := k.size; have f6 := k.old (hg.old f1 (by simp)) (by have := PL.out; simp; omega); replace hg := hg.more k (by have := PL.out; simp; omega); clear k) | (go_at_call 18; refine (arm_any p q s.on n _ hm6).mono ?_; rw [H1.out]; rintro e w7 ⟨rfl, hm7, k⟩; have f7 := k.old f6 (by have := PL.out; simp; omega); replace hg := hg.more k (by have := PL.out; simp; omega); have s7 := k.size; clear k) | (go_at_call 32; refine (open_bad p q s1 t mx _ hm7 (by have := PL.out; omega) (ok_le H2.out.ok (by omega)) H2.out.bytes H3.out).mono ?_; rintro e w8 ⟨rfl, hm8, k⟩; have f8 := k.old f7 (by have := PL.out; simp; omega); replace hg := hg.more k (by have := PL.out; simp; omega); have s8 := k.size; clear k))
          go_loopw [12, 9, 13] (fun ve vl vk wr => ve = .int .i64 70 ∧ vl = .int .u32 L ∧ vk = .int .i64 0 ∧ wr = w8) (fun _ _ _ _ => 0)
          case atStart => exact ⟨rfl, rfl, rfl, rfl⟩
          case round =>
            obtain ⟨rfl, rfl, rfl, rfl⟩ := hrel
            go_wp2_with (go_at_call 20; refine (off_any p q t _ hm8).mono ?_; rintro e w' ⟨rfl, rfl⟩)
            go_roundw
            case rel => exact ⟨i + 1, L, _, t, by omega, by omega, by go_num, rfl, hL, hm8, H4.out.2.le (by omega), hg, by omega⟩
            case measure => simp [intOf]; omega
      · have hin1 := hin.on
        obtain ⟨t, e, et, hvt, hot, hint⟩ := hin1.open PL.out.2.2.2.2 (mx := mx) (by have := HM.out; omega)
        have H1 : Hid True := trivial
        have H2 : Hid (In s.on false L lb (30 * i)) := hin1
        have H3 : Hid (openR s.on mx = (t, e)) := et
        have H4 : Hid (openV t = openV s.on ∧ In t false L lb (30 * i + 6)) := ⟨hvt, hint⟩
        rcases hot with ⟨rfl, hot⟩ | ⟨rfl, hot⟩
        · clear hin1 et hvt hint
          go_wp2_with (first | (go_at_call 21; refine (on_any p q s _ hm).mono ?_; rintro e w6 ⟨rfl, hm6, k⟩; have s6 := k.size; have f6 := k.old (hg.old f1 (by simp)) (by have := PL.out; simp; omega); replace hg := hg.more k (by have := PL.out; simp; omega); clear k) | (go_at_call 32; refine (open_ok p q s.on t mx (openV s.on) _ hm6 (by have := PL.out; omega) (ok_le H2.out.ok (by omega)) H2.out.bytes H3.out rfl).mono ?_; rintro e w8 ⟨c, rfl, hc8, hcl, hm8, k⟩; have f8 := k.old f6 (by have := PL.out; simp; omega); replace hg := hg.more k (by have := PL.out; simp; omega); have s8 := k.size; clear k))
          have s9 := hc8.lt
          rw [← H4.out.1] at hc8
          have PL2 : Hid (w.heap.size ≤ c ∧ p < c ∧ q < c ∧ c < w8.heap.size ∧ w5.heap.size ≤ w8.heap.size) := by have := PL.out; show _ ∧ _; omega
          clear f6 s6 s8 s9 hcl hm hin
          go_loopw [12, 9, 13] (fun ve vl vk wr => ∃ (k : Nat) (s2 : MS) (L2 e : Int), k ≤ 4 ∧ ve = .int .i64 e ∧ vl = .int .u32 L2 ∧ vk = .int .i64 k ∧ 0 ≤ L2 ∧ In s2 false L2 lb (30 * i + 6 + 6 * k) ∧ IsMem wr p q s2 ∧ Chg [] w wr ∧ w8.heap.size ≤ wr.heap.size ∧ Cs wr c p mx s2 e) (fun _ _ k _ => 4 - (intOf k).toNat)
          case atStart => exact ⟨0, t, L, 0, by omega, rfl, rfl, rfl, hL, by simpa using H4.out.2, hm8, hg, Nat.le_refl _, .inl ⟨rfl, hot, hc8⟩⟩
          case round =>
            obtain ⟨k, s2, L2, e, hk, rfl, rfl, rfl, hL2, hin2, hm2, hg2, hsz2, hcs⟩ := hrel
            have f9 := hg2.old f1 (by simp)
            clear f8 hm8 hc8 hot H1 H2 H3 H4
            rcases hcs with ⟨rfl, ho2, hc2⟩ | ⟨rfl, hv2, hc2⟩ | ⟨rfl, ho2⟩
            · have hv0 := (openV_bd hin2.bytes).1
              have hv1 := hin2.last
              have H1 : Hid (In s2 false L2 lb (30 * i + 6 + 6 * k)) := hin2
              have H2 : Hid (s2.off = false ∧ c ≠ q) := ⟨ho2, by have := PL2.out; omega⟩
              by_cases hk4 : k < 4
              · have hk4' : (k : Int) < 4 := by omega
                have d1 : decide ((k : Int) < 4) = true := by simpa using hk4'
                by_cases hvm : openV s2 < mx
                · obtain ⟨t2, e2, et2, hr⟩ := hin2.next PL.out.2.2.2.2 rfl hvm HM.out.2
                  obtain ⟨v, hv⟩ : ∃ v, openV s2 = v := ⟨_, rfl⟩
                  rw [hv] at hc2 hv0 hv1 hvm hr et2
                  have e3 : decide (v + 1 ≤ L2) = false := by simp; omega
                  have e4 : decide (mx < v + 1) = false := by simp; omega
                  have HB : Hid (v < mx ∧ 0 ≤ v) := ⟨hvm, hv0⟩
                  rcases hr with ⟨rfl, h3, h4, h5⟩ | ⟨h2, h3, h5⟩
                  · have H3 : Hid (nextR s2 v = (t2, 0)) := et2
                    have H4 : Hid (t2.off = false ∧ openV t2 = v + 1 ∧ In t2 false (v + 1) lb (30 * i + 6 + 6 * k + 6)) := ⟨h3, h4, h5⟩
                    clear hin2 ho2 et2 h3 h4 h5 hvm hv
                    go_wp2_with (first | (go_at_call 31; refine (next_ok c p q s2 t2 mx v _ hc2 hm2 H2.out.2 H2.out.1 HB.out.1 HB.out.2 HM.out.2 (by rw [H1.out.len]; exact PL.out.2.2.2.2) (ok_le H1.out.ok (by omega)) H1.out.bytes H3.out).mono ?_; rintro e w10 ⟨rfl, hc10, hm10, k10⟩; have hg10 : Chg [] w w10 := hg2.more k10 (by have := PL.out; have := PL2.out; simp; omega); have s10 := k10.size; clear k10) | (go_at_call 33; refine (value_any c p mx _ false _ hc10).mono ?_; rintro e w' ⟨rfl, rfl⟩))
                    go_roundw
                    case rel => exact ⟨k + 1, t2, v + 1, 0, by omega, rfl, rfl, by go_num, by have := HB.out; omega, H4.out.2.2.le (by omega), hm10, hg10, by omega, .inl ⟨rfl, H4.out.1, by rw [H4.out.2.1]; exact hc10⟩⟩
                    case measure => simp [intOf]; omega
                  · have H3 : Hid (nextR s2 v = (t2, e2) ∧ e2 ≠ 0) := ⟨et2, h2⟩
                    have H4 : Hid (t2.off = true ∧ In t2 false L2 lb (30 * i + 6 + 6 * k + 6)) := ⟨h3, h5⟩
                    clear hin2 ho2 et2 h2 h3 h5 hvm hv
                    go_wp2_with (go_at_call 31; refine (next_bad c p q s2 t2 mx v _ hc2 hm2 H2.out.2 H2.out.1 HB.out.1 HB.out.2 HM.out.2 (by rw [H1.out.len]; exact PL.out.2.2.2.2) (ok_le H1.out.ok (by omega)) H1.out.bytes (by rw [H3.out.1]) (by rw [H3.out.1]; exact H3.out.2)).mono ?_; rintro e w10 ⟨rfl, hm10, k10⟩; have hg10 : Chg [] w w10 := hg2.more k10 (by have := PL.out; have := PL2.out; simp; omega); have s10 := k10.size; clear k10)
                    go_roundw
                    case rel => exact ⟨k + 1, t2, L2, 70, by omega, rfl, rfl, by go_num, hL2, H4.out.2.le (by omega), hm10, hg10, by omega, .inr (.inr ⟨rfl, H4.out.1⟩)⟩
                    case measure => simp [intOf]; omega
                · have HB : Hid (mx ≤ openV s2) := by show _ ≤ _; omega
                  clear hin2 ho2 hvm
                  go_wp2_with (go_at_call 31; refine (next_full c p q s2 mx _ _ hc2 hm2 H2.out.1 HB.out).mono ?_; rintro e w10 ⟨rfl, nn, rfl⟩)
                  go_roundw
                  case rel => exact ⟨k + 1, s2, L2, 80, by omega, rfl, rfl, by go_num, hL2, H1.out.le (by omega), hm2, hg2.drewN nn, hsz2, .inr (.inl ⟨rfl, HB.out, hc2⟩)⟩
                  case measure => simp [intOf]; omega
              · have hk5 : k = 4 := by omega
                subst hk5
                clear hin2 ho2
                go_wp2
                go_roundw
                case rel => exact ⟨i + 1, L2, _, s2, by omega, by omega, by go_num, rfl, hL2, hm2, H1.out.le (by omega), hg2, by have := PL2.out; omega⟩
                case measure => simp [intOf]; omega
            · have d1 : decide (openV s2 < mx) = false := by simp; omega
              have d2 : decide (openV s2 < L2) = false := by have := hin2.last; simp; omega
              have H1 : Hid (In s2 false L2 lb (30 * i + 6 + 6 * k)) := hin2
              clear hv2 hin2
              go_wp2_with (go_at_call 33; refine (value_any c p mx _ false _ hc2).mono ?_; rintro e w' ⟨rfl, rfl⟩)
              go_roundw
              case rel => exact ⟨i + 1, L2, _, s2, by omega, by omega, by go_num, rfl, hL2, hm2, H1.out.le (by omega), hg2, by have := PL2.out; omega⟩
              case measure => simp [intOf]; omega
            · have := hin2.pow rfl
              rw [ho2] at this
              cases this
        · have := hint.pow rfl
          rw [hot] at this
          cases this
    · go_wp2
      all_goals
        go_ret
        exact ⟨rfl, hg⟩

theorem rises_out (ab : Option Addr) (lb cb : Nat) (mx : Int) (as_ : Option Addr) (ls cs : Nat) (w : World) (h : lb < 10 ∨ 100 < lb ∨ mx = 0) :
    Calls Try.prog 10 #[.slice ab lb cb, .int .u32 mx, .slice as_ ls cs] w fun e w' => e = .returned (.bool true) ∧ Chg [] w w' := by
  go_enter Try.func10, Try.ntmps10
  by_cases h1 : lb < 10
  · have hd1 : decide ((lb : Int) < 10) = true := by simp; omega
    go_wp2_with (go_at_call 30; refine (awake8_any _).mono ?_; rintro e w1 ⟨rfl, g1⟩)
    go_ret
    exact ⟨rfl, g1⟩
  · have hd1 : decide ((lb : Int) < 10) = false := by simp; omega
    by_cases h2 : 100 < lb
    · have hd2 : decide ((100 : Int) < (lb : Int)) = true := by simp; omega
      go_wp2_with (go_at_call 30; refine (awake8_any _).mono ?_; rintro e w1 ⟨rfl, g1⟩)
      go_ret
      exact ⟨rfl, g1⟩
    · have hd2 : decide ((100 : Int) < (lb : Int)) = false := by simp; omega
      obtain rfl : mx = 0 := by omega
      go_wp2_with (go_at_call 30; refine (awake8_any _).mono ?_; rintro e w1 ⟨rfl, g1⟩)
      go_ret
      exact ⟨rfl, g1⟩

set_option maxRecDepth 100000 in
theorem rises_all {H : Type} {enc : TypeId × Value → H} {W : World} (mx : Int) {v1 v2 : Value} {d1 d2 : DataW H} {p1 p2 : List MemPlace} {r1 r2 : Reach} {b1 b2 : Nat}
    (hv1 : Value.okWide Try.prog W r1 b1 22 v1) (h1 : DataW.Trod enc Try.prog W 0 (fun _ => true) true 22 v1 d1 p1) (hsz : ∀ n ∈ d1.weights Try.prog 22, n ≤ reachBytes) (hm0 : 0 ≤ mx) (hm1 : mx ≤ 4294967295)
    (hv2 : Value.okWide Try.prog W r2 b2 35 v2) (h2 : DataW.Trod enc Try.prog W 0 (fun _ => true) true 35 v2 d2 p2) :
    Calls Try.prog 10 #[v1, .int .u32 mx, v2] W fun e w' => e = .returned (.bool true) ∧ Chg [] W w' := by
  obtain ⟨a, m, c, xs, rfl, hl, hm, hb, hx⟩ := bytes_open hv1 h1 hsz
  obtain ⟨as_, ls, cs, zs, rfl, hs⟩ := ints_open hv2 h2
  by_cases h : m < 10 ∨ 100 < m ∨ mx = 0
  · exact rises_out a m c mx as_ ls cs W h
  · exact rises_true a m c xs mx as_ ls cs zs W hl (by omega) (by omega) hb (by omega) hm1 hx (fun h0 => let ⟨b, off, e, hc⟩ := hs h0; ⟨b, off, e, fun i hi => (hc i hi).1⟩)

end Go.Proofs.Ytcmhalmmaodmhaa
