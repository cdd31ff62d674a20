/-
  DERIVED. The walk of CellKeeps.
-/
import Derived.Test.YtcmhalmmaodmhaaExh
namespace Go.Proofs.Ytcmhalmmaodmhaa
open Go.RowKit
set_option linter.unusedSimpArgs false
set_option linter.unusedVariables false

/-- An armed memory with n writes left. -/
structure Armed (s : MS) (n : Nat) : Prop where
  off : s.off = false
  armed : s.armed = true
  left : s.left = n
  len : 10 ≤ s.B.length

theorem Armed.write {s : MS} {n : Nat} (h : Armed s n) {i : Int} (h0 : 0 ≤ i) (h1 : i < 10) (c : Int) :
    (n = 0 → (s.write i c).2 = 70) ∧ (∀ m, n = m + 1 → (s.write i c).2 = 0 ∧ Armed (s.write i c).1 m) := by
  have hl := h.left
  have hn := h.len
  unfold MS.write
  rw [if_neg (by rw [h.off]; decide), if_neg (by omega)]
  constructor
  · intro h0
    rw [if_pos ⟨h.armed, by omega⟩]
  · intro m hm
    rw [if_neg (by intro hh; omega), if_pos h.armed]
    exact ⟨rfl, ⟨h.off, h.armed, by show s.left - 1 = _; omega, by show 10 ≤ (s.B.set _ _).length; rw [List.length_set]; exact hn⟩⟩

theorem Armed.last {s : MS} {n : Nat} (h : Armed s n) {i : Int} (h0 : 0 ≤ i) (h1 : i < 10) (c : Int) : (s.write i c).2 = 0 ↔ 1 ≤ n := by
  have hw := h.write h0 h1 c
  cases n with
  | zero => rw [hw.1 rfl]; omega
  | succ m => rw [(hw.2 m rfl).1]; omega

theorem Armed.then {s : MS} {n j : Nat} (h : Armed s n) {i : Int} (h0 : 0 ≤ i) (h1 : i < 10) (c : Int) {f : MS → MS × Int}
    (hf : ∀ t m, Armed t m → ((f t).2 = 0 ↔ j ≤ m)) : (andThen (s.write i c) f).2 = 0 ↔ j + 1 ≤ n := by
  have hw := h.write h0 h1 c
  unfold andThen
  cases n with
  | zero =>
    rw [if_neg (by rw [hw.1 rfl]; decide), hw.1 rfl]; omega
  | succ m =>
    obtain ⟨e, ha⟩ := hw.2 m rfl
    rw [if_pos e, hf _ m ha]; omega

theorem Armed.wr6 {s : MS} {n : Nat} (h : Armed s n) {k : Nat} (hk : k ≤ 1) (W : Int) : (wr6 s k W).2 = 0 ↔ 6 ≤ n := by
  unfold Go.Proofs.Ytcmhalmmaodmhaa.wr6
  refine h.then (j := 5) (by omega) (by omega) _ fun t m h => ?_
  refine h.then (j := 4) (by omega) (by omega) _ fun t m h => ?_
  refine h.then (j := 3) (by omega) (by omega) _ fun t m h => ?_
  refine h.then (j := 2) (by omega) (by omega) _ fun t m h => ?_
  refine h.then (j := 1) (by omega) (by omega) _ fun t m h => ?_
  exact h.last (by omega) (by omega) _

theorem Armed.next {s : MS} {n : Nat} (h : Armed s n) (v : Int) : (nextR s v).2 = 0 ↔ 6 ≤ n := by
  unfold nextR
  refine h.wr6 ?_ _
  rcases spareP_or s with e | e <;> rw [e] <;> decide

theorem Fine.cut {s : MS} {i : Nat} (h : Fine s i) (hi : i < 1000) {n : Int} (h0 : 0 ≤ n) (h1 : n ≤ 7) : ∃ t r e, s.arm n = (t, 0) ∧ t.off = false ∧ t.B.length = 10 ∧ t.Ok 90000 ∧ t.Bytes ∧ nextR t i = (r, e) ∧ r.B.length = 10 ∧ r.Bytes ∧ r.Ok 90000 ∧
    ((6 ≤ n ∧ e = 0 ∧ openV r = i + 1) ∨ (n < 6 ∧ e ≠ 0 ∧ openV r = i)) := by
  have ea : s.arm n = ({ s with armed := true, left := n }, 0) := by unfold MS.arm; rw [if_neg (by omega)]
  have ha : Armed { s with armed := true, left := n } n.toNat := ⟨h.off, rfl, by show n = _; omega, by show 10 ≤ s.B.length; rw [h.len]; omega⟩
  have hv : openV { s with armed := true, left := n } = i := h.val
  have hb : MS.Bytes { s with armed := true, left := n } := h.bytes
  have hok : MS.Ok { s with armed := true, left := n } (6 * i) := ⟨h0, by show n ≤ _; omega, h.ok.w0, h.ok.w1, h.ok.len⟩
  have hln : ({ s with armed := true, left := n } : MS).B.length = 10 := h.len
  refine ⟨{ s with armed := true, left := n }, ?_⟩
  generalize { s with armed := true, left := n } = t at ea ha hv hb hok hln ⊢
  have hl := next_left (s := t) (by rw [hln]; omega) hb (by rw [hv]; omega)
  have hk := kp_next t (openV t)
  rw [hv] at hl hk
  have hc := ha.next i
  refine ⟨(nextR t i).1, (nextR t i).2, ea, ha.off, hln, ok_le hok (by omega), hb, rfl, by rw [hl.1.len, hln], hl.1.bytes, ok_le (hk.ok _ hok) (by omega), ?_⟩
  rcases hl.2 with ⟨e, v⟩ | ⟨e, v⟩
  · exact .inl ⟨by have := hc.1 e; omega, e, v⟩
  · refine .inr ⟨?_, by rw [e]; decide, v⟩
    by_cases h6 : 6 ≤ n
    · have := hc.2 (by omega); rw [e] at this; cases this
    · omega

/-- A memory with the power on that isn't armed opens. -/
theorem open_plain {s : MS} {mx : Int} (hl : 10 ≤ s.B.length) (hb : s.Bytes) (hm : mx ≠ 0) (ho : s.off = false) (ha : s.armed = false) : ∃ t, openR s mx = (t, 0) := by
  have hl := open_left hl hb hm
  have hp := (kl_open s mx).pow ha
  refine ⟨(openR s mx).1, ?_⟩
  rcases hl.1.pow with ⟨e, _⟩ | ⟨_, o⟩
  · rw [← e]
  · rw [hp, ho] at o; cases o

/-- Next, where the power goes. -/
theorem next_bad (c p q : Nat) (s t : MS) (mx v : Int) (w : World) (hc : IsCell w c p mx v false) (hmem : IsMem w p q s) (hcq : c ≠ q) (ho : s.off = false) (hv : v < mx) (hv0 : 0 ≤ v) (hmx : mx ≤ 4294967295)
    (hlen2 : 10 ≤ s.B.length) (hok : s.Ok 100000) (hb : s.Bytes) (hr : (nextR s v).1 = t) (hr0 : (nextR s v).2 ≠ 0) :
    Calls Try.prog 31 #[.pointer (some ⟨c, 0, none⟩)] w fun e w' => e = .returned (.tuple #[.int .u32 0, .int .i64 70]) ∧ IsMem w' p q t ∧ Chg [p, q, c] w w' := by
  refine (next_some c p q s mx v w hc hmem hcq ho hv hv0 hmx hlen2 hok hb).mono ?_
  rintro e w' ⟨hn, hm, hg⟩
  rw [hr] at hm
  rcases hn with ⟨h0, _⟩ | ⟨_, he, _⟩
  · exact absurd h0 hr0
  · exact ⟨he, hm, hg⟩

set_option maxRecDepth 1000000 in
set_option maxHeartbeats 1000000 in
theorem keeps_law (a b : Int) (w : World) : Calls Try.prog 9 #[.int .i64 a, .int .i64 b] w fun e w' => e = .returned (.bool true) ∧ Chg [] w w' := by
  obtain ⟨m, hm, hm1⟩ : ∃ m : Nat, m = (Int.tmod a 40).toNat ∧ m ≤ 39 := ⟨_, rfl, by have := Int.tmod_lt_of_pos a (show (0 : Int) < 40 by decide); omega⟩
  go_enter Try.func9, Try.ntmps9
  go_wp2_with (first | (go_at_call 30; refine (awake8_any _).mono ?_; rintro e w1 ⟨rfl, hg⟩) | (go_at_call 25; refine (a8_new _).mono ?_; rintro e w2 ⟨p, q, rfl, hmem, hn, k⟩; obtain ⟨n1, n2, n3, n4⟩ := hn; have s1 := hg.size; replace hg := hg.trans k; clear k) | (go_at_call 32; refine (open_ok p q S0 S0 2147483648 0 _ hmem n4 S0_ok.1 S0_ok.2 (S0_openR _ (by decide)) S0_val).mono ?_; clear hmem; rintro e w3 ⟨c, rfl, hc, hl, hmem, k⟩; replace hg := hg.more k (by simp; omega); clear k))
  have s3 := hc.lt
  have PL : Hid (w.heap.size ≤ p ∧ w.heap.size ≤ q ∧ p < c ∧ q < c ∧ c < w3.heap.size) := by show _ ∧ _; omega
  clear n1 n2 n3 n4 hl s1 s3
  have HM : Hid (m = (Int.tmod a 40).toNat) := hm
  go_loopw [8, 9, 10] (fun ve vw vi wr => ∃ (i : Nat) (s : MS), i ≤ m ∧ vi = .int .i64 i ∧ vw = .int .u32 i ∧ ve = .int .i64 0 ∧ IsCell wr c p 2147483648 i false ∧ IsMem wr p q s ∧ Fine s i ∧ Chg [] w wr ∧ w3.heap.size ≤ wr.heap.size) (fun _ _ i _ => m - (intOf i).toNat)
  case atStart => exact ⟨0, S0, Nat.zero_le _, rfl, rfl, rfl, hc, hmem, S0_fine, hg, Nat.le_refl _⟩
  case round =>
    obtain ⟨i, s, hi, rfl, rfl, rfl, hc, hmem, hf, hg, hsz⟩ := hrel
    by_cases hlt : (i : Int) < Int.tmod a 40
    · obtain ⟨t, ht, hft⟩ := hf.next (by omega)
      have H1 : Hid (Fine t (i + 1)) := hft
      have H2 : Hid (nextR s i = (t, 0)) := ht
      have H3 : Hid (Fine s i) := hf
      clear hft ht hf
      go_wp2_with (go_at_call 31; refine (next_ok c p q s t 2147483648 i _ hc hmem (by have := PL.out; omega) H3.out.off (by omega) (by omega) (by omega) (by rw [H3.out.len]; omega) (ok_le H3.out.ok (by omega)) H3.out.bytes H2.out).mono ?_; rintro e w4 ⟨rfl, hc4, hm4, k⟩; have hg4 : Chg [] w w4 := hg.more k (by have := PL.out; simp; omega); have s4 := k.size)
      go_roundw
      case rel => exact ⟨i + 1, t, by omega, by go_num, by go_num, rfl, hc4, hm4, H1.out, hg4, by omega⟩
      case measure => simp [intOf]; omega
    · obtain rfl : i = m := by omega
      by_cases hb : 0 ≤ b
      · obtain ⟨t, r, e, et, t1, t2, t3, t4, er, r1, r2, r3, hr⟩ := hf.cut (i := i) (by omega) (n := b % 8) (by omega) (by omega)
        obtain ⟨u, hu⟩ := open_plain (s := r.on) (mx := 2147483648) (by show 10 ≤ r.B.length; omega) r2 (by decide) rfl rfl
        have hok : r.on.Ok 100000 := ⟨r3.l0, r3.l1, r3.w0, by have := r3.w1; show r.writes ≤ _; omega, r3.len⟩
        have H1 : Hid (t.off = false ∧ 10 ≤ t.B.length ∧ t.Ok 100000 ∧ t.Bytes) := ⟨t1, by omega, ok_le t3 (by omega), t4⟩
        have H2 : Hid (r.on.Ok 100000 ∧ r.on.Bytes ∧ openR r.on 2147483648 = (u, 0)) := ⟨hok, r2, hu⟩
        have H3 : Hid (s.arm (b % 8) = (t, 0)) := et
        have H4 : Hid ((nextR t i).1 = r) := by show _ = _; rw [er]
        have T1 : True := trivial
        rcases hr with ⟨h6, e0, hv⟩ | ⟨h6, e0, hv⟩
        · have H5 : Hid (openV r.on = (i : Int) + 1) := hv
          have H6 : Hid (nextR t i = (r, 0)) := by show _ = _; rw [er, e0]
          clear t1 t2 t3 t4 er r1 r2 r3 hv hu hok et hf e0 hm
          go_wp2_with (first | (go_at_call 18; refine (arm_any p q s (b % 8) _ hmem).mono ?_; rw [H3.out]; rintro e w4 ⟨rfl, hm4, k⟩; have hc4 := k.blk hc (by have := PL.out; simp; omega); replace hg := hg.more k (by have := PL.out; simp; omega); have s4 := k.size; clear k) | (go_at_call 31; refine (next_ok c p q t r 2147483648 i _ hc4 hm4 (by have := PL.out; omega) H1.out.1 (by omega) (by omega) (by omega) H1.out.2.1 H1.out.2.2.1 H1.out.2.2.2 H6.out).mono ?_; rintro e w5 ⟨rfl, hc5, hm5, k⟩; replace hg := hg.more k (by have := PL.out; simp; omega); have s5 := k.size; clear k) | (go_at_call 21; refine (on_any p q r _ hm5).mono ?_; rintro e w6 ⟨rfl, hm6, k⟩; replace hg := hg.more k (by have := PL.out; simp; omega); have s6 := k.size; clear k) | (go_at_call 32; refine (open_ok p q r.on u 2147483648 (i + 1) _ hm6 (by have := PL.out; omega) H2.out.1 H2.out.2.1 H2.out.2.2 H5.out).mono ?_; rintro e w7 ⟨d, rfl, hd, hdl, hm7, k⟩; replace hg := hg.more k (by have := PL.out; simp; omega)) | (go_at_call 33; refine (value_any d p _ _ false _ hd).mono ?_; rintro e w' ⟨rfl, rfl⟩))
          go_ret
          exact ⟨rfl, hg⟩
        · have H5 : Hid (openV r.on = (i : Int)) := hv
          have H6 : Hid ((nextR t i).1 = r ∧ (nextR t i).2 ≠ 0) := by show _ ∧ _; rw [er]; exact ⟨rfl, e0⟩
          clear t1 t2 t3 t4 er r1 r2 r3 hv hu hok et hf e0 hm
          go_wp2_with (first | (go_at_call 18; refine (arm_any p q s (b % 8) _ hmem).mono ?_; rw [H3.out]; rintro e w4 ⟨rfl, hm4, k⟩; have hc4 := k.blk hc (by have := PL.out; simp; omega); replace hg := hg.more k (by have := PL.out; simp; omega); have s4 := k.size; clear k) | (go_at_call 31; refine (next_bad c p q t r 2147483648 i _ hc4 hm4 (by have := PL.out; omega) H1.out.1 (by omega) (by omega) (by omega) H1.out.2.1 H1.out.2.2.1 H1.out.2.2.2 H6.out.1 H6.out.2).mono ?_; rintro e w5 ⟨rfl, hm5, k⟩; replace hg := hg.more k (by have := PL.out; simp; omega); have s5 := k.size; clear k) | (go_at_call 21; refine (on_any p q r _ hm5).mono ?_; rintro e w6 ⟨rfl, hm6, k⟩; replace hg := hg.more k (by have := PL.out; simp; omega); have s6 := k.size; clear k) | (go_at_call 32; refine (open_ok p q r.on u 2147483648 i _ hm6 (by have := PL.out; omega) H2.out.1 H2.out.2.1 H2.out.2.2 H5.out).mono ?_; rintro e w7 ⟨d, rfl, hd, hdl, hm7, k⟩; replace hg := hg.more k (by have := PL.out; simp; omega)) | (go_at_call 33; refine (value_any d p _ _ false _ hd).mono ?_; rintro e w' ⟨rfl, rfl⟩))
          go_ret
          exact ⟨rfl, hg⟩
      · obtain ⟨u, hu⟩ := open_plain (s := s) (mx := 2147483648) (by rw [hf.len]; omega) hf.bytes (by decide) hf.off hf.armed
        have H2 : Hid (s.Ok 100000 ∧ s.Bytes ∧ openR s 2147483648 = (u, 0)) := ⟨ok_le hf.ok (by omega), hf.bytes, hu⟩
        have H5 : Hid (openV s = (i : Int)) := hf.val
        clear hf hu hm
        go_wp2_with (first | (go_at_call 32; refine (open_ok p q s u 2147483648 i _ hmem (by have := PL.out; omega) H2.out.1 H2.out.2.1 H2.out.2.2 H5.out).mono ?_; rintro e w7 ⟨d, rfl, hd, hdl, hm7, k⟩; replace hg := hg.more k (by have := PL.out; simp; omega)) | (go_at_call 33; refine (value_any d p _ _ false _ hd).mono ?_; rintro e w' ⟨rfl, rfl⟩))
        go_ret
        exact ⟨rfl, hg⟩
end Go.Proofs.Ytcmhalmmaodmhaa
