/-
  DERIVED. The walk of CellExhausts.
-/
import Derived.Test.YtcmhalmmaodmhaaCPure3
import Derived.Test.YtcmhalmmaodmhaaCAwake
namespace Go.Proofs.Ytcmhalmmaodmhaa
open Go.RowKit
set_option linter.unusedSimpArgs false
set_option linter.unusedVariables false

/-- A memory of ten bytes that isn't armed, behind i numbers. -/
structure Fine (s : MS) (i : Nat) : Prop where
  off : s.off = false
  armed : s.armed = false
  len : s.B.length = 10
  bytes : s.Bytes
  writes : s.writes = 6 * i
  ok : s.Ok (6 * i)
  val : openV s = i

theorem Fine.next {s : MS} {i : Nat} (h : Fine s i) (hi : i < 1000) : ∃ t, nextR s i = (t, 0) ∧ Fine t (i + 1) := by
  have hl := next_left (s := s) (by rw [h.len]; omega) h.bytes (by rw [h.val]; omega)
  have hk := kp_next s (openV s)
  rw [h.val] at hl hk
  obtain ⟨l, hv⟩ := hl
  have hp := hk.pow h.armed
  have e : (nextR s (i : Int)).2 = 0 := by
    rcases l.pow with ⟨e, _⟩ | ⟨_, o⟩
    · exact e
    · rw [hp, h.off] at o; cases o
  refine ⟨(nextR s (i : Int)).1, by rw [← e], ⟨hp.trans h.off, hk.armed.trans h.armed, l.len.trans h.len, l.bytes, ?_, ?_, ?_⟩⟩
  · have := hk.eq e; have := h.writes; omega
  · exact ok_le (hk.ok _ h.ok) (by omega)
  · rcases hv with ⟨_, v⟩ | ⟨e2, _⟩
    · rw [v]; omega
    · rw [e] at e2; cases e2

theorem Fine.open {s : MS} {i : Nat} {mx : Int} (h : Fine s i) (hm : mx ≠ 0) : ∃ t, openR s mx = (t, 0) ∧ t.writes ≤ 6 * i + 6 ∧ 6 * i ≤ t.writes := by
  have hl := open_left (s := s) (mx := mx) (by rw [h.len]; omega) h.bytes hm
  have hk := kl_open s mx
  have hp := hk.pow h.armed
  have e : (openR s mx).2 = 0 := by
    rcases hl.1.pow with ⟨e, _⟩ | ⟨_, o⟩
    · exact e
    · rw [hp, h.off] at o; cases o
  refine ⟨(openR s mx).1, by rw [← e], ?_, ?_⟩
  · have := hk.hi; have := h.writes; omega
  · have := hk.lo; have := h.writes; omega

theorem S0_fine : Fine S0 0 := ⟨rfl, rfl, rfl, S0_ok.2, rfl, ⟨by decide, by decide, by decide, by decide, by decide⟩, rfl⟩

theorem S0_openR (mx : Int) (h : mx ≠ 0) : openR S0 mx = (S0, 0) := by
  unfold openR
  rw [if_neg (by intro h'; rcases h' with h' | h'; exact h h'; exact absurd h' (by decide)), if_neg (by decide)]
  rfl

set_option maxRecDepth 1000000 in
set_option maxHeartbeats 1000000 in
theorem exh_law (a : Int) (w : World) (h0 : 0 ≤ a) (h1 : a ≤ 4294967295) : Calls Try.prog 8 #[.int .u32 a] w fun e w' => e = .returned (.bool true) ∧ Chg [] w w' := by
  obtain ⟨m, hm, hm1, hm2⟩ : ∃ m : Nat, a % 30 + 1 = (m : Int) ∧ 1 ≤ m ∧ m ≤ 30 := ⟨(a % 30 + 1).toNat, by omega, by omega, by omega⟩
  have hmz : (m : Int) ≠ 0 := by omega
  go_enter Try.func8, Try.ntmps8
  go_wp2_with (first | (go_at_call 30; refine (awake8_any _).mono ?_; rintro e w1 ⟨rfl, hg⟩) | (go_at_call 25; refine (a8_new _).mono ?_; rintro e w2 ⟨p, q, rfl, hmem, hn, k⟩; obtain ⟨n1, n2, n3, n4⟩ := hn; have s1 := hg.size; replace hg := hg.trans k; clear k) | (go_at_call 32; refine (open_ok p q S0 S0 m 0 _ hmem n4 S0_ok.1 S0_ok.2 (S0_openR m hmz) S0_val).mono ?_; clear hmem; rintro e w3 ⟨c, rfl, hc, hl, hmem, k⟩; replace hg := hg.more k (by simp; omega); clear k))
  have s3 := hc.lt
  have PL : Hid (w.heap.size ≤ p ∧ w.heap.size ≤ q ∧ p < c ∧ q < c ∧ c < w3.heap.size) := by show _ ∧ _; omega
  clear n1 n2 n3 n4 hl s1 s3
  go_loopw [6, 7] (fun ve vi wr => ∃ (i : Nat) (s : MS), i ≤ m ∧ vi = .int .u32 i ∧ ve = .int .i64 0 ∧ IsCell wr c p m i false ∧ IsMem wr p q s ∧ Fine s i ∧ Chg [] w wr ∧ w3.heap.size ≤ wr.heap.size) (fun _ i _ => m - (intOf i).toNat)
  case atStart => exact ⟨0, S0, Nat.zero_le _, rfl, rfl, hc, hmem, S0_fine, hg, Nat.le_refl _⟩
  case round =>
    obtain ⟨i, s, hi, rfl, rfl, hc, hmem, hf, hg, hsz⟩ := hrel
    by_cases hlt : i < m
    · obtain ⟨t, ht, hft⟩ := hf.next (by omega)
      have hcast : (i : Int) < (m : Int) := by omega
      have H1 : Hid (Fine t (i + 1)) := hft
      have H2 : Hid (nextR s i = (t, 0)) := ht
      have H3 : Hid (Fine s i) := hf
      clear hft ht hf
      go_wp2_with (go_at_call 31; refine (next_ok c p q s t m i _ hc hmem (by have := PL.out; omega) H3.out.off hcast (by omega) (by omega) (by rw [H3.out.len]; omega) (ok_le H3.out.ok (by omega)) H3.out.bytes H2.out).mono ?_; rintro e w4 ⟨rfl, hc4, hm4, k⟩; have hg4 : Chg [] w w4 := hg.more k (by have := PL.out; simp; omega); have s4 := k.size)
      go_roundw
      case rel => exact ⟨i + 1, t, by omega, by go_num, rfl, hc4, hm4, H1.out, hg4, by omega⟩
      case measure => simp [intOf]; omega
    · obtain rfl : i = m := by omega
      obtain ⟨t, ht, ht1, ht2⟩ := hf.open hmz
      have hW := hf.writes
      have H2 : Hid (openR s i = (t, 0)) := ht
      have H3 : Hid (Fine s i) := hf
      have hd7 : decide (t.writes - s.writes < 7) = true := by simp; omega
      have T1 : True := trivial
      have T2 : True := trivial
      have hv0 : openV s = (i : Int) := H3.out.val
      have HV : Hid (openV s = (i : Int)) := hv0
      have HW : Hid (s.writes = 6 * i ∧ t.writes = t.writes) := ⟨H3.out.writes, rfl⟩
      have HD : Hid (wrap64 ((t.writes : Int) - 6 * (i : Int)) < 7) := by show _ < _; have := H3.out.writes; unfold wrap64; omega
      clear ht hf hd7 hW hv0 ht1 ht2
      go_wp2_with (first | (go_at_call 22; have _t := T1; refine (writes_any p q s _ hmem).mono ?_; clear T1; rintro e w' ⟨rfl, rfl⟩; rw [HW.out.1]) | (go_at_call 31; refine (next_full c p q s i i _ (by assumption) hmem H3.out.off (Int.le_refl _)).mono ?_; rintro e w4 ⟨rfl, nn, rfl⟩) | (go_at_call 32; refine (open_ok p q s t i i (wr.drewN nn) hmem (by have := PL.out; have : wr.heap.size ≤ (wr.drewN nn).heap.size := Nat.le_refl _; omega) (ok_le H3.out.ok (by omega)) H3.out.bytes H2.out HV.out).mono ?_; rintro e w5 ⟨d, rfl, hd, hdl, hm5, k⟩; have hc5 := k.blk hc (by have := PL.out; simp; omega); replace hg := (hg.drewN nn).more k (by have := PL.out; simp; omega)) | (go_at_call 33; have _t := T2; refine (value_any c p i i false _ hc5).mono ?_; clear T2; rintro e w' ⟨rfl, rfl⟩) | (go_at_call 33; refine (value_any d p i i false _ hd).mono ?_; rintro e w' ⟨rfl, rfl⟩) | (go_at_call 22; refine (writes_any p q t _ hm5).mono ?_; rintro e w' ⟨rfl, rfl⟩))
      · go_ret
        exact ⟨rfl, hg⟩

end Go.Proofs.Ytcmhalmmaodmhaa
