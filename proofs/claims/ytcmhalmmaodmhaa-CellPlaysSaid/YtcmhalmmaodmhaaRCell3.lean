/-
  DERIVED. The walks of the document's cell: value, Open, Next.
-/
import Derived.Test.YtcmhalmmaodmhaaRCell2
import Derived.Test.YtcmhalmmaodmhaaCPure2
namespace Go.Proofs.Ytcmhalmmaodmhaa
open Go.RowKit
set_option linter.unusedSimpArgs false
set_option linter.unusedVariables false

/-- The greatest word, slot by slot. -/
def vstep (v m x : Int) : Int := if m = 165 ∧ v < x then x else v

theorem vstep_value {m0 m1 w0 w1 : Int} (h0 : 0 ≤ w0) (h1 : 0 ≤ w1) : vstep (vstep 0 m0 w0) m1 w1 = valueP m0 m1 w0 w1 := by
  unfold vstep valueP
  repeat' split
  all_goals omega

theorem vstep_no {v m x : Int} (h : m ≠ 165) : vstep v m x = v := by unfold vstep; rw [if_neg (fun h' => h h'.1)]
theorem vstep_lt {v m x : Int} (h : m = 165) (hv : v < x) : vstep v m x = x := by unfold vstep; rw [if_pos ⟨h, hv⟩]
theorem vstep_le {v m x : Int} (hv : ¬ v < x) : vstep v m x = v := by unfold vstep; rw [if_neg (fun h' => hv h'.2)]

/-- Only the tape of draws may differ. -/
def Dr (a b : World) : Prop := ∃ n, b = a.drewN n
theorem Dr.refl (a : World) : Dr a a := ⟨0, rfl⟩
theorem Dr.trans {a b c : World} (h : Dr a b) (k : Dr b c) : Dr a c := by
  obtain ⟨n, rfl⟩ := h
  obtain ⟨m, rfl⟩ := k
  exact ⟨n + m, by rw [World.drewN_drewN]⟩
theorem Dr.ref {a b : World} {p q : Nat} {s : MS} (h : Dr a b) (k : IsRef a p q s) : IsRef b p q s := by
  obtain ⟨n, rfl⟩ := h; exact k
theorem Dr.chg {a b : World} (h : Dr a b) (bs : List Nat) : Chg bs a b := by
  obtain ⟨n, rfl⟩ := h; exact (Chg.refl bs a).drewN n

set_option maxRecDepth 1000000 in
theorem rvalue_any (p q : Nat) (s : MS) (w : World) (h : IsRef w p q s) (hlen2 : 10 ≤ s.B.length) (hlen : s.B.length ≤ 4096) (hb : s.Bytes) :
    Calls Try.prog 48 #[.pointer (some ⟨p, 0, none⟩)] w fun e w' => e = .returned (.int .u32 (openV s)) ∧ ∃ n, w' = w.drewN n := by
  have b0 := wd_bd hb 0
  have b1 := wd_bd hb 1
  have E := vstep_value (m0 := mk s 0) (m1 := mk s 1) b0.1 b1.1
  have HE : Hid (openV s = vstep (vstep 0 (mk s 0) (wd s 0)) (mk s 1) (wd s 1)) := by show _ = _; rw [E]; rfl
  have HH : ∀ (k : Nat) (w1 : World), k ≤ 1 → IsRef w1 p q s → Calls Try.prog 49 #[.pointer (some ⟨p, 0, none⟩), .int .i64 k] w1 fun e w' => e = .returned (.bool (mk s k == 165)) ∧ w1 = w' :=
    fun k w1 hk h => rholds_any p q k s w1 h hk hlen2 hlen
  have HW : ∀ (k : Nat) (w1 : World), k ≤ 1 → IsRef w1 p q s → Calls Try.prog 51 #[.pointer (some ⟨p, 0, none⟩), .int .i64 k] w1 fun e w' => e = .returned (.int .u32 (wd s k)) ∧ Dr w1 w' :=
    fun k w1 hk h => rword_any p q k s w1 h hk hlen2 hlen hb
  clear b0 b1 E
  obtain ⟨V, hV⟩ : ∃ V : Nat → Int, V = fun k => if k = 0 then 0 else if k = 1 then vstep 0 (mk s 0) (wd s 0) else openV s := ⟨_, rfl⟩
  have V0 : V 0 = 0 := by rw [hV]; rfl
  have VS : Hid (∀ k, k < 2 → V (k + 1) = vstep (V k) (mk s k) (wd s k)) := by
    intro k hk
    rcases (show k = 0 ∨ k = 1 by omega) with rfl | rfl
    · rw [hV]; rfl
    · rw [hV]; exact HE.out
  have V2 : V 2 = openV s := by rw [hV]; rfl
  clear hV
  go_enter Try.func48, Try.ntmps48
  go_wp2
  go_loopw [3, 4] (fun vv vk wr => ∃ (k : Nat), k ≤ 2 ∧ vk = .int .i64 k ∧ vv = .int .u32 (V k) ∧ Dr w wr) (fun _ k _ => 2 - (intOf k).toNat)
  case atStart => exact ⟨0, by omega, rfl, by rw [V0], Dr.refl w⟩
  case round =>
    obtain ⟨k, hk, rfl, rfl, hd⟩ := hrel
    by_cases hlt : k < 2
    · have hk' : (k : Int) < 2 := by omega
      have hs := VS.out k hlt
      have hr : IsRef wr p q s := hd.ref h
      have T1 : True := trivial
      by_cases hm : mk s k = 165
      · by_cases hv : V k < wd s k
        · rw [vstep_lt hm hv] at hs
          go_wp2_with (first | (go_at_call 49; refine (HH k _ (by omega) hr).mono ?_; rintro e w1 ⟨rfl, rfl⟩) | (go_at_call 51; have _t := T1; refine (HW k _ (by omega) hr).mono ?_; clear T1; rintro e w1 ⟨rfl, hd1⟩; have hr1 := hd1.ref hr; have hd1' := hd.trans hd1; clear hd1) | (go_at_call 51; refine (HW k _ (by omega) hr1).mono ?_; rintro e w2 ⟨rfl, hd2⟩; have hd2' := hd1'.trans hd2; clear hd2))
          go_roundw
          case rel => exact ⟨k + 1, by omega, by go_num, by rw [hs], hd2'⟩
          case measure => simp [intOf]; omega
        · rw [vstep_le hv] at hs
          go_wp2_with (first | (go_at_call 49; refine (HH k _ (by omega) hr).mono ?_; rintro e w1 ⟨rfl, rfl⟩) | (go_at_call 51; have _t := T1; refine (HW k _ (by omega) hr).mono ?_; clear T1; rintro e w1 ⟨rfl, hd1⟩; have hr1 := hd1.ref hr; have hd1' := hd.trans hd1; clear hd1) | (go_at_call 51; refine (HW k _ (by omega) hr1).mono ?_; rintro e w2 ⟨rfl, hd2⟩; have hd2' := hd1'.trans hd2; clear hd2))
          go_roundw
          case rel => exact ⟨k + 1, by omega, by go_num, by rw [hs], hd1'⟩
          case measure => simp [intOf]; omega
      · rw [vstep_no hm] at hs
        go_wp2_with (first | (go_at_call 49; refine (HH k _ (by omega) hr).mono ?_; rintro e w1 ⟨rfl, rfl⟩) | (go_at_call 51; have _t := T1; refine (HW k _ (by omega) hr).mono ?_; clear T1; rintro e w1 ⟨rfl, hd1⟩; have hr1 := hd1.ref hr; have hd1' := hd.trans hd1; clear hd1) | (go_at_call 51; refine (HW k _ (by omega) hr1).mono ?_; rintro e w2 ⟨rfl, hd2⟩; have hd2' := hd1'.trans hd2; clear hd2))
        go_roundw
        case rel => exact ⟨k + 1, by omega, by go_num, by rw [hs], hd⟩
        case measure => simp [intOf]; omega
    · obtain rfl : k = 2 := by omega
      go_wp2
      go_ret
      rw [V2]
      exact ⟨rfl, hd⟩
end Go.Proofs.Ytcmhalmmaodmhaa
