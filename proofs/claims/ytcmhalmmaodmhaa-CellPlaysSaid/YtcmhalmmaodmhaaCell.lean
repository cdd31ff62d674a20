/-
  DERIVED. The walks of package cell: a slot read.
-/
import Derived.Test.YtcmhalmmaodmhaaMade
namespace Go.Proofs.Ytcmhalmmaodmhaa
open Go.RowKit
set_option linter.unusedSimpArgs false
set_option linter.unusedVariables false

theorem or_shift (x c : Int) (h0 : 0 ≤ x) (h1 : x < 16777216) (h2 : 0 ≤ c) (h3 : c ≤ 255) : bits .or .u32 (x * 256) c = x * 256 + c := by
  rw [u32_or _ _ (by omega) (by omega) h2 (by omega)]
  obtain ⟨a, rfl⟩ : ∃ a : Nat, x = (a : Int) := ⟨x.toNat, by omega⟩
  obtain ⟨b, rfl⟩ : ∃ b : Nat, c = (b : Int) := ⟨c.toNat, by omega⟩
  have e1 : ((a : Int) * 256).toNat = 2 ^ 8 * a := by omega
  have e2 : (b : Int).toNat = b := by omega
  rw [e1, e2, ← Nat.two_pow_add_eq_or_of_lt (by omega : b < 2 ^ 8)]
  omega

theorem or_zero (c : Int) (h2 : 0 ≤ c) (h3 : c ≤ 255) : bits .or .u32 0 c = c := by
  have := or_shift 0 c (by omega) (by omega) h2 h3
  simpa using this

set_option maxRecDepth 1000000 in
set_option maxHeartbeats 1000000 in
theorem cread_any (p q k : Nat) (s : MS) (w : World) (h : IsMem w p q s) (hk : k ≤ 1) (hlen : s.B.length ≤ 4096) (hlen2 : 10 ≤ s.B.length) (ho : s.off = false)
    (m c0 c1 c2 c3 : Int) (hm : s.B.getD (5 * k) 0 = m) (h0 : s.B.getD (5 * k + 1) 0 = c0) (h1 : s.B.getD (5 * k + 2) 0 = c1) (h2 : s.B.getD (5 * k + 3) 0 = c2) (h3 : s.B.getD (5 * k + 4) 0 = c3)
    (b0 : 0 ≤ c0 ∧ c0 ≤ 255) (b1 : 0 ≤ c1 ∧ c1 ≤ 255) (b2 : 0 ≤ c2 ∧ c2 ≤ 255) (b3 : 0 ≤ c3 ∧ c3 ≤ 255) :
    Calls Try.prog 46 #[.pointer (some ⟨p, 0, none⟩), .int .i64 k] w fun e w' => e = .returned (.tuple #[.int .u8 m, .int .u32 (c0 * 16777216 + c1 * 65536 + c2 * 256 + c3), .int .i64 0]) ∧ w = w' := by
  have R : ∀ (i : Int) (x : Int) w, IsMem w p q s → 0 ≤ i → i < s.B.length → s.B.getD i.toNat 0 = x → Calls Try.prog 23 #[.pointer (some ⟨p, 0, none⟩), .int .i64 i] w fun e w' => e = .returned (.tuple #[.int .u8 x, .int .i64 0]) ∧ w = w' := by
    intro i x w h hi hi2 hx
    have := read_any p q s i w h hlen
    rw [show s.read i = (x, 0) by unfold MS.read; rw [if_neg (by simp [ho]), if_neg (by omega), hx]] at this
    exact this
  have HR : Hid _ := R
  have e1 := or_zero c0 b0.1 b0.2
  obtain ⟨W2, f2, g2⟩ : ∃ W2, bits .or .u32 (c0 * 256) c1 = W2 ∧ W2 = c0 * 256 + c1 := ⟨_, rfl, or_shift _ _ b0.1 (by omega) b1.1 b1.2⟩
  have l2 : 0 ≤ W2 ∧ W2 ≤ 65535 := by omega
  obtain ⟨W3, f3, g3⟩ : ∃ W3, bits .or .u32 (W2 * 256) c2 = W3 ∧ W3 = W2 * 256 + c2 := ⟨_, rfl, or_shift _ _ l2.1 (by omega) b2.1 b2.2⟩
  have l3 : 0 ≤ W3 ∧ W3 ≤ 16777215 := by omega
  obtain ⟨W4, f4, g4⟩ : ∃ W4, bits .or .u32 (W3 * 256) c3 = W4 ∧ W4 = W3 * 256 + c3 := ⟨_, rfl, or_shift _ _ l3.1 (by omega) b3.1 b3.2⟩
  rw [show c0 * 16777216 + c1 * 65536 + c2 * 256 + c3 = W4 by omega]
  clear g2 g3 g4
  have Hm : Hid _ := hm
  have H0 : Hid _ := h0
  have H1 : Hid _ := h1
  have H2 : Hid _ := h2
  have H3 : Hid _ := h3
  clear R hm h0 h1 h2 h3
  go_enter Try.func46, Try.ntmps46
  go_wp2_with (go_at_call 23; refine (HR.out _ m _ h ?_ ?_ ?_).mono ?_; omega; omega; exact Hm.out ▸ (by congr 1; omega); rintro e w' ⟨rfl, rfl⟩)
  refine wp_loop_rounds 5 ?_
  rw [rounds_succ]
  go_wp2_with (go_at_call 23; refine (HR.out _ c0 _ h ?_ ?_ ?_).mono ?_; omega; omega; exact H0.out ▸ (by congr 1; omega); rintro e w' ⟨rfl, rfl⟩)
  rw [rounds_succ]
  go_wp2_with (go_at_call 23; refine (HR.out _ c1 _ h ?_ ?_ ?_).mono ?_; omega; omega; exact H1.out ▸ (by congr 1; omega); rintro e w' ⟨rfl, rfl⟩)
  rw [rounds_succ]
  go_wp2_with (go_at_call 23; refine (HR.out _ c2 _ h ?_ ?_ ?_).mono ?_; omega; omega; exact H2.out ▸ (by congr 1; omega); rintro e w' ⟨rfl, rfl⟩)
  rw [rounds_succ]
  go_wp2_with (go_at_call 23; refine (HR.out _ c3 _ h ?_ ?_ ?_).mono ?_; omega; omega; exact H3.out ▸ (by congr 1; omega); rintro e w' ⟨rfl, rfl⟩)
  rw [rounds_succ]
  go_wp2
  go_ret3
  exact ⟨rfl, rfl⟩

end Go.Proofs.Ytcmhalmmaodmhaa
