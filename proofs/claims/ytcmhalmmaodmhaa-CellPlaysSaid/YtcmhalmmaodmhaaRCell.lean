/-
  DERIVED. The walks of the document's cell (parapetref08): holds, word, value, write.
-/
import Derived.Test.YtcmhalmmaodmhaaCell5
namespace Go.Proofs.Ytcmhalmmaodmhaa
open Go.RowKit
set_option linter.unusedSimpArgs false
set_option linter.unusedVariables false

theorem or_pow (a b : Int) (k : Nat) (h0 : 0 ≤ a) (h1 : a * 2 ^ k < 4294967296) (h2 : 0 ≤ b) (h3 : b < 2 ^ k) (h4 : (2 : Int) ^ k ≤ 4294967296) : bits .or .u32 (a * 2 ^ k) b = a * 2 ^ k + b := by
  have hp : (0 : Int) ≤ 2 ^ k := Int.le_of_lt (Int.pow_pos (by omega))
  have hn : 0 ≤ a * 2 ^ k := Int.mul_nonneg h0 hp
  rw [u32_or _ _ hn h1 h2 (by omega)]
  obtain ⟨x, rfl⟩ : ∃ x : Nat, a = (x : Int) := ⟨a.toNat, by omega⟩
  obtain ⟨y, rfl⟩ : ∃ y : Nat, b = (y : Int) := ⟨b.toNat, by omega⟩
  have hc : ((x : Int) * 2 ^ k).toNat = 2 ^ k * x := by
    rw [show ((x : Int) * 2 ^ k) = ((2 ^ k * x : Nat) : Int) by push_cast; rw [Int.mul_comm]]
    exact Int.toNat_natCast _
  have hy : y < 2 ^ k := by
    have : (y : Int) < ((2 ^ k : Nat) : Int) := by push_cast; exact h3
    exact Int.ofNat_lt.1 this
  rw [hc, Int.toNat_natCast, ← Nat.two_pow_add_eq_or_of_lt hy]
  push_cast
  rw [Int.mul_comm]

theorem or_w1 (a b : Int) (h0 : 0 ≤ a ∧ a ≤ 255) (h1 : 0 ≤ b ∧ b ≤ 255) : bits .or .u32 (a * 16777216) (b * 65536) = a * 16777216 + b * 65536 := by
  have := or_pow a (b * 65536) 24 h0.1 (by omega) (by omega) (by omega) (by omega)
  simpa using this
theorem or_w2 (x c : Int) (h0 : 0 ≤ x ∧ x ≤ 65535) (h1 : 0 ≤ c ∧ c ≤ 255) : bits .or .u32 (x * 65536) (c * 256) = x * 65536 + c * 256 := by
  have := or_pow x (c * 256) 16 h0.1 (by omega) (by omega) (by omega) (by omega)
  simpa using this
theorem or_w3 (x c : Int) (h0 : 0 ≤ x ∧ x ≤ 16777215) (h1 : 0 ≤ c ∧ c ≤ 255) : bits .or .u32 (x * 256) c = x * 256 + c := by
  have := or_pow x c 8 h0.1 (by omega) (by omega) (by omega) (by omega)
  simpa using this

set_option maxRecDepth 1000000 in
theorem word_any (q off n cap : Nat) (c0 c1 c2 c3 : Int) (w : World) (hn : 4 ≤ n) (hn' : n ≤ 100) (h0 : w.cell? ⟨q, off, none⟩ = some (.int .u8 c0)) (h1 : w.cell? ⟨q, off + 1, none⟩ = some (.int .u8 c1)) (h2 : w.cell? ⟨q, off + 2, none⟩ = some (.int .u8 c2)) (h3 : w.cell? ⟨q, off + 3, none⟩ = some (.int .u8 c3))
    (b0 : 0 ≤ c0 ∧ c0 ≤ 255) (b1 : 0 ≤ c1 ∧ c1 ≤ 255) (b2 : 0 ≤ c2 ∧ c2 ≤ 255) (b3 : 0 ≤ c3 ∧ c3 ≤ 255) :
    Calls Try.prog 55 #[.slice (some ⟨q, off, none⟩) n cap] w fun e w' => e = .returned (.int .u32 (c0 * 16777216 + c1 * 65536 + c2 * 256 + c3)) ∧ ∃ n, w' = w.drewN n := by
  have e1 : bits .or .u32 (c0 * 16777216) (c1 * 65536) = c0 * 16777216 + c1 * 65536 := or_w1 c0 c1 b0 b1
  obtain ⟨X1, g1⟩ : ∃ X1, X1 = c0 * 16777216 + c1 * 65536 := ⟨_, rfl⟩
  rw [← g1] at e1
  obtain ⟨X2, g2⟩ : ∃ X2, X2 = X1 + c2 * 256 := ⟨_, rfl⟩
  have e2 : bits .or .u32 X1 (c2 * 256) = X2 := by
    have := or_w2 (c0 * 256 + c1) c2 (by omega) b2
    rw [show (c0 * 256 + c1) * 65536 = X1 by omega] at this
    rw [this, g2]
  obtain ⟨X3, g3⟩ : ∃ X3, X3 = X2 + c3 := ⟨_, rfl⟩
  have e3 : bits .or .u32 X2 c3 = X3 := by
    have := or_w3 (c0 * 65536 + c1 * 256 + c2) c3 (by omega) b3
    rw [show (c0 * 65536 + c1 * 256 + c2) * 256 = X2 by omega] at this
    rw [this, g3]
  rw [show c0 * 16777216 + c1 * 65536 + c2 * 256 + c3 = X3 by omega]
  have i0 : (0 : Int) < (n : Int) := by omega
  have i1 : (1 : Int) < (n : Int) := by omega
  have i2 : (2 : Int) < (n : Int) := by omega
  have i3 : (3 : Int) < (n : Int) := by omega
  have s0 : IntKind.u32.wrap (c0 * 16777216) = c0 * 16777216 := IntWalk.u32_in _ (by omega)
  have s1 : IntKind.u32.wrap (c1 * 65536) = c1 * 65536 := IntWalk.u32_in _ (by omega)
  have s2 : IntKind.u32.wrap (c2 * 256) = c2 * 256 := IntWalk.u32_in _ (by omega)
  have t0 : IntKind.u32.wrap c0 = c0 := IntWalk.u32_in _ (by omega)
  have t1 : IntKind.u32.wrap c1 = c1 := IntWalk.u32_in _ (by omega)
  have t2 : IntKind.u32.wrap c2 = c2 := IntWalk.u32_in _ (by omega)
  have t3 : IntKind.u32.wrap c3 = c3 := IntWalk.u32_in _ (by omega)
  clear g1 g2 g3
  go_enter Try.func55, Try.ntmps55
  go_wp2
  go_quiet (fail)
  go_wp2
  go_ret
  exact ⟨rfl, _, rfl⟩

end Go.Proofs.Ytcmhalmmaodmhaa
