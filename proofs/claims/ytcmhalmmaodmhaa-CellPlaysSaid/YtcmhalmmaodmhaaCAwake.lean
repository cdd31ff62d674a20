/-
  DERIVED. The fixed fact of layer 8; the law of a nil cell.
-/
import Derived.Test.YtcmhalmmaodmhaaCell5
import Derived.Test.YtcmhalmmaodmhaaMade
namespace Go.Proofs.Ytcmhalmmaodmhaa
open Go.RowKit
set_option linter.unusedSimpArgs false
set_option linter.unusedVariables false

theorem cnil_all (w : World) (mx : Int) :
    (Calls Try.prog 31 #[.pointer none] w fun e w' => e = .returned (.tuple #[.int .u32 0, .int .i64 1]) ∧ w = w') ∧
    (Calls Try.prog 32 #[.pointer none, .int .u32 mx] w fun e w' => e = .returned (.tuple #[.pointer none, .int .i64 1]) ∧ w = w') ∧
    (Calls Try.prog 33 #[.pointer none] w fun e w' => e = .returned (.int .u32 0) ∧ w = w') := by
  refine ⟨?_, ?_, ?_⟩
  · go_enter Try.func31, Try.ntmps31
    go_wp2
    go_ret2
    exact ⟨rfl, rfl⟩
  · go_enter Try.func32, Try.ntmps32
    go_wp2
    go_ret2
    exact ⟨rfl, rfl⟩
  · go_enter Try.func33, Try.ntmps33
    go_wp2
    go_ret
    exact ⟨rfl, rfl⟩

def S0 : MS := ⟨[0, 0, 0, 0, 0, 0, 0, 0, 0, 0], false, false, 0, 0⟩
def S1 : MS := ⟨[165, 0, 0, 0, 1, 0, 0, 0, 0, 0], false, false, 0, 6⟩
def S2 : MS := ⟨[165, 0, 0, 0, 1, 165, 0, 0, 0, 2], false, false, 0, 12⟩

theorem S0_open : openR S0 3 = (S0, 0) := by rfl
theorem S0_val : openV S0 = 0 := by rfl
theorem S0_next : nextR S0 0 = (S1, 0) := by rfl
theorem S1_next : nextR S1 1 = (S2, 0) := by rfl
theorem str10 : mkStr S2.B = { data := #[165, 0, 0, 0, 1, 165, 0, 0, 0, 2] } := by rfl

theorem bytes_of {s : MS} (h : ∀ x ∈ s.B, 0 ≤ x ∧ x ≤ 255) : s.Bytes := by
  intro i
  by_cases hi : i < s.B.length
  · have : s.B.getD i 0 = s.B[i] := by simp [List.getD, hi]
    rw [this]; exact h _ (List.getElem_mem hi)
  · have : s.B.getD i 0 = 0 := by simp [List.getD, Nat.le_of_not_lt hi]
    rw [this]; omega

theorem S0_ok : S0.Ok 100000 ∧ S0.Bytes := ⟨⟨by decide, by decide, by decide, by decide, by decide⟩, bytes_of (by decide)⟩
theorem S1_ok : S1.Ok 100000 ∧ S1.Bytes := ⟨⟨by decide, by decide, by decide, by decide, by decide⟩, bytes_of (by decide)⟩
theorem S2_ok : S2.Ok 100000 ∧ S2.Bytes := ⟨⟨by decide, by decide, by decide, by decide, by decide⟩, bytes_of (by decide)⟩

/-- Open, where it goes well. -/
theorem open_ok (p q : Nat) (s t : MS) (mx v : Int) (w : World) (hmem : IsMem w p q s) (hq : q < w.heap.size) (hok : s.Ok 100000) (hb : s.Bytes) (hr : openR s mx = (t, 0)) (hv : openV s = v) :
    Calls Try.prog 32 #[.pointer (some ⟨p, 0, none⟩), .int .u32 mx] w fun e w' => ∃ c, e = .returned (.tuple #[.pointer (some ⟨c, 0, none⟩), .int .i64 0]) ∧ IsCell w' c p mx v false ∧ w.heap.size ≤ c ∧ IsMem w' p q t ∧ Chg [p, q] w w' := by
  refine (open_any p q s mx w hmem hq hok hb).mono ?_
  rintro e w' ⟨ho, hm, hg⟩
  rw [hr] at hm
  rcases ho with ⟨_, c, he, hc, hl⟩ | ⟨hne, _⟩
  · rw [hv] at hc
    exact ⟨c, he, hc, hl, hm, hg⟩
  · rw [hr] at hne; exact absurd rfl hne

/-- Next, where it goes well. -/
theorem next_ok (c p q : Nat) (s t : MS) (mx v : Int) (w : World) (hc : IsCell w c p mx v false) (hmem : IsMem w p q s) (hcq : c ≠ q) (ho : s.off = false) (hv : v < mx) (hv0 : 0 ≤ v) (hmx : mx ≤ 4294967295)
    (hlen2 : 10 ≤ s.B.length) (hok : s.Ok 100000) (hb : s.Bytes) (hr : nextR s v = (t, 0)) :
    Calls Try.prog 31 #[.pointer (some ⟨c, 0, none⟩)] w fun e w' => e = .returned (.tuple #[.int .u32 (v + 1), .int .i64 0]) ∧ IsCell w' c p mx (v + 1) false ∧ IsMem w' p q t ∧ Chg [p, q, c] w w' := by
  refine (next_some c p q s mx v w hc hmem hcq ho hv hv0 hmx hlen2 hok hb).mono ?_
  rintro e w' ⟨hn, hm, hg⟩
  rw [hr] at hm
  rcases hn with ⟨_, he, hc'⟩ | ⟨hne, _⟩
  · exact ⟨he, hc', hm, hg⟩
  · rw [hr] at hne; exact absurd rfl hne

theorem a8_new (w : World) : Calls Try.prog 25 #[.int .i64 10] w fun e w' => ∃ p q, e = .returned (.tuple #[.pointer (some ⟨p, 0, none⟩), .int .i64 0]) ∧ IsMem w' p q S0 ∧ New2 w w' p q ∧ Chg [] w w' :=
  newm 10 w (by omega)
theorem a8_n1 (c p q : Nat) (w : World) (hc : IsCell w c p 3 0 false) (hm : IsMem w p q S0) (hcq : c ≠ q) :
    Calls Try.prog 31 #[.pointer (some ⟨c, 0, none⟩)] w fun e w' => e = .returned (.tuple #[.int .u32 1, .int .i64 0]) ∧ IsCell w' c p 3 1 false ∧ IsMem w' p q S1 ∧ Chg [p, q, c] w w' :=
  next_ok c p q S0 S1 3 0 w hc hm hcq rfl (by omega) (by omega) (by omega) (by decide) S0_ok.1 S0_ok.2 S0_next
theorem a8_n2 (c p q : Nat) (w : World) (hc : IsCell w c p 3 1 false) (hm : IsMem w p q S1) (hcq : c ≠ q) :
    Calls Try.prog 31 #[.pointer (some ⟨c, 0, none⟩)] w fun e w' => e = .returned (.tuple #[.int .u32 2, .int .i64 0]) ∧ IsCell w' c p 3 2 false ∧ IsMem w' p q S2 ∧ Chg [p, q, c] w w' :=
  next_ok c p q S1 S2 3 1 w hc hm hcq rfl (by omega) (by omega) (by omega) (by decide) S1_ok.1 S1_ok.2 S1_next

set_option maxRecDepth 1000000 in
attribute [local irreducible] IsMem IsCell in
theorem awake8_any (w : World) : Calls Try.prog 30 #[] w fun e w' => e = .returned (.bool true) ∧ Chg [] w w' := by
  go_enter Try.func30, Try.ntmps30
  go_wp2_with (first | (go_at_call 25; refine (a8_new _).mono ?_; rintro e w1 ⟨p, q, rfl, hm, hn, hg⟩; obtain ⟨n1, n2, n3, n4⟩ := hn) | (go_at_call 32; refine (open_ok p q S0 S0 3 0 _ hm n4 S0_ok.1 S0_ok.2 S0_open S0_val).mono ?_; clear hm; rintro e w2 ⟨c, rfl, hc, hl, hm, k⟩; replace hg := hg.more k (by simp; omega); clear k; have s2 := hg.size; have tok1 : True := trivial) | (go_at_call 31; have _t := tok1; refine (a8_n1 c p q _ hc hm (by omega)).mono ?_; clear hm hc tok1; rintro e w3 ⟨rfl, hc, hm, k⟩; replace hg := hg.more k (by simp; omega); clear k; have tok2 : True := trivial) | (go_at_call 31; have _t := tok2; refine (a8_n2 c p q _ hc hm (by omega)).mono ?_; clear hm hc tok2; rintro e w4 ⟨rfl, hc, hm, k⟩; replace hg := hg.more k (by simp; omega); clear k) | (go_at_call 33; refine (value_any c p 3 2 false _ hc).mono ?_; rintro e w' ⟨rfl, rfl⟩) | (go_at_call 16; refine (bytes_any p q S2 _ hm (by decide)).mono ?_; rintro e w5 ⟨v, rfl, ⟨r, hb, hr⟩, k⟩; have hcv := conv_run hb; rw [str10] at hcv; replace hg := hg.trans k; clear k))
  go_ret
  exact ⟨rfl, hg⟩

theorem cnil_law (mx : Int) (w : World) : Calls Try.prog 7 #[.int .u32 mx] w fun e w' => e = .returned (.bool true) ∧ Chg [] w w' := by
  go_enter Try.func7, Try.ntmps7
  go_wp2_with (first | (go_at_call 30; refine (awake8_any _).mono ?_; rintro e w1 ⟨rfl, hg⟩) | (go_at_call 31; refine (cnil_all _ mx).1.mono ?_; rintro e w' ⟨rfl, rfl⟩) | (go_at_call 32; refine (cnil_all _ mx).2.1.mono ?_; rintro e w' ⟨rfl, rfl⟩) | (go_at_call 33; refine (cnil_all _ mx).2.2.mono ?_; rintro e w' ⟨rfl, rfl⟩))
  go_ret
  exact ⟨rfl, hg⟩

end Go.Proofs.Ytcmhalmmaodmhaa
