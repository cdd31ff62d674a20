/-
  DERIVED. The walk of the judge's rule, whole.
-/
import Derived.Test.YtmggfdhlbjlpjaaRuleA
import Derived.Test.YtmggfdhlbjlpjaaRuleB
namespace Go.Proofs.Ytmggfdhlbjlpjaa
open Go.RowKit
set_option linter.unusedSimpArgs false
set_option linter.unusedVariables false

set_option maxRecDepth 1000000 in
set_option maxHeartbeats 8000000 in
theorem rule_out (j n cap : Nat) (a : Option Addr) (f : FactP) (vf : Value) (w : World) (hj : w.cell? ⟨j, 0, none⟩ = some (.slice a n cap)) (hf : ∃ a' c', vf = .slice a' f.data.length c') (hn : ¬ f.In n) :
    Calls Try.prog 18 #[.pointer (some ⟨j, 0, none⟩), factV f vf] w fun e w' => e = .returned (.int .i64 1) ∧ Fr No w w' := by
  obtain ⟨kind, conn, side, sess, number, on, code, data⟩ := f
  obtain ⟨a', cap', rfl⟩ := hf
  unfold FactP.In at hn
  dsimp only at hn
  show Calls Try.prog 18 #[.pointer (some ⟨j, 0, none⟩), .agg #[.int .i64 kind, .int .i64 conn, .int .i64 side, .int .u32 sess, .int .u32 number, .bool on, .int .i64 code, .slice a' data.length cap']] w _
  have hltj := lt_of_cell? hj
  dsimp only at hltj
  have K0 : Fr No w (w.alloc (.cells #[.int .i64 kind, .int .i64 conn, .int .i64 side, .int .u32 sess, .int .u32 number, .bool on, .int .i64 code, .slice a' data.length cap'] 43)) := (Fr.refl No w).alloc _
  have HK := Lib.hid K0
  clear K0
  by_cases h1 : kind < 1
  · have h1' : decide (kind < 1) = true := by simpa using h1
    clear hn
    go_enter Try.func18, Try.ntmps18
    go_wp2
    go_quiet (fail)
    go_wp2
    go_ret
    exact ⟨rfl, HK.out.drewN _⟩
  · have h1' : decide (kind < 1) = false := by simpa using h1
    by_cases h2 : 8 < kind
    · have h2' : decide (8 < kind) = true := by simpa using h2
      clear hn
      go_enter Try.func18, Try.ntmps18
      go_wp2
      go_quiet (fail)
      go_wp2
      go_ret
      exact ⟨rfl, HK.out.drewN _⟩
    · have h2' : decide (8 < kind) = false := by simpa using h2
      by_cases h3 : conn < 0
      · have h3' : decide (conn < 0) = true := by simpa using h3
        clear hn
        go_enter Try.func18, Try.ntmps18
        go_wp2
        go_quiet (fail)
        go_wp2
        go_ret
        exact ⟨rfl, HK.out.drewN _⟩
      · have h3' : decide (conn < 0) = false := by simpa using h3
        by_cases h4 : (n : Int) ≤ conn
        · have h4' : decide ((n : Int) ≤ conn) = true := by simpa using h4
          clear hn
          go_enter Try.func18, Try.ntmps18
          go_wp2
          go_quiet (fail)
          go_wp2
          go_ret
          exact ⟨rfl, HK.out.drewN _⟩
        · have h4' : decide ((n : Int) ≤ conn) = false := by simpa using h4
          have h5 : (side == 1) = false := by simp; omega
          have h6 : (side == 2) = false := by simp; omega
          have h7 : (side != 1) = true := by simp [bne, h5]
          have h8 : (side != 2) = true := by simp [bne, h6]
          clear hn
          go_enter Try.func18, Try.ntmps18
          go_wp2
          go_quiet (fail)
          go_wp2
          go_ret
          exact ⟨rfl, HK.out.drewN _⟩

/-- No counter wraps, no value is too long. -/
def JP.Ok (st : JP) (N : Int) : Prop := ∀ i (h : i < st.lines.length), (st.lines[i].e0.Ok N ∧ st.lines[i].e0.value.length ≤ 140737488351232) ∧ (st.lines[i].e1.Ok N ∧ st.lines[i].e1.value.length ≤ 140737488351232)

set_option maxRecDepth 100000 in
theorem rule_any (O O' : Nat → Prop) (j : Nat) (st : JP) (f : FactP) (vf : Value) (N : Int) (w : World) (hj : IsJ w O j st) (hf : Bs w O' vf f.data) (hd : ∀ b, O' b → ¬ O b) (hlen : f.data.length ≤ 140737488351232) (hfo : f.Ok) (hok : st.Ok N) (hN : N ≤ 2000) :
    Calls Try.prog 18 #[.pointer (some ⟨j, 0, none⟩), factV f vf] w fun e w' => e = .returned (.int .i64 (st.judge f).2) ∧ IsJ w' (Grow O w w') j (st.judge f).1 ∧ Fr O w w' := by
  obtain ⟨g1, g2, a, cap, g3, g4⟩ := id hj
  have hcell : w.cell? ⟨j, 0, none⟩ = some (.slice a st.lines.length cap) := g3.cell 0
  by_cases hin : f.In st.lines.length
  · obtain ⟨k1, k8, c0, c1, hs⟩ := hin
    obtain ⟨q, cs, mb, rfl, hL⟩ := g4 (by omega)
    obtain ⟨i, hi⟩ : ∃ i : Nat, f.conn = i := ⟨f.conn.toNat, by omega⟩
    have hi2 : i < st.lines.length := by omega
    have hl := hL.at_ i hi2
    have hline : st.line i = st.lines[i] := by simp [JP.line, hi2]
    have hjg : st.judge f = ({ st with lines := st.lines.set i (st.lines[i].see f).1 }, (st.lines[i].see f).2) := by
      unfold JP.judge
      rw [if_pos ⟨k1, k8, c0, c1, hs⟩, hi]
      simp [hline]
    rw [hjg]
    obtain ⟨⟨ok0, len0⟩, ⟨ok1, len1⟩⟩ := hok i hi2
    have hqO : ¬ O' q := fun h => hd q h hL.o
    have fin : Calls Try.prog 18 #[.pointer (some ⟨j, 0, none⟩), factV f vf] w fun e w' => e = .returned (.int .i64 (st.lines[i].see f).2) ∧ LineTo w w' O q cs (i * 22) (mb i) (st.lines[i].see f).1 := by
      have hk : f.kind = 1 ∨ f.kind = 2 ∨ f.kind = 3 ∨ f.kind = 4 ∨ f.kind = 5 ∨ f.kind = 6 ∨ f.kind = 7 ∨ f.kind = 8 := by omega
      rcases hs with hs | hs
      · rcases hk with hk | hk | hk | hk | hk | hk | hk | hk
        · exact rule_k1_s1 O O' j q cap _ i (mb i) f _ vf cs w hcell hL.b hl hf hi2 hi hk hs
        · exact rule_k2_s1 O O' j q cap _ i (mb i) f _ vf cs w hcell hL.b hl hf hi2 hi hk hs hlen hqO
        · exact rule_k3_s1 O O' j q cap _ i (mb i) f _ vf cs w hcell hL.b hl hf hi2 hi hk hs
        · exact rule_k4_s1 O O' j q cap _ i (mb i) f _ vf cs w hcell hL.b hl hf hi2 hi hk hs
        · exact rule_k5_s1 O O' j q cap _ i (mb i) f _ vf cs w hcell hL.b hl hf hi2 hi hk hs N ok0 hN hfo.number
        · exact rule_k6_s1 O O' j q cap _ i (mb i) f _ vf cs w hcell hL.b hl hf hi2 hi hk hs
        · exact rule_k7_s1 O O' j q cap _ i (mb i) f _ vf cs w hcell hL.b hl hf hi2 hi hk hs
        · exact rule_k8_s1 O O' j q cap _ i (mb i) f _ vf cs w hcell hL.b hl hf hi2 hi hk hs len0 hlen
      · rcases hk with hk | hk | hk | hk | hk | hk | hk | hk
        · exact rule_k1_s2 O O' j q cap _ i (mb i) f _ vf cs w hcell hL.b hl hf hi2 hi hk hs
        · exact rule_k2_s2 O O' j q cap _ i (mb i) f _ vf cs w hcell hL.b hl hf hi2 hi hk hs hlen hqO
        · exact rule_k3_s2 O O' j q cap _ i (mb i) f _ vf cs w hcell hL.b hl hf hi2 hi hk hs
        · exact rule_k4_s2 O O' j q cap _ i (mb i) f _ vf cs w hcell hL.b hl hf hi2 hi hk hs
        · exact rule_k5_s2 O O' j q cap _ i (mb i) f _ vf cs w hcell hL.b hl hf hi2 hi hk hs N ok1 hN hfo.number
        · exact rule_k6_s2 O O' j q cap _ i (mb i) f _ vf cs w hcell hL.b hl hf hi2 hi hk hs
        · exact rule_k7_s2 O O' j q cap _ i (mb i) f _ vf cs w hcell hL.b hl hf hi2 hi hk hs
        · exact rule_k8_s2 O O' j q cap _ i (mb i) f _ vf cs w hcell hL.b hl hf hi2 hi hk hs len1 hlen
    refine fin.mono ?_
    rintro e w' ⟨rfl, cs', t1, t2, t3, t4⟩
    refine ⟨rfl, IsJ.put g1 g2 g3 rfl hL i hi2 _ t4 t1 t2 t3, t4.wide ?_⟩
    rintro x (rfl | rfl) _
    · exact hL.o
    · exact hl.om
  · have hjg : st.judge f = (st, 1) := by unfold JP.judge; rw [if_neg hin]
    rw [hjg]
    obtain ⟨a', c', hv, _⟩ := hf
    refine (rule_out j _ cap a f vf w hcell ⟨a', c', hv⟩ hin).mono ?_
    rintro e w' ⟨rfl, k⟩
    refine ⟨rfl, ?_, k.no _⟩
    have := hj.keep k fun _ _ h => h
    obtain ⟨h1, h2, a, cap, h3, h4⟩ := this
    refine ⟨?_, .inl h2, a, cap, h3, fun hl => ?_⟩
    · rintro b (hb | hb)
      · exact h1 b hb
      · exact hb.2
    · obtain ⟨q, cs, mb, ha, hL⟩ := h4 hl
      exact ⟨q, cs, mb, ha, hL.keep (Fr.refl No _) (fun _ _ h => h) fun _ h => .inl h⟩

end Go.Proofs.Ytmggfdhlbjlpjaa
