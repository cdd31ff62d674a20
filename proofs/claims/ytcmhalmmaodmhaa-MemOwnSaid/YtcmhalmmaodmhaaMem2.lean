/-
  DERIVED. The walks of package mem, more: Arm, On, Write, Read, Bytes, New, Load.
-/
import Derived.Test.YtcmhalmmaodmhaaMem
namespace Go.Proofs.Ytcmhalmmaodmhaa
open Go.RowKit
set_option linter.unusedSimpArgs false
set_option linter.unusedVariables false

theorem arm_any (p q : Nat) (s : MS) (n : Int) (w : World) (h : IsMem w p q s) :
    Calls Try.prog 18 #[.pointer (some ⟨p, 0, none⟩), .int .i64 n] w fun e w' => e = .returned (.int .i64 (s.arm n).2) ∧ IsMem w' p q (s.arm n).1 ∧ Chg [p, q] w w' := by
  obtain ⟨a, cap, c0, c1, c2, c3, c4, hf, hb, hl, hr⟩ := h.cells
  by_cases hn : n < 0
  · have e1 : s.arm n = (s, 2) := by simp [MS.arm, hn]
    rw [e1]
    go_enter Try.func18, Try.ntmps18
    go_wp2
    go_ret
    exact ⟨rfl, h, Chg.refl _ _⟩
  · have e1 : s.arm n = ({ s with armed := true, left := n }, 0) := by simp [MS.arm, hn]
    rw [e1]
    go_enter Try.func18, Try.ntmps18
    go_wp2
    go_ret
    refine ⟨rfl, ⟨a, cap, (hb.set' 2 _ rfl).set' 3 _ rfl, hl, fun h0 => ⟨(hr h0).1, ((hr h0).2.1.other _ _ ?_).other _ _ ?_⟩⟩, ((Chg.refl [p, q] w).setCell ?_ _).setCell ?_ _⟩
    · exact fun e => (hr h0).2.2 e.symm
    · exact fun e => (hr h0).2.2 e.symm
    · simp
    · simp

theorem on_any (p q : Nat) (s : MS) (w : World) (h : IsMem w p q s) :
    Calls Try.prog 21 #[.pointer (some ⟨p, 0, none⟩)] w fun e w' => e = .returned (.tuple #[]) ∧ IsMem w' p q s.on ∧ Chg [p, q] w w' := by
  obtain ⟨a, cap, c0, c1, c2, c3, c4, hf, hb, hl, hr⟩ := h.cells
  have c1' : (w.setCell ⟨p, 2, none⟩ (.bool false)).cell? ⟨p, 1, none⟩ = some (.int .u32 (offW s.off)) := by
    rw [(hb.set' 2 (.bool false) rfl).cell 1]; rfl
  have f1' : (w.setCell ⟨p, 2, none⟩ (.bool false)).frozen? ⟨p, 1, none⟩ = false := (hb.set' 2 (.bool false) rfl).free 1
  go_enter Try.func21, Try.ntmps21
  go_wp2_with (go_at_call 41; refine (bstore_any p false _ _ c1' f1').mono ?_; rintro e w' ⟨rfl, rfl⟩)
  go_end0
  refine ⟨rfl, ⟨a, cap, ((hb.set' 2 _ rfl).set' 1 _ rfl).drew, hl, fun h0 => ⟨(hr h0).1, ?_⟩⟩, ((((Chg.refl [p, q] w).setCell ?_ _).setCell ?_ _)).drew⟩
  · have := ((hr h0).2.1.other (⟨p, 2, none⟩ : Addr) (.bool false) (fun e => (hr h0).2.2 e.symm)).other (⟨p, 1, none⟩ : Addr) (.int .u32 (offW false)) (fun e => (hr h0).2.2 e.symm)
    exact this.keep ((Chg.refl [] _).drew) (by simp)
  · simp
  · simp

theorem read_any (p q : Nat) (s : MS) (i : Int) (w : World) (h : IsMem w p q s) (hlen : s.B.length ≤ 4096) :
    Calls Try.prog 23 #[.pointer (some ⟨p, 0, none⟩), .int .i64 i] w fun e w' => e = .returned (.tuple #[.int .u8 (s.read i).1, .int .i64 (s.read i).2]) ∧ w = w' := by
  obtain ⟨a, cap, c0, c1, c2, c3, c4, hf, hb, hl, hr⟩ := h.cells
  by_cases h1 : s.off = true
  · have e1 : s.read i = (0, 70) := by simp [MS.read, h1]
    rw [e1]
    go_enter Try.func23, Try.ntmps23
    go_wp2_with (go_at_call 40; refine (bload_any p s.off _ c1).mono ?_; rintro e w' ⟨rfl, rfl⟩)
    go_ret2
    exact ⟨rfl, rfl⟩
  · have h1' : s.off = false := by simpa using h1
    by_cases h2 : i < 0
    · have e1 : s.read i = (0, 2) := by simp [MS.read, h1', h2]
      rw [e1]
      go_enter Try.func23, Try.ntmps23
      go_wp2_with (go_at_call 40; refine (bload_any p s.off _ c1).mono ?_; rintro e w' ⟨rfl, rfl⟩)
      go_ret2
      exact ⟨rfl, rfl⟩
    · by_cases h3 : (s.B.length : Int) ≤ i
      · have e1 : s.read i = (0, 2) := by simp [MS.read, h1', h3]
        rw [e1]
        go_enter Try.func23, Try.ntmps23
        go_wp2_with (go_at_call 40; refine (bload_any p s.off _ c1).mono ?_; rintro e w' ⟨rfl, rfl⟩)
        go_ret2
        exact ⟨rfl, rfl⟩
      · have e1 : s.read i = (s.B.getD i.toNat 0, 0) := by simp [MS.read, h1', h2, h3]
        rw [e1]
        obtain ⟨rfl, hrow, hpq⟩ := hr (by omega)
        have hc := hrow.cell (i := i.toNat) (by omega)
        obtain ⟨x, hx⟩ : ∃ x, x = s.B.getD i.toNat 0 := ⟨_, rfl⟩
        rw [← hx] at hc ⊢
        clear hx
        go_enter Try.func23, Try.ntmps23
        go_wp2_with (go_at_call 40; refine (bload_any p s.off _ c1).mono ?_; rintro e w' ⟨rfl, rfl⟩)
        go_ret2
        exact ⟨rfl, rfl⟩

theorem write_any (p q : Nat) (s : MS) (i c : Int) (w : World) (h : IsMem w p q s) (hlen : s.B.length ≤ 4096) (hl0 : 0 ≤ s.left) (hl1 : s.left ≤ 9223372036854775807) (hw0 : 0 ≤ s.writes) (hw1 : s.writes ≤ 1000000000) :
    Calls Try.prog 19 #[.pointer (some ⟨p, 0, none⟩), .int .i64 i, .int .u8 c] w fun e w' => e = .returned (.int .i64 (s.write i c).2) ∧ IsMem w' p q (s.write i c).1 ∧ Chg [p, q] w w' := by
  obtain ⟨a, cap, c0, c1, c2, c3, c4, hf, hb, hl, hr⟩ := h.cells
  have f3 := hf 3
  have f4 := hf 4
  have f1 := hf 1
  clear hf
  by_cases h1 : s.off = true
  · have e1 : s.write i c = (s, 70) := by simp [MS.write, h1]
    rw [e1]
    go_enter Try.func19, Try.ntmps19
    go_wp2_with (go_at_call 40; refine (bload_any p s.off _ c1).mono ?_; rintro e w' ⟨rfl, rfl⟩)
    go_ret
    exact ⟨rfl, h, Chg.refl _ _⟩
  · have h1' : s.off = false := by simpa using h1
    by_cases h2 : i < 0
    · have e1 : s.write i c = (s, 2) := by simp [MS.write, h1', h2]
      rw [e1]
      go_enter Try.func19, Try.ntmps19
      go_wp2_with (go_at_call 40; refine (bload_any p s.off _ c1).mono ?_; rintro e w' ⟨rfl, rfl⟩)
      go_ret
      exact ⟨rfl, h, Chg.refl _ _⟩
    · by_cases h3 : (s.B.length : Int) ≤ i
      · have e1 : s.write i c = (s, 2) := by simp [MS.write, h1', h3]
        rw [e1]
        go_enter Try.func19, Try.ntmps19
        go_wp2_with (go_at_call 40; refine (bload_any p s.off _ c1).mono ?_; rintro e w' ⟨rfl, rfl⟩)
        go_ret
        exact ⟨rfl, h, Chg.refl _ _⟩
      · obtain ⟨rfl, hrow, hpq⟩ := hr (by omega)
        have hil : i.toNat < s.B.length := by omega
        have hcq := hrow.cell (i := i.toNat) hil
        have hfq := hrow.free i.toNat
        by_cases h4 : s.armed = true
        · by_cases h5 : s.left = 0
          · have e1 : s.write i c = ({ s with off := true }, 70) := by simp [MS.write, h1', h2, h3, h4, h5]
            rw [e1]
            go_enter Try.func19, Try.ntmps19
            go_wp2_with (first | (go_at_call 40; refine (bload_any p s.off _ c1).mono ?_; rintro e w' ⟨rfl, rfl⟩) | (go_at_call 41; refine (bstore_any p true _ _ c1 f1).mono ?_; rintro e w' ⟨rfl, rfl⟩))
            go_ret
            refine ⟨rfl, ⟨_, cap, (hb.set' 1 _ rfl).drew, hl, fun h0 => ⟨rfl, (hrow.other _ _ (fun e => hpq e.symm)).keep (Chg.refl [] _).drew (by simp)⟩⟩, ((Chg.refl [p, q] w).setCell (by simp) _).drew⟩
          · have e1 : s.write i c = ({ s with B := s.B.set i.toNat c, left := s.left - 1, writes := s.writes + 1 }, 0) := by simp [MS.write, h1', h2, h3, h4, h5]
            rw [e1]
            have hb1 : Blk (w.setCell ⟨p, 3, none⟩ (.int .i64 (s.left - 1))) p _ 85 := hb.set' 3 _ rfl
            go_enter Try.func19, Try.ntmps19
            go_wp2_with (first | (go_at_call 40; refine (bload_any p s.off _ c1).mono ?_; rintro e w' ⟨rfl, rfl⟩) | (go_at_call 41; refine (bstore_any p true _ _ c1 f1).mono ?_; rintro e w' ⟨rfl, rfl⟩))
            go_ret
            have hr1 := hrow.other (⟨p, 3, none⟩ : Addr) (.int .i64 (s.left - 1)) (fun e => hpq e.symm)
            have hr2 := (hr1.set i.toNat c hil).other (⟨p, 4, none⟩ : Addr) (.int .i64 (s.writes + 1)) (fun e => hpq e.symm)
            have hb2 := (hb1.other (⟨q, i.toNat, none⟩ : Addr) (.int .u8 c) hpq).set' 4 (.int .i64 (s.writes + 1)) rfl
            exact ⟨rfl, ⟨_, cap, by simpa [memCells] using hb2, by simpa using hl, fun h0 => ⟨rfl, hr2⟩⟩, (((Chg.refl [p, q] w).setCell (by simp) _).setCell (by simp) _).setCell (by simp) _⟩
        · have h4' : s.armed = false := by simpa using h4
          have e1 : s.write i c = ({ s with B := s.B.set i.toNat c, writes := s.writes + 1 }, 0) := by simp [MS.write, h1', h2, h3, h4']
          rw [e1]
          go_enter Try.func19, Try.ntmps19
          go_wp2_with (first | (go_at_call 40; refine (bload_any p s.off _ c1).mono ?_; rintro e w' ⟨rfl, rfl⟩) | (go_at_call 41; refine (bstore_any p true _ _ c1 f1).mono ?_; rintro e w' ⟨rfl, rfl⟩))
          go_ret
          have hr2 := (hrow.set i.toNat c hil).other (⟨p, 4, none⟩ : Addr) (.int .i64 (s.writes + 1)) (fun e => hpq e.symm)
          have hb2 := (Blk.other hb (⟨q, i.toNat, none⟩ : Addr) (.int .u8 c) hpq).set' 4 (.int .i64 (s.writes + 1)) rfl
          exact ⟨rfl, ⟨_, cap, by simpa [memCells] using hb2, by simpa using hl, fun h0 => ⟨rfl, hr2⟩⟩, ((Chg.refl [p, q] w).setCell (by simp) _).setCell (by simp) _⟩

end Go.Proofs.Ytcmhalmmaodmhaa
