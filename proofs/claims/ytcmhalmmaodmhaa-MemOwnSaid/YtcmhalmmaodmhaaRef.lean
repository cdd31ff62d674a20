/-
  DERIVED. The walks of the document's memory (parapetref07).
-/
import Derived.Test.YtcmhalmmaodmhaaMem3
namespace Go.Proofs.Ytcmhalmmaodmhaa
open Go.RowKit
set_option linter.unusedSimpArgs false
set_option linter.unusedVariables false

def refCells (a : Option Addr) (cap : Nat) (s : MS) : Array Value :=
  #[.slice a s.B.length cap, .bool s.off, .bool s.armed, .int .i64 s.left, .int .i64 s.writes]

/-- Block p is the document's memory in this state; its bytes lie in block q. -/
def IsRef (w : World) (p q : Nat) (s : MS) : Prop := ∃ a cap, Blk w p (refCells a cap s) 70 ∧ s.B.length ≤ cap ∧ (0 < s.B.length → a = some ⟨q, 0, none⟩ ∧ Row w q s.B)

theorem IsRef.lt {w : World} {p q : Nat} {s : MS} (h : IsRef w p q s) : p < w.heap.size := let ⟨_, _, hb, _⟩ := h; hb.lt
theorem IsRef.keep {bs : List Nat} {w w' : World} {p q : Nat} {s : MS} (h : IsRef w p q s) (k : Chg bs w w') (hp : p ∉ bs) (hq : q ∉ bs) : IsRef w' p q s :=
  let ⟨a, cap, hb, hl, hr⟩ := h; ⟨a, cap, k.blk hb hp, hl, fun h0 => ⟨(hr h0).1, (hr h0).2.keep k hq⟩⟩

theorem IsRef.cells {w : World} {p q : Nat} {s : MS} (h : IsRef w p q s) : ∃ a cap,
    w.cell? ⟨p, 0, none⟩ = some (.slice a s.B.length cap) ∧ w.cell? ⟨p, 1, none⟩ = some (.bool s.off) ∧ w.cell? ⟨p, 2, none⟩ = some (.bool s.armed) ∧
    w.cell? ⟨p, 3, none⟩ = some (.int .i64 s.left) ∧ w.cell? ⟨p, 4, none⟩ = some (.int .i64 s.writes) ∧ (∀ i, w.frozen? ⟨p, i, none⟩ = false) ∧
    Blk w p (refCells a cap s) 70 ∧ s.B.length ≤ cap ∧ (0 < s.B.length → a = some ⟨q, 0, none⟩ ∧ Row w q s.B ∧ p ≠ q) :=
  let ⟨a, cap, hb, hl, hr⟩ := h
  ⟨a, cap, hb.cell 0, hb.cell 1, hb.cell 2, hb.cell 3, hb.cell 4, hb.free, hb, hl, fun h0 => ⟨(hr h0).1, (hr h0).2, let ⟨_, hq, _⟩ := (hr h0).2; hb.unlike hq (by decide)⟩⟩

theorem rarm_any (p q : Nat) (s : MS) (n : Int) (w : World) (h : IsRef w p q s) :
    Calls Try.prog 36 #[.pointer (some ⟨p, 0, none⟩), .int .i64 n] w fun e w' => e = .returned (.int .i64 (s.arm n).2) ∧ IsRef w' p q (s.arm n).1 ∧ Chg [p, q] w w' := by
  obtain ⟨a, cap, c0, c1, c2, c3, c4, hf, hb, hl, hr⟩ := h.cells
  by_cases hn : n < 0
  · have e1 : s.arm n = (s, 2) := by simp [MS.arm, hn]
    rw [e1]
    go_enter Try.func36, Try.ntmps36
    go_wp2
    go_ret
    exact ⟨rfl, h, Chg.refl _ _⟩
  · have e1 : s.arm n = ({ s with armed := true, left := n }, 0) := by simp [MS.arm, hn]
    rw [e1]
    go_enter Try.func36, Try.ntmps36
    go_wp2
    go_ret
    refine ⟨rfl, ⟨a, cap, (hb.set' 2 _ rfl).set' 3 _ rfl, hl, fun h0 => ⟨(hr h0).1, ((hr h0).2.1.other _ _ ?_).other _ _ ?_⟩⟩, ((Chg.refl [p, q] w).setCell ?_ _).setCell ?_ _⟩
    · exact fun e => (hr h0).2.2 e.symm
    · exact fun e => (hr h0).2.2 e.symm
    · simp
    · simp

theorem ron_any (p q : Nat) (s : MS) (w : World) (h : IsRef w p q s) :
    Calls Try.prog 37 #[.pointer (some ⟨p, 0, none⟩)] w fun e w' => e = .returned (.tuple #[]) ∧ IsRef w' p q s.on ∧ Chg [p, q] w w' := by
  obtain ⟨a, cap, c0, c1, c2, c3, c4, hf, hb, hl, hr⟩ := h.cells
  go_enter Try.func37, Try.ntmps37
  go_wp2
  go_end0
  refine ⟨rfl, ⟨a, cap, (hb.set' 1 _ rfl).set' 2 _ rfl, hl, fun h0 => ⟨(hr h0).1, ((hr h0).2.1.other _ _ ?_).other _ _ ?_⟩⟩, ((Chg.refl [p, q] w).setCell ?_ _).setCell ?_ _⟩
  · exact fun e => (hr h0).2.2 e.symm
  · exact fun e => (hr h0).2.2 e.symm
  · simp
  · simp

theorem rread_any (p q : Nat) (s : MS) (i : Int) (w : World) (h : IsRef w p q s) (hlen : s.B.length ≤ 4096) :
    Calls Try.prog 43 #[.pointer (some ⟨p, 0, none⟩), .int .i64 i] w fun e w' => e = .returned (.tuple #[.int .u8 (s.read i).1, .int .i64 (s.read i).2]) ∧ w = w' := by
  obtain ⟨a, cap, c0, c1, c2, c3, c4, hf, hb, hl, hr⟩ := h.cells
  by_cases h1 : s.off = true
  · have e1 : s.read i = (0, 70) := by simp [MS.read, h1]
    rw [e1]
    go_enter Try.func43, Try.ntmps43
    go_wp2
    go_ret2
    exact ⟨rfl, rfl⟩
  · have h1' : s.off = false := by simpa using h1
    by_cases h2 : i < 0
    · have e1 : s.read i = (0, 2) := by simp [MS.read, h1', h2]
      rw [e1]
      go_enter Try.func43, Try.ntmps43
      go_wp2
      go_ret2
      exact ⟨rfl, rfl⟩
    · by_cases h3 : (s.B.length : Int) ≤ i
      · have e1 : s.read i = (0, 2) := by simp [MS.read, h1', h3]
        rw [e1]
        go_enter Try.func43, Try.ntmps43
        go_wp2
        go_ret2
        exact ⟨rfl, rfl⟩
      · have e1 : s.read i = (s.B.getD i.toNat 0, 0) := by simp [MS.read, h1', h2, h3]
        rw [e1]
        obtain ⟨rfl, hrow, hpq⟩ := hr (by omega)
        have hc := hrow.cell (i := i.toNat) (by omega)
        obtain ⟨x, hx⟩ : ∃ x, x = s.B.getD i.toNat 0 := ⟨_, rfl⟩
        rw [← hx] at hc ⊢
        clear hx
        go_enter Try.func43, Try.ntmps43
        go_wp2
        go_ret2
        exact ⟨rfl, rfl⟩

theorem rwrite_any (p q : Nat) (s : MS) (i c : Int) (w : World) (h : IsRef w p q s) (hlen : s.B.length ≤ 4096) (hl0 : 0 ≤ s.left) (hl1 : s.left ≤ 9223372036854775807) (hw0 : 0 ≤ s.writes) (hw1 : s.writes ≤ 1000000000) :
    Calls Try.prog 42 #[.pointer (some ⟨p, 0, none⟩), .int .i64 i, .int .u8 c] w fun e w' => e = .returned (.int .i64 (s.write i c).2) ∧ IsRef w' p q (s.write i c).1 ∧ Chg [p, q] w w' := by
  obtain ⟨a, cap, c0, c1, c2, c3, c4, hf, hb, hl, hr⟩ := h.cells
  have f3 := hf 3
  have f4 := hf 4
  have f1 := hf 1
  clear hf
  by_cases h1 : s.off = true
  · have e1 : s.write i c = (s, 70) := by simp [MS.write, h1]
    rw [e1]
    go_enter Try.func42, Try.ntmps42
    go_wp2
    go_ret
    exact ⟨rfl, h, Chg.refl _ _⟩
  · have h1' : s.off = false := by simpa using h1
    by_cases h2 : i < 0
    · have e1 : s.write i c = (s, 2) := by simp [MS.write, h1', h2]
      rw [e1]
      go_enter Try.func42, Try.ntmps42
      go_wp2
      go_ret
      exact ⟨rfl, h, Chg.refl _ _⟩
    · by_cases h3 : (s.B.length : Int) ≤ i
      · have e1 : s.write i c = (s, 2) := by simp [MS.write, h1', h3]
        rw [e1]
        go_enter Try.func42, Try.ntmps42
        go_wp2
        go_ret
        exact ⟨rfl, h, Chg.refl _ _⟩
      · obtain ⟨rfl, hrow, hpq⟩ := hr (by omega)
        have hil : i.toNat < s.B.length := by omega
        have hcq := hrow.cell (i := i.toNat) hil
        have hfq := hrow.free i.toNat
        by_cases h4 : s.armed = true
        · by_cases h5 : s.left = 0
          · have e1 : s.write i c = ({ s with off := true }, 70) := by simp [MS.write, h1', h2, h3, h4, h5]
            rw [e1]
            go_enter Try.func42, Try.ntmps42
            go_wp2
            go_ret
            refine ⟨rfl, ⟨_, cap, hb.set' 1 _ (by simp [refCells, h4, h5]), hl, fun h0 => ⟨rfl, hrow.other _ _ (fun e => hpq e.symm)⟩⟩, (Chg.refl [p, q] w).setCell (by simp) _⟩
          · have e1 : s.write i c = ({ s with B := s.B.set i.toNat c, left := s.left - 1, writes := s.writes + 1 }, 0) := by simp [MS.write, h1', h2, h3, h4, h5]
            rw [e1]
            have hb1 : Blk (w.setCell ⟨p, 3, none⟩ (.int .i64 (s.left - 1))) p _ 70 := hb.set' 3 _ rfl
            go_enter Try.func42, Try.ntmps42
            go_wp2
            go_ret
            have hr1 := hrow.other (⟨p, 3, none⟩ : Addr) (.int .i64 (s.left - 1)) (fun e => hpq e.symm)
            have hr2 := (hr1.set i.toNat c hil).other (⟨p, 4, none⟩ : Addr) (.int .i64 (s.writes + 1)) (fun e => hpq e.symm)
            have hb2 := (hb1.other (⟨q, i.toNat, none⟩ : Addr) (.int .u8 c) hpq).set' 4 (.int .i64 (s.writes + 1)) rfl
            exact ⟨rfl, ⟨_, cap, by simpa [refCells, h1', h4] using hb2, by simpa using hl, fun h0 => ⟨rfl, hr2⟩⟩, (((Chg.refl [p, q] w).setCell (by simp) _).setCell (by simp) _).setCell (by simp) _⟩
        · have h4' : s.armed = false := by simpa using h4
          have e1 : s.write i c = ({ s with B := s.B.set i.toNat c, writes := s.writes + 1 }, 0) := by simp [MS.write, h1', h2, h3, h4']
          rw [e1]
          go_enter Try.func42, Try.ntmps42
          go_wp2
          go_ret
          have hr2 := (hrow.set i.toNat c hil).other (⟨p, 4, none⟩ : Addr) (.int .i64 (s.writes + 1)) (fun e => hpq e.symm)
          have hb2 := (Blk.other hb (⟨q, i.toNat, none⟩ : Addr) (.int .u8 c) hpq).set' 4 (.int .i64 (s.writes + 1)) rfl
          exact ⟨rfl, ⟨_, cap, by simpa [refCells, h1', h4'] using hb2, by simpa using hl, fun h0 => ⟨rfl, hr2⟩⟩, ((Chg.refl [p, q] w).setCell (by simp) _).setCell (by simp) _⟩

end Go.Proofs.Ytcmhalmmaodmhaa
