/-
  DERIVED. The walks of package mem: what each call does to a memory.
-/
import Derived.Test.YtcmhalmmaodmhaaClone
import Derived.Deep.RegionWith
namespace Go.Proofs.Ytcmhalmmaodmhaa
open Go.RowKit
set_option linter.unusedSimpArgs false
set_option linter.unusedVariables false

def offW (b : Bool) : Int := if b = true then 1 else 0

theorem Blk.set' {w : World} {b : Nat} {cs cs' : Array Value} {t : TypeId} (h : Blk w b cs t) (i : Nat) (v : Value) (e : cs.setIfInBounds i v = cs') :
    Blk (w.setCell ⟨b, i, none⟩ v) b cs' t := e ▸ h.set i v

theorem Blk.unlike {w : World} {b c : Nat} {cs ds : Array Value} {t u : TypeId} (h : Blk w b cs t) (k : Blk w c ds u) (ht : t ≠ u) : b ≠ c := by
  rintro rfl
  unfold Blk at h k
  rw [h] at k
  injection k with k
  injection k with k1 k2 k3
  exact ht k2

/-- The cells of a memory. -/
def memCells (a : Option Addr) (cap : Nat) (s : MS) : Array Value :=
  #[.slice a s.B.length cap, .int .u32 (offW s.off), .bool s.armed, .int .i64 s.left, .int .i64 s.writes]

/-- Block p is a memory of package mem in this state; its bytes lie in block q. -/
def IsMem (w : World) (p q : Nat) (s : MS) : Prop := ∃ a cap, Blk w p (memCells a cap s) 85 ∧ s.B.length ≤ cap ∧ (0 < s.B.length → a = some ⟨q, 0, none⟩ ∧ Row w q s.B)

theorem IsMem.lt {w : World} {p q : Nat} {s : MS} (h : IsMem w p q s) : p < w.heap.size := let ⟨_, _, hb, _⟩ := h; hb.lt
theorem IsMem.keep {bs : List Nat} {w w' : World} {p q : Nat} {s : MS} (h : IsMem w p q s) (k : Chg bs w w') (hp : p ∉ bs) (hq : q ∉ bs) : IsMem w' p q s :=
  let ⟨a, cap, hb, hl, hr⟩ := h; ⟨a, cap, k.blk hb hp, hl, fun h0 => ⟨(hr h0).1, (hr h0).2.keep k hq⟩⟩
theorem IsMem.drew {w : World} {p q : Nat} {s : MS} (h : IsMem w p q s) : IsMem w.drew p q s := h.keep (Chg.refl [] w).drew (by simp) (by simp)

/-- The facts on cells that a walk wants. -/
theorem IsMem.cells {w : World} {p q : Nat} {s : MS} (h : IsMem w p q s) : ∃ a cap,
    w.cell? ⟨p, 0, none⟩ = some (.slice a s.B.length cap) ∧ w.cell? ⟨p, 1, none⟩ = some (.int .u32 (offW s.off)) ∧ w.cell? ⟨p, 2, none⟩ = some (.bool s.armed) ∧
    w.cell? ⟨p, 3, none⟩ = some (.int .i64 s.left) ∧ w.cell? ⟨p, 4, none⟩ = some (.int .i64 s.writes) ∧ (∀ i, w.frozen? ⟨p, i, none⟩ = false) ∧
    Blk w p (memCells a cap s) 85 ∧ s.B.length ≤ cap ∧ (0 < s.B.length → a = some ⟨q, 0, none⟩ ∧ Row w q s.B ∧ p ≠ q) :=
  let ⟨a, cap, hb, hl, hr⟩ := h
  ⟨a, cap, hb.cell 0, hb.cell 1, hb.cell 2, hb.cell 3, hb.cell 4, hb.free, hb, hl, fun h0 => ⟨(hr h0).1, (hr h0).2, let ⟨_, hq, _⟩ := (hr h0).2; hb.unlike hq (by decide)⟩⟩

theorem bload_any (p : Nat) (b : Bool) (w : World) (h : w.cell? ⟨p, 1, none⟩ = some (.int .u32 (offW b))) :
    Calls Try.prog 40 #[.pointer (some ⟨p, 1, none⟩)] w fun e w' => e = .returned (.bool b) ∧ w = w' := by
  have hl := run_call_load (P := Try.prog) Try.func52 (by kernel_rfl) (by kernel_rfl) (by kernel_rfl) .u32 (by kernel_rfl) h
  cases b
  all_goals
    simp only [offW] at hl
    go_enter Try.func40, Try.ntmps40
    go_wp2
    go_ret
    exact ⟨rfl, rfl⟩

theorem b32_any (b : Bool) (w : World) : Calls Try.prog 54 #[.bool b] w fun e w' => e = .returned (.int .u32 (offW b)) ∧ w = w' := by
  cases b
  all_goals
    go_enter Try.func54, Try.ntmps54
    go_wp2
    go_ret
    exact ⟨rfl, rfl⟩

theorem bstore_any (p : Nat) (b : Bool) (u : Value) (w : World) (h : w.cell? ⟨p, 1, none⟩ = some u) (hf : w.frozen? ⟨p, 1, none⟩ = false) :
    Calls Try.prog 41 #[.pointer (some ⟨p, 1, none⟩), .bool b] w fun e w' => e = .returned (.tuple #[]) ∧ w' = (w.setCell ⟨p, 1, none⟩ (.int .u32 (offW b))).drew := by
  have hl := fun y => run_call_store (P := Try.prog) Try.func53 (by kernel_rfl) (by kernel_rfl) (by kernel_rfl) (by kernel_rfl) (k := .u32) (y := y) (w := w.drew) h hf
  go_enter Try.func41, Try.ntmps41
  go_wp2
  go_region_with (go_at_call 54; refine (b32_any b _).mono ?_; rintro e w' ⟨rfl, rfl⟩)
  all_goals (go_wp2; go_end0; exact ⟨rfl, rfl⟩)

theorem off_any (p q : Nat) (s : MS) (w : World) (h : IsMem w p q s) :
    Calls Try.prog 20 #[.pointer (some ⟨p, 0, none⟩)] w fun e w' => e = .returned (.bool s.off) ∧ w = w' := by
  obtain ⟨a, cap, c0, c1, c2, c3, c4, hf, hb, hl, hr⟩ := h.cells
  go_enter Try.func20, Try.ntmps20
  go_wp2_with (go_at_call 40; refine (bload_any p s.off _ c1).mono ?_; rintro e w' ⟨rfl, rfl⟩)
  go_ret
  exact ⟨rfl, rfl⟩

theorem size_any (p q : Nat) (s : MS) (w : World) (h : IsMem w p q s) :
    Calls Try.prog 24 #[.pointer (some ⟨p, 0, none⟩)] w fun e w' => e = .returned (.int .i64 s.B.length) ∧ w = w' := by
  obtain ⟨a, cap, c0, c1, c2, c3, c4, hf, hb, hl, hr⟩ := h.cells
  go_enter Try.func24, Try.ntmps24
  go_wp2
  go_ret
  exact ⟨rfl, rfl⟩

theorem writes_any (p q : Nat) (s : MS) (w : World) (h : IsMem w p q s) :
    Calls Try.prog 22 #[.pointer (some ⟨p, 0, none⟩)] w fun e w' => e = .returned (.int .i64 s.writes) ∧ w = w' := by
  obtain ⟨a, cap, c0, c1, c2, c3, c4, hf, hb, hl, hr⟩ := h.cells
  go_enter Try.func22, Try.ntmps22
  go_wp2
  go_ret
  exact ⟨rfl, rfl⟩

end Go.Proofs.Ytcmhalmmaodmhaa
