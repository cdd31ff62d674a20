/-
  DERIVED. The reference's judge in memory.
-/
import Derived.Test.YtmggfdhlbjlpjaaROut
namespace Go.Proofs.Ytmggfdhlbjlpjaa
open Go.RowKit
set_option linter.unusedSimpArgs false
set_option linter.unusedVariables false

/-- The two ends of a line, in a block of their own. -/
def RLine (w : World) (O : Nat → Prop) (b : Nat) (l : LineP) : Prop :=
  O b ∧ ∃ cs h0 h1, Blk w b cs 68 ∧ REndCs cs 0 l.e0 h0 ∧ REndCs cs 11 l.e1 h1 ∧ (h0 = false → l.e0.value = []) ∧ (h1 = false → l.e1.value = [])

/-- The lines' ends. -/
def REnds (w : World) (O : Nat → Prop) (v : Value) (L : List LineP) : Prop :=
  ∃ a cap, v = .slice a L.length cap ∧ (0 < L.length → ∃ (q : Nat) (cs : Array Value) (eb : Nat → Nat), a = some ⟨q, 0, none⟩ ∧ O q ∧ Blk w q cs 69 ∧
    (∀ i (h : i < L.length), (∃ c, cs[i]? = some (.slice (some ⟨eb i, 0, none⟩) 2 c)) ∧ RLine w O (eb i) L[i]) ∧ (∀ i k, i < L.length → k < L.length → eb i = eb k → i = k))

/-- The lines' sessions. -/
def RSess (w : World) (O : Nat → Prop) (v : Value) (L : List LineP) : Prop :=
  ∃ a cap, v = .slice a L.length cap ∧ (0 < L.length → ∃ q cs, a = some ⟨q, 0, none⟩ ∧ O q ∧ Blk w q cs 23 ∧ ∀ i (h : i < L.length), cs[i]? = some (.int .u32 L[i].session))

/-- The list S is what the lines know of what was sent. -/
def SentOk (S : List FactP) (L : List LineP) : Prop :=
  (∀ s ∈ S, s.side = 1 ∨ s.side = 2) ∧ ∀ i (h : i < L.length) k, k ∈ L[i].sent ↔ ∃ s ∈ S, s.conn = (i : Int) ∧ s.key s.side = k

/-- The reference's judge at j is st, with n places at most in its list. -/
def IsR (w : World) (O : Nat → Prop) (j : Nat) (st : JP) (n : Nat) : Prop :=
  (∀ b, O b → b < w.heap.size) ∧ O j ∧ ∃ ve vse vst S, Blk w j (rCells ve vse vst st) 48 ∧ REnds w O ve st.lines ∧ RSess w O vse st.lines ∧ Srow w 0 O vst S ∧ SentOk S st.lines ∧ S.length ≤ n

theorem RLine.keep {w w' : World} {O O' C : Nat → Prop} {b : Nat} {l : LineP} (h : RLine w O b l) (k : Fr C w w') (hC : ¬ C b) (hO : ∀ b, O b → O' b) : RLine w' O' b l := by
  obtain ⟨h1, cs, h0, h1', a, r⟩ := h
  exact ⟨hO _ h1, cs, h0, h1', k.blk a hC, r⟩

theorem REnds.keep {w w' : World} {O O' C : Nat → Prop} {v : Value} {L : List LineP} (h : REnds w O v L) (k : Fr C w w') (h1 : ∀ b cs, O b → Blk w b cs 69 → ¬ C b) (h2 : ∀ b cs, O b → Blk w b cs 68 → ¬ C b) (hO : ∀ b, O b → O' b) : REnds w' O' v L := by
  obtain ⟨a, cap, hv, h⟩ := h
  refine ⟨a, cap, hv, fun hl => ?_⟩
  obtain ⟨q, cs, eb, ha, hq, hb, hi, hinj⟩ := h hl
  refine ⟨q, cs, eb, ha, hO _ hq, k.blk hb (h1 _ _ hq hb), fun i h => ⟨(hi i h).1, ?_⟩, hinj⟩
  have hl := (hi i h).2
  have hl' := hl
  obtain ⟨o1, cs', _, _, hb', _⟩ := hl'
  exact hl.keep k (h2 _ _ o1 hb') hO

theorem RSess.keep {w w' : World} {O O' C : Nat → Prop} {v : Value} {L : List LineP} (h : RSess w O v L) (k : Fr C w w') (h1 : ∀ b cs, O b → Blk w b cs 23 → ¬ C b) (hO : ∀ b, O b → O' b) : RSess w' O' v L := by
  obtain ⟨a, cap, hv, h⟩ := h
  refine ⟨a, cap, hv, fun hl => ?_⟩
  obtain ⟨q, cs, ha, hq, hb, hi⟩ := h hl
  exact ⟨q, cs, ha, hO _ hq, k.blk hb (h1 _ _ hq hb), hi⟩

theorem IsR.keep {w w' : World} {O C : Nat → Prop} {j n : Nat} {st : JP} (h : IsR w O j st n) (k : Fr C w w') (hC : ∀ b, O b → ¬ C b) : IsR w' O j st n := by
  obtain ⟨h1, h2, ve, vse, vst, S, a, b, c, d, e, f⟩ := h
  exact ⟨fun b hb => Nat.lt_of_lt_of_le (h1 b hb) k.size, h2, ve, vse, vst, S, k.blk a (hC _ h2), b.keep k (fun b _ h _ => hC b h) (fun b _ h _ => hC b h) (fun _ => id), c.keep k (fun b _ h _ => hC b h) (fun _ => id), d.keep k (fun b _ h _ => hC b h) (fun b _ h _ => hC b h) (fun _ h _ => h), e, f⟩
theorem IsR.grow {w w' : World} {O : Nat → Prop} {j n : Nat} {st : JP} (h : IsR w O j st n) (k : Fr No w w') : IsR w' O j st n := h.keep k fun _ _ h => h
theorem IsR.wide {w : World} {O O' : Nat → Prop} {j n : Nat} {st : JP} (h : IsR w O j st n) (hO : ∀ b, O b → O' b) (hO' : ∀ b, O' b → b < w.heap.size) : IsR w O' j st n := by
  obtain ⟨h1, h2, ve, vse, vst, S, a, b, c, d, e, f⟩ := h
  exact ⟨hO', hO _ h2, ve, vse, vst, S, a, b.keep (Fr.refl No w) (fun _ _ _ _ => id) (fun _ _ _ _ => id) hO, c.keep (Fr.refl No w) (fun _ _ _ _ => id) hO, d.keep (Fr.refl No w) (fun _ _ _ _ => id) (fun _ _ _ _ => id) (fun b h _ => hO b h), e, f⟩
theorem IsR.more {w : World} {O : Nat → Prop} {j n m : Nat} {st : JP} (h : IsR w O j st n) (hn : n ≤ m) : IsR w O j st m := by
  obtain ⟨h1, h2, ve, vse, vst, S, a, b, c, d, e, f⟩ := h
  exact ⟨h1, h2, ve, vse, vst, S, a, b, c, d, e, Nat.le_trans f hn⟩

theorem outFr {w w' : World} {b o : Nat} {cs : Array Value} {x x' : EndP} {h h' : Bool} {r : Int} (hy : r = 0 → REndTo w w' b cs o x h) (hn : r ≠ 0 → REndTo w w' b cs o x' h') : Fr (fun x => x = b) w w' := by
  by_cases h0 : r = 0
  · obtain ⟨_, _, _, _, k⟩ := hy h0; exact k
  · obtain ⟨_, _, _, _, k⟩ := hn h0; exact k

end Go.Proofs.Ytmggfdhlbjlpjaa
