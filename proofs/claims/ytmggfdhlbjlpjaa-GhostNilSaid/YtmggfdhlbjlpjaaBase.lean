/-
  DERIVED. Plain words over worlds: a block known whole, and which old blocks a call may have changed (a predicate says which).
-/
import Derived.Test.YtmggfdhlbjlpjaaRows
import Derived.WalkKit
import Derived.WalkSpells
import Derived.WalkLawsBesides
import Derived.Handy
import Derived.Deep.QuietTactic
import Derived.BigQuiet
import Derived.Deep.RegionHeld
import Derived.Deep.RegionLaw
namespace Go.Proofs.Ytmggfdhlbjlpjaa
open Go.RowKit
set_option linter.unusedSimpArgs false
set_option linter.unusedVariables false

/-- Block b is a row of these cells, none frozen. -/
def Blk (w : World) (b : Nat) (cs : Array Value) (t : TypeId) : Prop := w.heap[b]? = some (.cells cs t (0, 0))
/-- Block b is a map of these entries. -/
def MapB (w : World) (b : Nat) (es : Array MapEntry) (clock : Nat) : Prop := w.heap[b]? = some (.map es clock)

theorem lt_of_heap {w : World} {b : Nat} {o : Obj} (h : w.heap[b]? = some o) : b < w.heap.size := by
  rcases Nat.lt_or_ge b w.heap.size with h' | h'
  · exact h'
  · rw [Array.getElem?_eq_none h'] at h; cases h

section
variable {w : World} {b : Nat} {cs : Array Value} {t : TypeId}
theorem Blk.lt (h : Blk w b cs t) : b < w.heap.size := lt_of_heap h
theorem MapB.lt {es : Array MapEntry} {c : Nat} (h : MapB w b es c) : b < w.heap.size := lt_of_heap h
theorem Blk.cell (h : Blk w b cs t) (i : Nat) : w.cell? ⟨b, i, none⟩ = cs[i]? := by
  unfold Blk at h
  simp [World.cell?, h]
theorem Blk.free (h : Blk w b cs t) (i : Nat) : w.frozen? ⟨b, i, none⟩ = false := by
  unfold Blk at h
  simp [World.frozen?, h]
theorem Blk.set (h : Blk w b cs t) (i : Nat) (v : Value) : Blk (w.setCell ⟨b, i, none⟩ v) b (cs.setIfInBounds i v) t := by
  unfold Blk at *
  simp [World.setCell, Array.getElem?_modify, h]
theorem Blk.set' {cs' : Array Value} (h : Blk w b cs t) (i : Nat) (v : Value) (e : cs.setIfInBounds i v = cs') : Blk (w.setCell ⟨b, i, none⟩ v) b cs' t := e ▸ h.set i v
theorem Blk.new (w : World) (cs : Array Value) (t : TypeId) : Blk (w.alloc (.cells cs t)) w.heap.size cs t := by
  show (w.heap.push _)[w.heap.size]? = _
  simp
theorem Blk.unlike {c : Nat} {ds : Array Value} {u : TypeId} (h : Blk w b cs t) (k : Blk w c ds u) (ht : t ≠ u) : b ≠ c := by
  rintro rfl
  unfold Blk at h k
  rw [h] at k
  injection k with k
  injection k with k1 k2 k3
  exact ht k2
end

/-- Of the blocks that w has, none but those in O differ in w'; the streams are as they were. -/
structure Fr (O : Nat → Prop) (w w' : World) : Prop where
  os : w'.os = w.os
  tape : w'.tape = w.tape
  output : w'.output = w.output
  size : w.heap.size ≤ w'.heap.size
  block : ∀ k, k < w.heap.size → ¬ O k → w'.heap[k]? = w.heap[k]?

/-- No old block. -/
def No : Nat → Prop := fun _ => False

section
variable {O O' : Nat → Prop} {a w w' : World}
theorem Fr.refl (O : Nat → Prop) (w : World) : Fr O w w := ⟨rfl, rfl, rfl, Nat.le_refl _, fun _ _ _ => rfl⟩
theorem Fr.more {b c : World} (h : Fr O a b) (k : Fr O' b c) (hs : ∀ x, O' x → x < a.heap.size → O x) : Fr O a c :=
  ⟨k.os.trans h.os, k.tape.trans h.tape, k.output.trans h.output, Nat.le_trans h.size k.size,
    fun i hi hn => (k.block i (Nat.lt_of_lt_of_le hi h.size) (fun hm => hn (hs i hm hi))).trans (h.block i hi hn)⟩
theorem Fr.trans {b c : World} (h : Fr O a b) (k : Fr O b c) : Fr O a c := h.more k fun _ h _ => h
theorem Fr.wide (h : Fr O w w') (hs : ∀ x, O x → x < w.heap.size → O' x) : Fr O' w w' := ⟨h.os, h.tape, h.output, h.size, fun k hk hn => h.block k hk (fun hm => hn (hs k hm hk))⟩
theorem Fr.no (h : Fr No w w') (O : Nat → Prop) : Fr O w w' := h.wide fun _ h _ => h.elim
theorem Fr.drew (h : Fr O a w) : Fr O a w.drew := ⟨h.os, h.tape, h.output, h.size, h.block⟩
theorem Fr.drewN (h : Fr O a w) (n : Nat) : Fr O a (w.drewN n) := ⟨h.os, h.tape, h.output, h.size, h.block⟩
theorem Fr.alloc (h : Fr O a w) (o : Obj) : Fr O a (w.alloc o) := h.more (O' := No) ⟨rfl, rfl, rfl, by simp, fun k hk _ => Below.heap_alloc _ _ _ hk⟩ fun _ h => h.elim
theorem Fr.setCell (h : Fr O a w) {p : Addr} (hp : p.block < a.heap.size → O p.block) (u : Value) : Fr O a (w.setCell p u) :=
  h.more (O' := fun x => x = p.block) ⟨rfl, rfl, rfl, by simp [World.setCell], fun k _ hn => Below.heap_setCell _ _ _ _ hn⟩ (by rintro x rfl hx; exact hp hx)
theorem Fr.get (h : Fr O w w') {b : Nat} {o : Obj} (hb : w.heap[b]? = some o) (hn : ¬ O b) : w'.heap[b]? = some o := by rw [h.block b (lt_of_heap hb) hn]; exact hb
theorem Fr.blk (h : Fr O w w') {b : Nat} {cs : Array Value} {t : TypeId} (hb : Blk w b cs t) (hn : ¬ O b) : Blk w' b cs t := h.get hb hn
theorem Fr.below (h : Fr No w w') : Below w.heap.size w w' := ⟨h.os, h.tape, h.output, h.size, fun k hk => h.block k hk id⟩
theorem Fr.of_below (h : Below w.heap.size w w') : Fr No w w' := ⟨h.os, h.tape, h.output, h.size, fun k hk _ => h.block k hk⟩
end

theorem lt_of_cell? {w : World} {x : Addr} {v : Value} (h : w.cell? x = some v) : x.block < w.heap.size := by
  rcases Nat.lt_or_ge x.block w.heap.size with h' | h'
  · exact h'
  · simp [World.cell?, Array.getElem?_eq_none h'] at h
theorem Fr.old {O : Nat → Prop} {w w' : World} (h : Fr O w w') {x : Addr} {v : Value} (hc : w.cell? x = some v) (hn : ¬ O x.block) : w'.cell? x = some v := by
  rw [← hc]; exact World.cell?_of_block (w := w) (h.block x.block (lt_of_cell? hc) hn)

theorem ret_bool {a b : Bool} (h : a = b) : Ending.returned (.bool a) = .returned (.bool b) := by rw [h]
theorem ret_int {k : IntKind} {a b : Int} (h : a = b) : Ending.returned (.int k a) = .returned (.int k b) := by rw [h]

theorem add_at (b off n : Nat) : (⟨b, off, none⟩ : Addr).add n = ⟨b, off + n, none⟩ := by
  unfold Addr.add
  by_cases h : n = 0 <;> simp [h]

/-- Bytes as cells. -/
def u8s (l : List UInt8) : List Value := l.map fun b => .int .u8 (b.toNat : Int)
theorem u8s_length (l : List UInt8) : (u8s l).length = l.length := by simp [u8s]
theorem u8s_get (l : List UInt8) (i : Nat) (h : i < l.length) : (u8s l)[i]? = some (.int .u8 (l[i].toNat : Int)) := by simp [u8s, h]
theorem u8s_one (l : List UInt8) : ∀ u ∈ u8s l, u.oneCell' = true := by
  intro u hu
  simp only [u8s, List.mem_map] at hu
  obtain ⟨_, _, rfl⟩ := hu
  rfl

/-- From an address on these bytes lie. -/
def Rd (w : World) (O : Nat → Prop) (a : Option Addr) (l : List UInt8) : Prop :=
  0 < l.length → ∃ b off, a = some ⟨b, off, none⟩ ∧ O b ∧ ∀ i (h : i < l.length), w.cell? ⟨b, off + i, none⟩ = some (.int .u8 (l[i].toNat : Int))

/-- The slice value reads as these bytes; they lie in a block of O, unless there are none. -/
def Bs (w : World) (O : Nat → Prop) (v : Value) (l : List UInt8) : Prop := ∃ a cap, v = .slice a l.length cap ∧ (a = none → cap = 0) ∧ Rd w O a l

section
variable {w w' : World} {O C : Nat → Prop} {v : Value} {a : Option Addr} {l : List UInt8}
theorem Rd.keep (h : Rd w O a l) (k : Fr C w w') (hd : ∀ b, O b → ¬ C b) : Rd w' O a l :=
  fun hl => let ⟨b, off, h1, h2, h3⟩ := h hl; ⟨b, off, h1, h2, fun i hi => k.old (h3 i hi) (hd _ h2)⟩
theorem Rd.wide (h : Rd w O a l) (hd : ∀ b, O b → C b) : Rd w C a l := fun hl => let ⟨b, off, h1, h2, h3⟩ := h hl; ⟨b, off, h1, hd _ h2, h3⟩
theorem Bs.keep (h : Bs w O v l) (k : Fr C w w') (hd : ∀ b, O b → ¬ C b) : Bs w' O v l := let ⟨a, cap, hv, h0, h⟩ := h; ⟨a, cap, hv, h0, h.keep k hd⟩
theorem Bs.wide (h : Bs w O v l) (hd : ∀ b, O b → C b) : Bs w C v l := let ⟨a, cap, hv, h0, h⟩ := h; ⟨a, cap, hv, h0, h.wide hd⟩
theorem Rd.lt (h : Rd w O a l) (hl : 0 < l.length) : ∃ b, O b ∧ b < w.heap.size := let ⟨b, _, _, h2, h3⟩ := h hl; ⟨b, h2, lt_of_cell? (h3 0 hl)⟩
end

end Go.Proofs.Ytmggfdhlbjlpjaa
