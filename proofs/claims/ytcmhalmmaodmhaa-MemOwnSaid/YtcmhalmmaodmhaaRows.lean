/-
  No cell of these rows narrows 'for every input' (looked for: loops, veiled, ifaces, maps, wideKeys, modest, calm, conditions, laid).
  DERIVED. THE GIVEN ROWS OF THIS SEAT. 9 by the template 'for every input the law returns true; each argument reads behind the call as it read before'; 0 by the template 'total and deterministic' (their statements: YtcmhalmmaodmhaaTotals.lean).
  GIVEN WITH THE SEED: the statements are not yours to turn. If you find one false, say at which input.
  Laid BY PROGRAM, IN A SANDBOX (cutbox-rows.mjs): the forced cells as the released guide's own fill.sh prints them over the translation 73d593023a8c0f0c… (all of the seat's roots in one cut). By AI agents, Wed Nov 11 2026. No macro, syntax, notation, axiom, sorry.
-/
import Derived.Test.YtcmhalmmaodmhaaChecked
import GoSem.Claim
import GoSem.ClaimJoined
import GoSem.ClaimMapViews
import Derived.JoinedTies
import Derived.KernelRfl
namespace Go.Proofs.Ytcmhalmmaodmhaa
/- THE CELL 'sum', in the pinned program and in every row, IS THE sha256 OF THE DUMP (.gsa) THAT YtcmhalmmaodmhaaProg.lean LOADS. Nothing in Lean hashes anything: it is a label: what it is worth is what the hold of that sum in a sandbox is worth. -/
noncomputable def Try.pinned : Pinned := { name := "ytcmhalmmaodmhaa", sum := "73d593023a8c0f0c009fb6a5ea87a1ec7c1cbba18cfe6b4b2c08a4abb5342eab", checked := Try.checked }
namespace Rows
def none {H : Type} : Left H := { results := [], args := [] }

/-- 'parapetlaw07.MemOwn': WHATEVER THE INPUT: true; the input reads as it did. -/
def memOwnSpec : ChangeSpec := { name := "memOwn", fn := fun _ => fun
  | [d] => { results := [.lit (.bool true)], args := [d] }
  | _ => none }
def memOwnRow : OpenClaim := { program := "ytcmhalmmaodmhaa", sum := "73d593023a8c0f0c009fb6a5ea87a1ec7c1cbba18cfe6b4b2c08a4abb5342eab", func := "parapet/parapetlaw07.MemOwn", spec := "memOwn", inPlace := ["sync/atomic.LoadUint32", "sync/atomic.StoreUint32"], apart := false }
def MemOwnSaid : Prop := memOwnRow.holds Try.pinned (OpenSpec.ofChange memOwnSpec)

/-- ITS FALSE NEIGHBOUR: 'it returns false'. Refute it at one input. -/
def memOwnWrong : ChangeSpec := { name := "memOwn", fn := fun _ => fun
  | [d] => { results := [.lit (.bool false)], args := [d] }
  | _ => none }
def MemOwnWrongFalsely : Prop := memOwnRow.holds Try.pinned (OpenSpec.ofChange memOwnWrong)

/-- 'parapetlaw07.MemCuts': WHATEVER THE INPUT: true; the input reads as it did. -/
def memCutsSpec : ChangeSpec := { name := "memCuts", fn := fun _ => fun
  | [d1, d2, d3] => { results := [.lit (.bool true)], args := [d1, d2, d3] }
  | _ => none }
def memCutsRow : OpenClaim := { program := "ytcmhalmmaodmhaa", sum := "73d593023a8c0f0c009fb6a5ea87a1ec7c1cbba18cfe6b4b2c08a4abb5342eab", func := "parapet/parapetlaw07.MemCuts", spec := "memCuts", inPlace := ["sync/atomic.LoadUint32", "sync/atomic.StoreUint32"], apart := false }
def MemCutsSaid : Prop := memCutsRow.holds Try.pinned (OpenSpec.ofChange memCutsSpec)

/-- ITS FALSE NEIGHBOUR: 'it returns false'. Refute it at one input. -/
def memCutsWrong : ChangeSpec := { name := "memCuts", fn := fun _ => fun
  | [d1, d2, d3] => { results := [.lit (.bool false)], args := [d1, d2, d3] }
  | _ => none }
def MemCutsWrongFalsely : Prop := memCutsRow.holds Try.pinned (OpenSpec.ofChange memCutsWrong)

/-- 'parapetlaw07.MemNil': WHATEVER THE INPUT: true; the input reads as it did. -/
def memNilSpec : ChangeSpec := { name := "memNil", fn := fun _ => fun
  | [d] => { results := [.lit (.bool true)], args := [d] }
  | _ => none }
def memNilRow : OpenClaim := { program := "ytcmhalmmaodmhaa", sum := "73d593023a8c0f0c009fb6a5ea87a1ec7c1cbba18cfe6b4b2c08a4abb5342eab", func := "parapet/parapetlaw07.MemNil", spec := "memNil", inPlace := ["sync/atomic.LoadUint32", "sync/atomic.StoreUint32"], apart := false }
def MemNilSaid : Prop := memNilRow.holds Try.pinned (OpenSpec.ofChange memNilSpec)

/-- ITS FALSE NEIGHBOUR: 'it returns false'. Refute it at one input. -/
def memNilWrong : ChangeSpec := { name := "memNil", fn := fun _ => fun
  | [d] => { results := [.lit (.bool false)], args := [d] }
  | _ => none }
def MemNilWrongFalsely : Prop := memNilRow.holds Try.pinned (OpenSpec.ofChange memNilWrong)

/-- 'parapetlaw07.MemPlays': WHATEVER THE INPUT: true; the input reads as it did. -/
def memPlaysSpec : ChangeSpec := { name := "memPlays", fn := fun _ => fun
  | [d1, d2, d3] => { results := [.lit (.bool true)], args := [d1, d2, d3] }
  | _ => none }
def memPlaysRow : OpenClaim := { program := "ytcmhalmmaodmhaa", sum := "73d593023a8c0f0c009fb6a5ea87a1ec7c1cbba18cfe6b4b2c08a4abb5342eab", func := "parapet/parapetlaw07.MemPlays", spec := "memPlays", inPlace := ["sync/atomic.LoadUint32", "sync/atomic.StoreUint32"], apart := false }
def MemPlaysSaid : Prop := memPlaysRow.holds Try.pinned (OpenSpec.ofChange memPlaysSpec)

/-- ITS FALSE NEIGHBOUR: 'it returns false'. Refute it at one input. -/
def memPlaysWrong : ChangeSpec := { name := "memPlays", fn := fun _ => fun
  | [d1, d2, d3] => { results := [.lit (.bool false)], args := [d1, d2, d3] }
  | _ => none }
def MemPlaysWrongFalsely : Prop := memPlaysRow.holds Try.pinned (OpenSpec.ofChange memPlaysWrong)

/-- 'parapetlaw08.CellNil': WHATEVER THE INPUT: true; the input reads as it did. -/
def cellNilSpec : ChangeSpec := { name := "cellNil", fn := fun _ => fun
  | [d] => { results := [.lit (.bool true)], args := [d] }
  | _ => none }
def cellNilRow : OpenClaim := { program := "ytcmhalmmaodmhaa", sum := "73d593023a8c0f0c009fb6a5ea87a1ec7c1cbba18cfe6b4b2c08a4abb5342eab", func := "parapet/parapetlaw08.CellNil", spec := "cellNil", inPlace := ["sync/atomic.LoadUint32", "sync/atomic.StoreUint32"], apart := false }
def CellNilSaid : Prop := cellNilRow.holds Try.pinned (OpenSpec.ofChange cellNilSpec)

/-- ITS FALSE NEIGHBOUR: 'it returns false'. Refute it at one input. -/
def cellNilWrong : ChangeSpec := { name := "cellNil", fn := fun _ => fun
  | [d] => { results := [.lit (.bool false)], args := [d] }
  | _ => none }
def CellNilWrongFalsely : Prop := cellNilRow.holds Try.pinned (OpenSpec.ofChange cellNilWrong)

/-- 'parapetlaw08.CellExhausts': WHATEVER THE INPUT: true; the input reads as it did. -/
def cellExhaustsSpec : ChangeSpec := { name := "cellExhausts", fn := fun _ => fun
  | [d] => { results := [.lit (.bool true)], args := [d] }
  | _ => none }
def cellExhaustsRow : OpenClaim := { program := "ytcmhalmmaodmhaa", sum := "73d593023a8c0f0c009fb6a5ea87a1ec7c1cbba18cfe6b4b2c08a4abb5342eab", func := "parapet/parapetlaw08.CellExhausts", spec := "cellExhausts", inPlace := ["sync/atomic.LoadUint32", "sync/atomic.StoreUint32"], apart := false }
def CellExhaustsSaid : Prop := cellExhaustsRow.holds Try.pinned (OpenSpec.ofChange cellExhaustsSpec)

/-- ITS FALSE NEIGHBOUR: 'it returns false'. Refute it at one input. -/
def cellExhaustsWrong : ChangeSpec := { name := "cellExhausts", fn := fun _ => fun
  | [d] => { results := [.lit (.bool false)], args := [d] }
  | _ => none }
def CellExhaustsWrongFalsely : Prop := cellExhaustsRow.holds Try.pinned (OpenSpec.ofChange cellExhaustsWrong)

/-- 'parapetlaw08.CellKeeps': WHATEVER THE INPUT: true; the input reads as it did. -/
def cellKeepsSpec : ChangeSpec := { name := "cellKeeps", fn := fun _ => fun
  | [d1, d2] => { results := [.lit (.bool true)], args := [d1, d2] }
  | _ => none }
def cellKeepsRow : OpenClaim := { program := "ytcmhalmmaodmhaa", sum := "73d593023a8c0f0c009fb6a5ea87a1ec7c1cbba18cfe6b4b2c08a4abb5342eab", func := "parapet/parapetlaw08.CellKeeps", spec := "cellKeeps", inPlace := ["sync/atomic.LoadUint32", "sync/atomic.StoreUint32"], apart := false }
def CellKeepsSaid : Prop := cellKeepsRow.holds Try.pinned (OpenSpec.ofChange cellKeepsSpec)

/-- ITS FALSE NEIGHBOUR: 'it returns false'. Refute it at one input. -/
def cellKeepsWrong : ChangeSpec := { name := "cellKeeps", fn := fun _ => fun
  | [d1, d2] => { results := [.lit (.bool false)], args := [d1, d2] }
  | _ => none }
def CellKeepsWrongFalsely : Prop := cellKeepsRow.holds Try.pinned (OpenSpec.ofChange cellKeepsWrong)

/-- 'parapetlaw08.CellRises': WHATEVER THE INPUT: true; the input reads as it did. -/
def cellRisesSpec : ChangeSpec := { name := "cellRises", fn := fun _ => fun
  | [d1, d2, d3] => { results := [.lit (.bool true)], args := [d1, d2, d3] }
  | _ => none }
def cellRisesRow : OpenClaim := { program := "ytcmhalmmaodmhaa", sum := "73d593023a8c0f0c009fb6a5ea87a1ec7c1cbba18cfe6b4b2c08a4abb5342eab", func := "parapet/parapetlaw08.CellRises", spec := "cellRises", inPlace := ["sync/atomic.LoadUint32", "sync/atomic.StoreUint32"], apart := false }
def CellRisesSaid : Prop := cellRisesRow.holds Try.pinned (OpenSpec.ofChange cellRisesSpec)

/-- ITS FALSE NEIGHBOUR: 'it returns false'. Refute it at one input. -/
def cellRisesWrong : ChangeSpec := { name := "cellRises", fn := fun _ => fun
  | [d1, d2, d3] => { results := [.lit (.bool false)], args := [d1, d2, d3] }
  | _ => none }
def CellRisesWrongFalsely : Prop := cellRisesRow.holds Try.pinned (OpenSpec.ofChange cellRisesWrong)

/-- 'parapetlaw08.CellPlays': WHATEVER THE INPUT: true; the input reads as it did. -/
def cellPlaysSpec : ChangeSpec := { name := "cellPlays", fn := fun _ => fun
  | [d1, d2, d3] => { results := [.lit (.bool true)], args := [d1, d2, d3] }
  | _ => none }
def cellPlaysRow : OpenClaim := { program := "ytcmhalmmaodmhaa", sum := "73d593023a8c0f0c009fb6a5ea87a1ec7c1cbba18cfe6b4b2c08a4abb5342eab", func := "parapet/parapetlaw08.CellPlays", spec := "cellPlays", inPlace := ["sync/atomic.LoadUint32", "sync/atomic.StoreUint32"], apart := false }
def CellPlaysSaid : Prop := cellPlaysRow.holds Try.pinned (OpenSpec.ofChange cellPlaysSpec)

/-- ITS FALSE NEIGHBOUR: 'it returns false'. Refute it at one input. -/
def cellPlaysWrong : ChangeSpec := { name := "cellPlays", fn := fun _ => fun
  | [d1, d2, d3] => { results := [.lit (.bool false)], args := [d1, d2, d3] }
  | _ => none }
def CellPlaysWrongFalsely : Prop := cellPlaysRow.holds Try.pinned (OpenSpec.ofChange cellPlaysWrong)

/- THE SECOND FORM. 'bulk': how many values and letters a reading holds, each counted each time it is reached (what is shared counts as often as it is met; a slice's spare places count too). A statement '..UptoSaid' is the law's where the arguments, and the package variables that the reading takes, are together of bulk at most 1048576: NARROWER than '..Said'. Prove '..Said' where nothing that the law and all that it calls make is longer than what came in: it says more and counts as full. Else prove '..UptoSaid'. A law counts once. -/
mutual
def uptoBulk {H : Type} : DataW H → Nat
  | .lit (.string bytes) => bytes.length + 1
  | .lit _ => 1
  | .nil => 1
  | .ptr d => uptoBulk d + 1
  | .slice elems spare => uptoBulkAll elems + uptoBulkAll spare + 1
  | .agg parts => uptoBulkAll parts + 1
  | .iface _ d => uptoBulk d + 1
  | .map entries => uptoBulkEntries entries + 1
  | .held _ => 1
def uptoBulkAll {H : Type} : List (DataW H) → Nat
  | [] => 0
  | d :: r => uptoBulk d + uptoBulkAll r
def uptoBulkEntries {H : Type} : List (Lit × DataW H) → Nat
  | [] => 0
  | x :: r => uptoBulkEntry x + uptoBulkEntries r
def uptoBulkEntry {H : Type} : Lit × DataW H → Nat
  | (.string bytes, d) => bytes.length + uptoBulk d + 1
  | (_, d) => uptoBulk d + 1
 end
def uptoSmall : (H : Type) → List (DataW H) → Bool := fun _ ds => decide (uptoBulkAll ds ≤ 1048576)
def OpenSpec.upto (s : _root_.Go.ChangeSpec) : _root_.Go.OpenSpec := { _root_.Go.OpenSpec.ofChange s with cond := some uptoSmall }

/-- 'parapetlaw07.MemOwn', WHERE WHAT IT READS IS OF BULK AT MOST 1048576: true; the input reads as it did. -/
def memOwnUptoRow : OpenClaim := { program := "ytcmhalmmaodmhaa", sum := "73d593023a8c0f0c009fb6a5ea87a1ec7c1cbba18cfe6b4b2c08a4abb5342eab", func := "parapet/parapetlaw07.MemOwn", spec := "memOwn", inPlace := ["sync/atomic.LoadUint32", "sync/atomic.StoreUint32"], apart := false, narrowed := true }
def MemOwnUptoSaid : Prop := memOwnUptoRow.holds Try.pinned (OpenSpec.upto memOwnSpec)

/-- 'parapetlaw07.MemCuts', WHERE WHAT IT READS IS OF BULK AT MOST 1048576: true; the input reads as it did. -/
def memCutsUptoRow : OpenClaim := { program := "ytcmhalmmaodmhaa", sum := "73d593023a8c0f0c009fb6a5ea87a1ec7c1cbba18cfe6b4b2c08a4abb5342eab", func := "parapet/parapetlaw07.MemCuts", spec := "memCuts", inPlace := ["sync/atomic.LoadUint32", "sync/atomic.StoreUint32"], apart := false, narrowed := true }
def MemCutsUptoSaid : Prop := memCutsUptoRow.holds Try.pinned (OpenSpec.upto memCutsSpec)

/-- 'parapetlaw07.MemNil', WHERE WHAT IT READS IS OF BULK AT MOST 1048576: true; the input reads as it did. -/
def memNilUptoRow : OpenClaim := { program := "ytcmhalmmaodmhaa", sum := "73d593023a8c0f0c009fb6a5ea87a1ec7c1cbba18cfe6b4b2c08a4abb5342eab", func := "parapet/parapetlaw07.MemNil", spec := "memNil", inPlace := ["sync/atomic.LoadUint32", "sync/atomic.StoreUint32"], apart := false, narrowed := true }
def MemNilUptoSaid : Prop := memNilUptoRow.holds Try.pinned (OpenSpec.upto memNilSpec)

/-- 'parapetlaw07.MemPlays', WHERE WHAT IT READS IS OF BULK AT MOST 1048576: true; the input reads as it did. -/
def memPlaysUptoRow : OpenClaim := { program := "ytcmhalmmaodmhaa", sum := "73d593023a8c0f0c009fb6a5ea87a1ec7c1cbba18cfe6b4b2c08a4abb5342eab", func := "parapet/parapetlaw07.MemPlays", spec := "memPlays", inPlace := ["sync/atomic.LoadUint32", "sync/atomic.StoreUint32"], apart := false, narrowed := true }
def MemPlaysUptoSaid : Prop := memPlaysUptoRow.holds Try.pinned (OpenSpec.upto memPlaysSpec)

/-- 'parapetlaw08.CellNil', WHERE WHAT IT READS IS OF BULK AT MOST 1048576: true; the input reads as it did. -/
def cellNilUptoRow : OpenClaim := { program := "ytcmhalmmaodmhaa", sum := "73d593023a8c0f0c009fb6a5ea87a1ec7c1cbba18cfe6b4b2c08a4abb5342eab", func := "parapet/parapetlaw08.CellNil", spec := "cellNil", inPlace := ["sync/atomic.LoadUint32", "sync/atomic.StoreUint32"], apart := false, narrowed := true }
def CellNilUptoSaid : Prop := cellNilUptoRow.holds Try.pinned (OpenSpec.upto cellNilSpec)

/-- 'parapetlaw08.CellExhausts', WHERE WHAT IT READS IS OF BULK AT MOST 1048576: true; the input reads as it did. -/
def cellExhaustsUptoRow : OpenClaim := { program := "ytcmhalmmaodmhaa", sum := "73d593023a8c0f0c009fb6a5ea87a1ec7c1cbba18cfe6b4b2c08a4abb5342eab", func := "parapet/parapetlaw08.CellExhausts", spec := "cellExhausts", inPlace := ["sync/atomic.LoadUint32", "sync/atomic.StoreUint32"], apart := false, narrowed := true }
def CellExhaustsUptoSaid : Prop := cellExhaustsUptoRow.holds Try.pinned (OpenSpec.upto cellExhaustsSpec)

/-- 'parapetlaw08.CellKeeps', WHERE WHAT IT READS IS OF BULK AT MOST 1048576: true; the input reads as it did. -/
def cellKeepsUptoRow : OpenClaim := { program := "ytcmhalmmaodmhaa", sum := "73d593023a8c0f0c009fb6a5ea87a1ec7c1cbba18cfe6b4b2c08a4abb5342eab", func := "parapet/parapetlaw08.CellKeeps", spec := "cellKeeps", inPlace := ["sync/atomic.LoadUint32", "sync/atomic.StoreUint32"], apart := false, narrowed := true }
def CellKeepsUptoSaid : Prop := cellKeepsUptoRow.holds Try.pinned (OpenSpec.upto cellKeepsSpec)

/-- 'parapetlaw08.CellRises', WHERE WHAT IT READS IS OF BULK AT MOST 1048576: true; the input reads as it did. -/
def cellRisesUptoRow : OpenClaim := { program := "ytcmhalmmaodmhaa", sum := "73d593023a8c0f0c009fb6a5ea87a1ec7c1cbba18cfe6b4b2c08a4abb5342eab", func := "parapet/parapetlaw08.CellRises", spec := "cellRises", inPlace := ["sync/atomic.LoadUint32", "sync/atomic.StoreUint32"], apart := false, narrowed := true }
def CellRisesUptoSaid : Prop := cellRisesUptoRow.holds Try.pinned (OpenSpec.upto cellRisesSpec)

/-- 'parapetlaw08.CellPlays', WHERE WHAT IT READS IS OF BULK AT MOST 1048576: true; the input reads as it did. -/
def cellPlaysUptoRow : OpenClaim := { program := "ytcmhalmmaodmhaa", sum := "73d593023a8c0f0c009fb6a5ea87a1ec7c1cbba18cfe6b4b2c08a4abb5342eab", func := "parapet/parapetlaw08.CellPlays", spec := "cellPlays", inPlace := ["sync/atomic.LoadUint32", "sync/atomic.StoreUint32"], apart := false, narrowed := true }
def CellPlaysUptoSaid : Prop := cellPlaysUptoRow.holds Try.pinned (OpenSpec.upto cellPlaysSpec)

end Rows
end Go.Proofs.Ytcmhalmmaodmhaa
