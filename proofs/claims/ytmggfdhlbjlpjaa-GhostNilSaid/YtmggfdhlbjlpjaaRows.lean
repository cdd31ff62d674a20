/-
  No cell of these rows narrows 'for every input' (looked for: loops, veiled, ifaces, maps, wideKeys, modest, calm, conditions, laid).
  DERIVED. THE GIVEN ROWS OF THIS SEAT. 4 by the template 'for every input the law returns true; each argument reads behind the call as it read before'; 0 by the template 'total and deterministic' (their statements: YtmggfdhlbjlpjaaTotals.lean).
  GIVEN WITH THE SEED: the statements are not yours to turn. If you find one false, say at which input.
  Laid BY PROGRAM, IN A SANDBOX (cutbox-rows.mjs): the forced cells as the released guide's own fill.sh prints them over the translation b0e4faa8d8be8a9e… (all of the seat's roots in one cut). By AI agents, Wed Nov 11 2026. No macro, syntax, notation, axiom, sorry.
-/
import Derived.Test.YtmggfdhlbjlpjaaChecked
import GoSem.Claim
import GoSem.ClaimJoined
import GoSem.ClaimMapViews
import Derived.JoinedTies
import Derived.KernelRfl
namespace Go.Proofs.Ytmggfdhlbjlpjaa
/- THE CELL 'sum', in the pinned program and in every row, IS THE sha256 OF THE DUMP (.gsa) THAT YtmggfdhlbjlpjaaProg.lean LOADS. Nothing in Lean hashes anything: it is a label: what it is worth is what the hold of that sum in a sandbox is worth. -/
noncomputable def Try.pinned : Pinned := { name := "ytmggfdhlbjlpjaa", sum := "b0e4faa8d8be8a9e3def81e623a14fc6677b9c503efda7b87aeed28273eb0b09", checked := Try.checked }
namespace Rows
def none {H : Type} : Left H := { results := [], args := [] }

/-- 'parapetlaw18.GhostJudges': WHATEVER THE INPUT: true; the input reads as it did. -/
def ghostJudgesSpec : ChangeSpec := { name := "ghostJudges", fn := fun _ => fun
  | [d1, d2] => { results := [.lit (.bool true)], args := [d1, d2] }
  | _ => none }
def ghostJudgesRow : OpenClaim := { program := "ytmggfdhlbjlpjaa", sum := "b0e4faa8d8be8a9e3def81e623a14fc6677b9c503efda7b87aeed28273eb0b09", func := "parapet/parapetlaw18.GhostJudges", spec := "ghostJudges", unfollowed := true, recurses := true, plainKeys := false, apart := false }
def GhostJudgesSaid : Prop := ghostJudgesRow.holds Try.pinned (OpenSpec.ofChange ghostJudgesSpec)

/-- ITS FALSE NEIGHBOUR: 'it returns false'. Refute it at one input. -/
def ghostJudgesWrong : ChangeSpec := { name := "ghostJudges", fn := fun _ => fun
  | [d1, d2] => { results := [.lit (.bool false)], args := [d1, d2] }
  | _ => none }
def GhostJudgesWrongFalsely : Prop := ghostJudgesRow.holds Try.pinned (OpenSpec.ofChange ghostJudgesWrong)

/-- 'parapetlaw18.GhostStarts': WHATEVER THE INPUT: true; the input reads as it did. -/
def ghostStartsSpec : ChangeSpec := { name := "ghostStarts", fn := fun _ => fun
  | [d1, d2, d3] => { results := [.lit (.bool true)], args := [d1, d2, d3] }
  | _ => none }
def ghostStartsRow : OpenClaim := { program := "ytmggfdhlbjlpjaa", sum := "b0e4faa8d8be8a9e3def81e623a14fc6677b9c503efda7b87aeed28273eb0b09", func := "parapet/parapetlaw18.GhostStarts", spec := "ghostStarts", unfollowed := true, recurses := true, plainKeys := false, apart := false }
def GhostStartsSaid : Prop := ghostStartsRow.holds Try.pinned (OpenSpec.ofChange ghostStartsSpec)

/-- ITS FALSE NEIGHBOUR: 'it returns false'. Refute it at one input. -/
def ghostStartsWrong : ChangeSpec := { name := "ghostStarts", fn := fun _ => fun
  | [d1, d2, d3] => { results := [.lit (.bool false)], args := [d1, d2, d3] }
  | _ => none }
def GhostStartsWrongFalsely : Prop := ghostStartsRow.holds Try.pinned (OpenSpec.ofChange ghostStartsWrong)

/-- 'parapetlaw18.GhostNil': WHATEVER THE INPUT: true; the input reads as it did. -/
def ghostNilSpec : ChangeSpec := { name := "ghostNil", fn := fun _ => fun
  | [d] => { results := [.lit (.bool true)], args := [d] }
  | _ => none }
def ghostNilRow : OpenClaim := { program := "ytmggfdhlbjlpjaa", sum := "b0e4faa8d8be8a9e3def81e623a14fc6677b9c503efda7b87aeed28273eb0b09", func := "parapet/parapetlaw18.GhostNil", spec := "ghostNil", unfollowed := true, recurses := true, plainKeys := false, apart := false }
def GhostNilSaid : Prop := ghostNilRow.holds Try.pinned (OpenSpec.ofChange ghostNilSpec)

/-- ITS FALSE NEIGHBOUR: 'it returns false'. Refute it at one input. -/
def ghostNilWrong : ChangeSpec := { name := "ghostNil", fn := fun _ => fun
  | [d] => { results := [.lit (.bool false)], args := [d] }
  | _ => none }
def GhostNilWrongFalsely : Prop := ghostNilRow.holds Try.pinned (OpenSpec.ofChange ghostNilWrong)

/-- 'parapetlaw18.GhostConns': WHATEVER THE INPUT: true; the input reads as it did. -/
def ghostConnsSpec : ChangeSpec := { name := "ghostConns", fn := fun _ => fun
  | [d] => { results := [.lit (.bool true)], args := [d] }
  | _ => none }
def ghostConnsRow : OpenClaim := { program := "ytmggfdhlbjlpjaa", sum := "b0e4faa8d8be8a9e3def81e623a14fc6677b9c503efda7b87aeed28273eb0b09", func := "parapet/parapetlaw18.GhostConns", spec := "ghostConns", unfollowed := true, recurses := true, plainKeys := false, apart := false }
def GhostConnsSaid : Prop := ghostConnsRow.holds Try.pinned (OpenSpec.ofChange ghostConnsSpec)

/-- ITS FALSE NEIGHBOUR: 'it returns false'. Refute it at one input. -/
def ghostConnsWrong : ChangeSpec := { name := "ghostConns", fn := fun _ => fun
  | [d] => { results := [.lit (.bool false)], args := [d] }
  | _ => none }
def GhostConnsWrongFalsely : Prop := ghostConnsRow.holds Try.pinned (OpenSpec.ofChange ghostConnsWrong)

/- THE SECOND FORM. 'bulk': how many values and letters a reading holds, each counted each time it is reached (what is shared counts as often as it is met; a slice's spare places count too). A statement '..UptoSaid' is the law's where the arguments, and the package variables that the reading takes, are together of bulk at most 1048576: NARROWER than '..Said'. Prove '..Said' where nothing that the law and all that it calls make is longer than what came in: it says more and counts as full. Else prove '..UptoSaid'. A law counts once. -/
mutual
def uptoBulk {H : Type} : DataW H → Nat
  | .lit (.string bytes) => bytes.length + 1
  | .lit _ => 1
  | .nil => 1
  | .ptr d => uptoBulk d + 1
  | .slice elems spare => uptoBulkAll elems + uptoBulkAll spare + 1
  | .agg parts => uptoBulkAll parts + 1
  | .iface _ d => uptoBulk d + 1
  | .map entries => uptoBulkEntries entries + 1
  | .held _ => 1
def uptoBulkAll {H : Type} : List (DataW H) → Nat
  | [] => 0
  | d :: r => uptoBulk d + uptoBulkAll r
def uptoBulkEntries {H : Type} : List (Lit × DataW H) → Nat
  | [] => 0
  | x :: r => uptoBulkEntry x + uptoBulkEntries r
def uptoBulkEntry {H : Type} : Lit × DataW H → Nat
  | (.string bytes, d) => bytes.length + uptoBulk d + 1
  | (_, d) => uptoBulk d + 1
 end
def uptoSmall : (H : Type) → List (DataW H) → Bool := fun _ ds => decide (uptoBulkAll ds ≤ 1048576)
def OpenSpec.upto (s : _root_.Go.ChangeSpec) : _root_.Go.OpenSpec := { _root_.Go.OpenSpec.ofChange s with cond := some uptoSmall }

/-- 'parapetlaw18.GhostJudges', WHERE WHAT IT READS IS OF BULK AT MOST 1048576: true; the input reads as it did. -/
def ghostJudgesUptoRow : OpenClaim := { program := "ytmggfdhlbjlpjaa", sum := "b0e4faa8d8be8a9e3def81e623a14fc6677b9c503efda7b87aeed28273eb0b09", func := "parapet/parapetlaw18.GhostJudges", spec := "ghostJudges", unfollowed := true, recurses := true, plainKeys := false, apart := false, narrowed := true }
def GhostJudgesUptoSaid : Prop := ghostJudgesUptoRow.holds Try.pinned (OpenSpec.upto ghostJudgesSpec)

/-- 'parapetlaw18.GhostStarts', WHERE WHAT IT READS IS OF BULK AT MOST 1048576: true; the input reads as it did. -/
def ghostStartsUptoRow : OpenClaim := { program := "ytmggfdhlbjlpjaa", sum := "b0e4faa8d8be8a9e3def81e623a14fc6677b9c503efda7b87aeed28273eb0b09", func := "parapet/parapetlaw18.GhostStarts", spec := "ghostStarts", unfollowed := true, recurses := true, plainKeys := false, apart := false, narrowed := true }
def GhostStartsUptoSaid : Prop := ghostStartsUptoRow.holds Try.pinned (OpenSpec.upto ghostStartsSpec)

/-- 'parapetlaw18.GhostNil', WHERE WHAT IT READS IS OF BULK AT MOST 1048576: true; the input reads as it did. -/
def ghostNilUptoRow : OpenClaim := { program := "ytmggfdhlbjlpjaa", sum := "b0e4faa8d8be8a9e3def81e623a14fc6677b9c503efda7b87aeed28273eb0b09", func := "parapet/parapetlaw18.GhostNil", spec := "ghostNil", unfollowed := true, recurses := true, plainKeys := false, apart := false, narrowed := true }
def GhostNilUptoSaid : Prop := ghostNilUptoRow.holds Try.pinned (OpenSpec.upto ghostNilSpec)

/-- 'parapetlaw18.GhostConns', WHERE WHAT IT READS IS OF BULK AT MOST 1048576: true; the input reads as it did. -/
def ghostConnsUptoRow : OpenClaim := { program := "ytmggfdhlbjlpjaa", sum := "b0e4faa8d8be8a9e3def81e623a14fc6677b9c503efda7b87aeed28273eb0b09", func := "parapet/parapetlaw18.GhostConns", spec := "ghostConns", unfollowed := true, recurses := true, plainKeys := false, apart := false, narrowed := true }
def GhostConnsUptoSaid : Prop := ghostConnsUptoRow.holds Try.pinned (OpenSpec.upto ghostConnsSpec)

end Rows
end Go.Proofs.Ytmggfdhlbjlpjaa
