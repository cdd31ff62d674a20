/-
  DERIVED. Plain words: what a memory does, over lists and numbers. Nothing of the dump is imported.
-/
namespace Go.Proofs.Ytcmhalmmaodmhaa
set_option linter.unusedVariables false

/-- A memory's state: its bytes, whether the power is off, whether it is armed, how many writes are left, how many were done. -/
structure MS where
  B : List Int
  off : Bool
  armed : Bool
  left : Int
  writes : Int

def MS.write (s : MS) (i c : Int) : MS × Int :=
  if s.off = true then (s, 70)
  else if i < 0 ∨ (s.B.length : Int) ≤ i then (s, 2)
  else if s.armed = true ∧ s.left = 0 then ({ s with off := true }, 70)
  else ({ s with B := s.B.set i.toNat c, left := if s.armed = true then s.left - 1 else s.left, writes := s.writes + 1 }, 0)

def MS.read (s : MS) (i : Int) : Int × Int :=
  if s.off = true then (0, 70)
  else if i < 0 ∨ (s.B.length : Int) ≤ i then (0, 2)
  else (s.B.getD i.toNat 0, 0)

def MS.arm (s : MS) (n : Int) : MS × Int := if n < 0 then (s, 2) else ({ s with armed := true, left := n }, 0)

def MS.on (s : MS) : MS := { s with armed := false, off := false }

def MS.fresh (B : List Int) : MS := ⟨B, false, false, 0, 0⟩

/-- What every memory keeps: what is left is no negative number and fits; the count of writes is small. -/
structure MS.Ok (s : MS) (W : Int) : Prop where
  l0 : 0 ≤ s.left
  l1 : s.left ≤ 9223372036854775807
  w0 : 0 ≤ s.writes
  w1 : s.writes ≤ W
  len : s.B.length ≤ 4096

end Go.Proofs.Ytcmhalmmaodmhaa
