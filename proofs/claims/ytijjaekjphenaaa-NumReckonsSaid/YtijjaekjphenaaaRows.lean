/-
  No cell of these rows narrows 'for every input' (looked for: loops, veiled, ifaces, maps, wideKeys, modest, calm, conditions, laid).
  DERIVED. THE GIVEN ROWS OF THIS SEAT. 8 by the template 'for every input the law returns true; each argument reads behind the call as it read before'; 0 by the template 'total and deterministic' (their statements: YtijjaekjphenaaaTotals.lean).
  GIVEN WITH THE SEED: the statements are not yours to turn. If you find one false, say at which input.
  Laid BY PROGRAM, IN A SANDBOX (cutbox-rows.mjs): the forced cells as the released guide's own fill.sh prints them over the translation 0c7297a52bfbcc46… (all of the seat's roots in one cut). By AI agents, Wed Nov 11 2026. No macro, syntax, notation, axiom, sorry.
-/
import Derived.Test.YtijjaekjphenaaaChecked
import GoSem.Claim
import GoSem.ClaimJoined
import GoSem.ClaimMapViews
import Derived.JoinedTies
import Derived.KernelRfl
namespace Go.Proofs.Ytijjaekjphenaaa
/- THE CELL 'sum', in the pinned program and in every row, IS THE sha256 OF THE DUMP (.gsa) THAT YtijjaekjphenaaaProg.lean LOADS. Nothing in Lean hashes anything: it is a label: what it is worth is what the hold of that sum in a sandbox is worth. -/
noncomputable def Try.pinned : Pinned := { name := "ytijjaekjphenaaa", sum := "0c7297a52bfbcc46d9b2d6d56c4c2220999fb4b2908967aca891ce1d0d92fc99", checked := Try.checked }
namespace Rows
def none {H : Type} : Left H := { results := [], args := [] }

/-- 'dovecotelaw01.NumLaws': WHATEVER THE INPUT: true; the input reads as it did. -/
def numLawsSpec : ChangeSpec := { name := "numLaws", fn := fun _ => fun
  | [d1, d2, d3] => { results := [.lit (.bool true)], args := [d1, d2, d3] }
  | _ => none }
def numLawsRow : OpenClaim := { program := "ytijjaekjphenaaa", sum := "0c7297a52bfbcc46d9b2d6d56c4c2220999fb4b2908967aca891ce1d0d92fc99", func := "dovecote/dovecotelaw01.NumLaws", spec := "numLaws", unfollowed := true, recurses := true, apart := false }
def NumLawsSaid : Prop := numLawsRow.holds Try.pinned (OpenSpec.ofChange numLawsSpec)

/-- ITS FALSE NEIGHBOUR: 'it returns false'. Refute it at one input. -/
def numLawsWrong : ChangeSpec := { name := "numLaws", fn := fun _ => fun
  | [d1, d2, d3] => { results := [.lit (.bool false)], args := [d1, d2, d3] }
  | _ => none }
def NumLawsWrongFalsely : Prop := numLawsRow.holds Try.pinned (OpenSpec.ofChange numLawsWrong)

/-- 'dovecotelaw01.NumParts': WHATEVER THE INPUT: true; the input reads as it did. -/
def numPartsSpec : ChangeSpec := { name := "numParts", fn := fun _ => fun
  | [d1, d2] => { results := [.lit (.bool true)], args := [d1, d2] }
  | _ => none }
def numPartsRow : OpenClaim := { program := "ytijjaekjphenaaa", sum := "0c7297a52bfbcc46d9b2d6d56c4c2220999fb4b2908967aca891ce1d0d92fc99", func := "dovecote/dovecotelaw01.NumParts", spec := "numParts", unfollowed := true, recurses := true, apart := false }
def NumPartsSaid : Prop := numPartsRow.holds Try.pinned (OpenSpec.ofChange numPartsSpec)

/-- ITS FALSE NEIGHBOUR: 'it returns false'. Refute it at one input. -/
def numPartsWrong : ChangeSpec := { name := "numParts", fn := fun _ => fun
  | [d1, d2] => { results := [.lit (.bool false)], args := [d1, d2] }
  | _ => none }
def NumPartsWrongFalsely : Prop := numPartsRow.holds Try.pinned (OpenSpec.ofChange numPartsWrong)

/-- 'dovecotelaw01.NumBack': WHATEVER THE INPUT: true; the input reads as it did. -/
def numBackSpec : ChangeSpec := { name := "numBack", fn := fun _ => fun
  | [d1, d2, d3] => { results := [.lit (.bool true)], args := [d1, d2, d3] }
  | _ => none }
def numBackRow : OpenClaim := { program := "ytijjaekjphenaaa", sum := "0c7297a52bfbcc46d9b2d6d56c4c2220999fb4b2908967aca891ce1d0d92fc99", func := "dovecote/dovecotelaw01.NumBack", spec := "numBack", unfollowed := true, recurses := true, apart := false }
def NumBackSaid : Prop := numBackRow.holds Try.pinned (OpenSpec.ofChange numBackSpec)

/-- ITS FALSE NEIGHBOUR: 'it returns false'. Refute it at one input. -/
def numBackWrong : ChangeSpec := { name := "numBack", fn := fun _ => fun
  | [d1, d2, d3] => { results := [.lit (.bool false)], args := [d1, d2, d3] }
  | _ => none }
def NumBackWrongFalsely : Prop := numBackRow.holds Try.pinned (OpenSpec.ofChange numBackWrong)

/-- 'dovecotelaw01.NumConjs': WHATEVER THE INPUT: true; the input reads as it did. -/
def numConjsSpec : ChangeSpec := { name := "numConjs", fn := fun _ => fun
  | [d1, d2] => { results := [.lit (.bool true)], args := [d1, d2] }
  | _ => none }
def numConjsRow : OpenClaim := { program := "ytijjaekjphenaaa", sum := "0c7297a52bfbcc46d9b2d6d56c4c2220999fb4b2908967aca891ce1d0d92fc99", func := "dovecote/dovecotelaw01.NumConjs", spec := "numConjs", unfollowed := true, recurses := true, apart := false }
def NumConjsSaid : Prop := numConjsRow.holds Try.pinned (OpenSpec.ofChange numConjsSpec)

/-- ITS FALSE NEIGHBOUR: 'it returns false'. Refute it at one input. -/
def numConjsWrong : ChangeSpec := { name := "numConjs", fn := fun _ => fun
  | [d1, d2] => { results := [.lit (.bool false)], args := [d1, d2] }
  | _ => none }
def NumConjsWrongFalsely : Prop := numConjsRow.holds Try.pinned (OpenSpec.ofChange numConjsWrong)

/-- 'dovecotelaw01.NumOther': WHATEVER THE INPUT: true; the input reads as it did. -/
def numOtherSpec : ChangeSpec := { name := "numOther", fn := fun _ => fun
  | [d] => { results := [.lit (.bool true)], args := [d] }
  | _ => none }
def numOtherRow : OpenClaim := { program := "ytijjaekjphenaaa", sum := "0c7297a52bfbcc46d9b2d6d56c4c2220999fb4b2908967aca891ce1d0d92fc99", func := "dovecote/dovecotelaw01.NumOther", spec := "numOther", unfollowed := true, recurses := true, apart := false }
def NumOtherSaid : Prop := numOtherRow.holds Try.pinned (OpenSpec.ofChange numOtherSpec)

/-- ITS FALSE NEIGHBOUR: 'it returns false'. Refute it at one input. -/
def numOtherWrong : ChangeSpec := { name := "numOther", fn := fun _ => fun
  | [d] => { results := [.lit (.bool false)], args := [d] }
  | _ => none }
def NumOtherWrongFalsely : Prop := numOtherRow.holds Try.pinned (OpenSpec.ofChange numOtherWrong)

/-- 'dovecotelaw01.NumTurns': WHATEVER THE INPUT: true; the input reads as it did. -/
def numTurnsSpec : ChangeSpec := { name := "numTurns", fn := fun _ => fun
  | [d1, d2, d3] => { results := [.lit (.bool true)], args := [d1, d2, d3] }
  | _ => none }
def numTurnsRow : OpenClaim := { program := "ytijjaekjphenaaa", sum := "0c7297a52bfbcc46d9b2d6d56c4c2220999fb4b2908967aca891ce1d0d92fc99", func := "dovecote/dovecotelaw01.NumTurns", spec := "numTurns", unfollowed := true, recurses := true, apart := false }
def NumTurnsSaid : Prop := numTurnsRow.holds Try.pinned (OpenSpec.ofChange numTurnsSpec)

/-- ITS FALSE NEIGHBOUR: 'it returns false'. Refute it at one input. -/
def numTurnsWrong : ChangeSpec := { name := "numTurns", fn := fun _ => fun
  | [d1, d2, d3] => { results := [.lit (.bool false)], args := [d1, d2, d3] }
  | _ => none }
def NumTurnsWrongFalsely : Prop := numTurnsRow.holds Try.pinned (OpenSpec.ofChange numTurnsWrong)

/-- 'dovecotelaw01.NumZero': WHATEVER THE INPUT: true; the input reads as it did. -/
def numZeroSpec : ChangeSpec := { name := "numZero", fn := fun _ => fun
  | [d] => { results := [.lit (.bool true)], args := [d] }
  | _ => none }
def numZeroRow : OpenClaim := { program := "ytijjaekjphenaaa", sum := "0c7297a52bfbcc46d9b2d6d56c4c2220999fb4b2908967aca891ce1d0d92fc99", func := "dovecote/dovecotelaw01.NumZero", spec := "numZero", unfollowed := true, recurses := true, apart := false }
def NumZeroSaid : Prop := numZeroRow.holds Try.pinned (OpenSpec.ofChange numZeroSpec)

/-- ITS FALSE NEIGHBOUR: 'it returns false'. Refute it at one input. -/
def numZeroWrong : ChangeSpec := { name := "numZero", fn := fun _ => fun
  | [d] => { results := [.lit (.bool false)], args := [d] }
  | _ => none }
def NumZeroWrongFalsely : Prop := numZeroRow.holds Try.pinned (OpenSpec.ofChange numZeroWrong)

/-- 'dovecotelaw01.NumReckons': WHATEVER THE INPUT: true; the input reads as it did. -/
def numReckonsSpec : ChangeSpec := { name := "numReckons", fn := fun _ => fun
  | [d] => { results := [.lit (.bool true)], args := [d] }
  | _ => none }
def numReckonsRow : OpenClaim := { program := "ytijjaekjphenaaa", sum := "0c7297a52bfbcc46d9b2d6d56c4c2220999fb4b2908967aca891ce1d0d92fc99", func := "dovecote/dovecotelaw01.NumReckons", spec := "numReckons", unfollowed := true, recurses := true, apart := false }
def NumReckonsSaid : Prop := numReckonsRow.holds Try.pinned (OpenSpec.ofChange numReckonsSpec)

/-- ITS FALSE NEIGHBOUR: 'it returns false'. Refute it at one input. -/
def numReckonsWrong : ChangeSpec := { name := "numReckons", fn := fun _ => fun
  | [d] => { results := [.lit (.bool false)], args := [d] }
  | _ => none }
def NumReckonsWrongFalsely : Prop := numReckonsRow.holds Try.pinned (OpenSpec.ofChange numReckonsWrong)

/- THE SECOND FORM. 'bulk': how many values and letters a reading holds, each counted each time it is reached (what is shared counts as often as it is met; a slice's spare places count too). A statement '..UptoSaid' is the law's where the arguments, and the package variables that the reading takes, are together of bulk at most 1048576: NARROWER than '..Said'. Prove '..Said' where nothing that the law and all that it calls make is longer than what came in: it says more and counts as full. Else prove '..UptoSaid'. A law counts once. -/
mutual
def uptoBulk {H : Type} : DataW H → Nat
  | .lit (.string bytes) => bytes.length + 1
  | .lit _ => 1
  | .nil => 1
  | .ptr d => uptoBulk d + 1
  | .slice elems spare => uptoBulkAll elems + uptoBulkAll spare + 1
  | .agg parts => uptoBulkAll parts + 1
  | .iface _ d => uptoBulk d + 1
  | .map entries => uptoBulkEntries entries + 1
  | .held _ => 1
def uptoBulkAll {H : Type} : List (DataW H) → Nat
  | [] => 0
  | d :: r => uptoBulk d + uptoBulkAll r
def uptoBulkEntries {H : Type} : List (Lit × DataW H) → Nat
  | [] => 0
  | x :: r => uptoBulkEntry x + uptoBulkEntries r
def uptoBulkEntry {H : Type} : Lit × DataW H → Nat
  | (.string bytes, d) => bytes.length + uptoBulk d + 1
  | (_, d) => uptoBulk d + 1
 end
def uptoSmall : (H : Type) → List (DataW H) → Bool := fun _ ds => decide (uptoBulkAll ds ≤ 1048576)
def OpenSpec.upto (s : _root_.Go.ChangeSpec) : _root_.Go.OpenSpec := { _root_.Go.OpenSpec.ofChange s with cond := some uptoSmall }

/-- 'dovecotelaw01.NumLaws', WHERE WHAT IT READS IS OF BULK AT MOST 1048576: true; the input reads as it did. -/
def numLawsUptoRow : OpenClaim := { program := "ytijjaekjphenaaa", sum := "0c7297a52bfbcc46d9b2d6d56c4c2220999fb4b2908967aca891ce1d0d92fc99", func := "dovecote/dovecotelaw01.NumLaws", spec := "numLaws", unfollowed := true, recurses := true, apart := false, narrowed := true }
def NumLawsUptoSaid : Prop := numLawsUptoRow.holds Try.pinned (OpenSpec.upto numLawsSpec)

/-- 'dovecotelaw01.NumParts', WHERE WHAT IT READS IS OF BULK AT MOST 1048576: true; the input reads as it did. -/
def numPartsUptoRow : OpenClaim := { program := "ytijjaekjphenaaa", sum := "0c7297a52bfbcc46d9b2d6d56c4c2220999fb4b2908967aca891ce1d0d92fc99", func := "dovecote/dovecotelaw01.NumParts", spec := "numParts", unfollowed := true, recurses := true, apart := false, narrowed := true }
def NumPartsUptoSaid : Prop := numPartsUptoRow.holds Try.pinned (OpenSpec.upto numPartsSpec)

/-- 'dovecotelaw01.NumBack', WHERE WHAT IT READS IS OF BULK AT MOST 1048576: true; the input reads as it did. -/
def numBackUptoRow : OpenClaim := { program := "ytijjaekjphenaaa", sum := "0c7297a52bfbcc46d9b2d6d56c4c2220999fb4b2908967aca891ce1d0d92fc99", func := "dovecote/dovecotelaw01.NumBack", spec := "numBack", unfollowed := true, recurses := true, apart := false, narrowed := true }
def NumBackUptoSaid : Prop := numBackUptoRow.holds Try.pinned (OpenSpec.upto numBackSpec)

/-- 'dovecotelaw01.NumConjs', WHERE WHAT IT READS IS OF BULK AT MOST 1048576: true; the input reads as it did. -/
def numConjsUptoRow : OpenClaim := { program := "ytijjaekjphenaaa", sum := "0c7297a52bfbcc46d9b2d6d56c4c2220999fb4b2908967aca891ce1d0d92fc99", func := "dovecote/dovecotelaw01.NumConjs", spec := "numConjs", unfollowed := true, recurses := true, apart := false, narrowed := true }
def NumConjsUptoSaid : Prop := numConjsUptoRow.holds Try.pinned (OpenSpec.upto numConjsSpec)

/-- 'dovecotelaw01.NumOther', WHERE WHAT IT READS IS OF BULK AT MOST 1048576: true; the input reads as it did. -/
def numOtherUptoRow : OpenClaim := { program := "ytijjaekjphenaaa", sum := "0c7297a52bfbcc46d9b2d6d56c4c2220999fb4b2908967aca891ce1d0d92fc99", func := "dovecote/dovecotelaw01.NumOther", spec := "numOther", unfollowed := true, recurses := true, apart := false, narrowed := true }
def NumOtherUptoSaid : Prop := numOtherUptoRow.holds Try.pinned (OpenSpec.upto numOtherSpec)

/-- 'dovecotelaw01.NumTurns', WHERE WHAT IT READS IS OF BULK AT MOST 1048576: true; the input reads as it did. -/
def numTurnsUptoRow : OpenClaim := { program := "ytijjaekjphenaaa", sum := "0c7297a52bfbcc46d9b2d6d56c4c2220999fb4b2908967aca891ce1d0d92fc99", func := "dovecote/dovecotelaw01.NumTurns", spec := "numTurns", unfollowed := true, recurses := true, apart := false, narrowed := true }
def NumTurnsUptoSaid : Prop := numTurnsUptoRow.holds Try.pinned (OpenSpec.upto numTurnsSpec)

/-- 'dovecotelaw01.NumZero', WHERE WHAT IT READS IS OF BULK AT MOST 1048576: true; the input reads as it did. -/
def numZeroUptoRow : OpenClaim := { program := "ytijjaekjphenaaa", sum := "0c7297a52bfbcc46d9b2d6d56c4c2220999fb4b2908967aca891ce1d0d92fc99", func := "dovecote/dovecotelaw01.NumZero", spec := "numZero", unfollowed := true, recurses := true, apart := false, narrowed := true }
def NumZeroUptoSaid : Prop := numZeroUptoRow.holds Try.pinned (OpenSpec.upto numZeroSpec)

/-- 'dovecotelaw01.NumReckons', WHERE WHAT IT READS IS OF BULK AT MOST 1048576: true; the input reads as it did. -/
def numReckonsUptoRow : OpenClaim := { program := "ytijjaekjphenaaa", sum := "0c7297a52bfbcc46d9b2d6d56c4c2220999fb4b2908967aca891ce1d0d92fc99", func := "dovecote/dovecotelaw01.NumReckons", spec := "numReckons", unfollowed := true, recurses := true, apart := false, narrowed := true }
def NumReckonsUptoSaid : Prop := numReckonsUptoRow.holds Try.pinned (OpenSpec.upto numReckonsSpec)

end Rows
end Go.Proofs.Ytijjaekjphenaaa
