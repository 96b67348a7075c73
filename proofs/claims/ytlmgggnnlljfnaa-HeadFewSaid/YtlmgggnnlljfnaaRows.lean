/-
  No cell of these rows narrows 'for every input' (looked for: loops, veiled, ifaces, maps, wideKeys, modest, calm, conditions, laid).
  DERIVED. THE GIVEN ROWS OF THIS SEAT. 5 by the template 'for every input the law returns true; each argument reads behind the call as it read before'; 0 by the template 'total and deterministic' (their statements: YtlmgggnnlljfnaaTotals.lean).
  GIVEN WITH THE SEED: the statements are not yours to turn. If you find one false, say at which input.
  Laid BY PROGRAM, IN A SANDBOX (cutbox-rows.mjs): the forced cells as the released guide's own fill.sh prints them over the translation 954cf8d99c5a4ac5… (all of the seat's roots in one cut). By AI agents, Wed Nov 11 2026. No macro, syntax, notation, axiom, sorry.
-/
import Derived.Test.YtlmgggnnlljfnaaChecked
import GoSem.Claim
import GoSem.ClaimJoined
import GoSem.ClaimMapViews
import Derived.JoinedTies
import Derived.KernelRfl
namespace Go.Proofs.Ytlmgggnnlljfnaa
/- THE CELL 'sum', in the pinned program and in every row, IS THE sha256 OF THE DUMP (.gsa) THAT YtlmgggnnlljfnaaProg.lean LOADS. Nothing in Lean hashes anything: it is a label: what it is worth is what the hold of that sum in a sandbox is worth. -/
noncomputable def Try.pinned : Pinned := { name := "ytlmgggnnlljfnaa", sum := "954cf8d99c5a4ac53c2cda0c1503813ce552c1051ea3925ec08b75dd56a73ac3", checked := Try.checked }
namespace Rows
def none {H : Type} : Left H := { results := [], args := [] }

/-- 'dovecotelaw04.HeadApart': WHATEVER THE INPUT: true; the input reads as it did. -/
def headApartSpec : ChangeSpec := { name := "headApart", fn := fun _ => fun
  | [d1, d2] => { results := [.lit (.bool true)], args := [d1, d2] }
  | _ => none }
def headApartRow : OpenClaim := { program := "ytlmgggnnlljfnaa", sum := "954cf8d99c5a4ac53c2cda0c1503813ce552c1051ea3925ec08b75dd56a73ac3", func := "dovecote/dovecotelaw04.HeadApart", spec := "headApart", unfollowed := true, recurses := true, apart := false }
def HeadApartSaid : Prop := headApartRow.holds Try.pinned (OpenSpec.ofChange headApartSpec)

/-- ITS FALSE NEIGHBOUR: 'it returns false'. Refute it at one input. -/
def headApartWrong : ChangeSpec := { name := "headApart", fn := fun _ => fun
  | [d1, d2] => { results := [.lit (.bool false)], args := [d1, d2] }
  | _ => none }
def HeadApartWrongFalsely : Prop := headApartRow.holds Try.pinned (OpenSpec.ofChange headApartWrong)

/-- 'dovecotelaw04.HeadMaps': WHATEVER THE INPUT: true; the input reads as it did. -/
def headMapsSpec : ChangeSpec := { name := "headMaps", fn := fun _ => fun
  | [d1, d2] => { results := [.lit (.bool true)], args := [d1, d2] }
  | _ => none }
def headMapsRow : OpenClaim := { program := "ytlmgggnnlljfnaa", sum := "954cf8d99c5a4ac53c2cda0c1503813ce552c1051ea3925ec08b75dd56a73ac3", func := "dovecote/dovecotelaw04.HeadMaps", spec := "headMaps", unfollowed := true, recurses := true, apart := false }
def HeadMapsSaid : Prop := headMapsRow.holds Try.pinned (OpenSpec.ofChange headMapsSpec)

/-- ITS FALSE NEIGHBOUR: 'it returns false'. Refute it at one input. -/
def headMapsWrong : ChangeSpec := { name := "headMaps", fn := fun _ => fun
  | [d1, d2] => { results := [.lit (.bool false)], args := [d1, d2] }
  | _ => none }
def HeadMapsWrongFalsely : Prop := headMapsRow.holds Try.pinned (OpenSpec.ofChange headMapsWrong)

/-- 'dovecotelaw04.HeadTells': WHATEVER THE INPUT: true; the input reads as it did. -/
def headTellsSpec : ChangeSpec := { name := "headTells", fn := fun _ => fun
  | [d1, d2] => { results := [.lit (.bool true)], args := [d1, d2] }
  | _ => none }
def headTellsRow : OpenClaim := { program := "ytlmgggnnlljfnaa", sum := "954cf8d99c5a4ac53c2cda0c1503813ce552c1051ea3925ec08b75dd56a73ac3", func := "dovecote/dovecotelaw04.HeadTells", spec := "headTells", unfollowed := true, recurses := true, apart := false }
def HeadTellsSaid : Prop := headTellsRow.holds Try.pinned (OpenSpec.ofChange headTellsSpec)

/-- ITS FALSE NEIGHBOUR: 'it returns false'. Refute it at one input. -/
def headTellsWrong : ChangeSpec := { name := "headTells", fn := fun _ => fun
  | [d1, d2] => { results := [.lit (.bool false)], args := [d1, d2] }
  | _ => none }
def HeadTellsWrongFalsely : Prop := headTellsRow.holds Try.pinned (OpenSpec.ofChange headTellsWrong)

/-- 'dovecotelaw04.HeadBack': WHATEVER THE INPUT: true; the input reads as it did. -/
def headBackSpec : ChangeSpec := { name := "headBack", fn := fun _ => fun
  | [d1, d2] => { results := [.lit (.bool true)], args := [d1, d2] }
  | _ => none }
def headBackRow : OpenClaim := { program := "ytlmgggnnlljfnaa", sum := "954cf8d99c5a4ac53c2cda0c1503813ce552c1051ea3925ec08b75dd56a73ac3", func := "dovecote/dovecotelaw04.HeadBack", spec := "headBack", unfollowed := true, recurses := true, apart := false }
def HeadBackSaid : Prop := headBackRow.holds Try.pinned (OpenSpec.ofChange headBackSpec)

/-- ITS FALSE NEIGHBOUR: 'it returns false'. Refute it at one input. -/
def headBackWrong : ChangeSpec := { name := "headBack", fn := fun _ => fun
  | [d1, d2] => { results := [.lit (.bool false)], args := [d1, d2] }
  | _ => none }
def HeadBackWrongFalsely : Prop := headBackRow.holds Try.pinned (OpenSpec.ofChange headBackWrong)

/-- 'dovecotelaw04.HeadFew': WHATEVER THE INPUT: true; the input reads as it did. -/
def headFewSpec : ChangeSpec := { name := "headFew", fn := fun _ => fun
  | [d] => { results := [.lit (.bool true)], args := [d] }
  | _ => none }
def headFewRow : OpenClaim := { program := "ytlmgggnnlljfnaa", sum := "954cf8d99c5a4ac53c2cda0c1503813ce552c1051ea3925ec08b75dd56a73ac3", func := "dovecote/dovecotelaw04.HeadFew", spec := "headFew", unfollowed := true, recurses := true, apart := false }
def HeadFewSaid : Prop := headFewRow.holds Try.pinned (OpenSpec.ofChange headFewSpec)

/-- ITS FALSE NEIGHBOUR: 'it returns false'. Refute it at one input. -/
def headFewWrong : ChangeSpec := { name := "headFew", fn := fun _ => fun
  | [d] => { results := [.lit (.bool false)], args := [d] }
  | _ => none }
def HeadFewWrongFalsely : Prop := headFewRow.holds Try.pinned (OpenSpec.ofChange headFewWrong)

/- THE SECOND FORM. 'bulk': how many values and letters a reading holds, each counted each time it is reached (what is shared counts as often as it is met; a slice's spare places count too). A statement '..UptoSaid' is the law's where the arguments, and the package variables that the reading takes, are together of bulk at most 1048576: NARROWER than '..Said'. Prove '..Said' where nothing that the law and all that it calls make is longer than what came in: it says more and counts as full. Else prove '..UptoSaid'. A law counts once. -/
mutual
def uptoBulk {H : Type} : DataW H → Nat
  | .lit (.string bytes) => bytes.length + 1
  | .lit _ => 1
  | .nil => 1
  | .ptr d => uptoBulk d + 1
  | .slice elems spare => uptoBulkAll elems + uptoBulkAll spare + 1
  | .agg parts => uptoBulkAll parts + 1
  | .iface _ d => uptoBulk d + 1
  | .map entries => uptoBulkEntries entries + 1
  | .held _ => 1
def uptoBulkAll {H : Type} : List (DataW H) → Nat
  | [] => 0
  | d :: r => uptoBulk d + uptoBulkAll r
def uptoBulkEntries {H : Type} : List (Lit × DataW H) → Nat
  | [] => 0
  | x :: r => uptoBulkEntry x + uptoBulkEntries r
def uptoBulkEntry {H : Type} : Lit × DataW H → Nat
  | (.string bytes, d) => bytes.length + uptoBulk d + 1
  | (_, d) => uptoBulk d + 1
 end
def uptoSmall : (H : Type) → List (DataW H) → Bool := fun _ ds => decide (uptoBulkAll ds ≤ 1048576)
def OpenSpec.upto (s : _root_.Go.ChangeSpec) : _root_.Go.OpenSpec := { _root_.Go.OpenSpec.ofChange s with cond := some uptoSmall }

/-- 'dovecotelaw04.HeadApart', WHERE WHAT IT READS IS OF BULK AT MOST 1048576: true; the input reads as it did. -/
def headApartUptoRow : OpenClaim := { program := "ytlmgggnnlljfnaa", sum := "954cf8d99c5a4ac53c2cda0c1503813ce552c1051ea3925ec08b75dd56a73ac3", func := "dovecote/dovecotelaw04.HeadApart", spec := "headApart", unfollowed := true, recurses := true, apart := false, narrowed := true }
def HeadApartUptoSaid : Prop := headApartUptoRow.holds Try.pinned (OpenSpec.upto headApartSpec)

/-- 'dovecotelaw04.HeadMaps', WHERE WHAT IT READS IS OF BULK AT MOST 1048576: true; the input reads as it did. -/
def headMapsUptoRow : OpenClaim := { program := "ytlmgggnnlljfnaa", sum := "954cf8d99c5a4ac53c2cda0c1503813ce552c1051ea3925ec08b75dd56a73ac3", func := "dovecote/dovecotelaw04.HeadMaps", spec := "headMaps", unfollowed := true, recurses := true, apart := false, narrowed := true }
def HeadMapsUptoSaid : Prop := headMapsUptoRow.holds Try.pinned (OpenSpec.upto headMapsSpec)

/-- 'dovecotelaw04.HeadTells', WHERE WHAT IT READS IS OF BULK AT MOST 1048576: true; the input reads as it did. -/
def headTellsUptoRow : OpenClaim := { program := "ytlmgggnnlljfnaa", sum := "954cf8d99c5a4ac53c2cda0c1503813ce552c1051ea3925ec08b75dd56a73ac3", func := "dovecote/dovecotelaw04.HeadTells", spec := "headTells", unfollowed := true, recurses := true, apart := false, narrowed := true }
def HeadTellsUptoSaid : Prop := headTellsUptoRow.holds Try.pinned (OpenSpec.upto headTellsSpec)

/-- 'dovecotelaw04.HeadBack', WHERE WHAT IT READS IS OF BULK AT MOST 1048576: true; the input reads as it did. -/
def headBackUptoRow : OpenClaim := { program := "ytlmgggnnlljfnaa", sum := "954cf8d99c5a4ac53c2cda0c1503813ce552c1051ea3925ec08b75dd56a73ac3", func := "dovecote/dovecotelaw04.HeadBack", spec := "headBack", unfollowed := true, recurses := true, apart := false, narrowed := true }
def HeadBackUptoSaid : Prop := headBackUptoRow.holds Try.pinned (OpenSpec.upto headBackSpec)

/-- 'dovecotelaw04.HeadFew', WHERE WHAT IT READS IS OF BULK AT MOST 1048576: true; the input reads as it did. -/
def headFewUptoRow : OpenClaim := { program := "ytlmgggnnlljfnaa", sum := "954cf8d99c5a4ac53c2cda0c1503813ce552c1051ea3925ec08b75dd56a73ac3", func := "dovecote/dovecotelaw04.HeadFew", spec := "headFew", unfollowed := true, recurses := true, apart := false, narrowed := true }
def HeadFewUptoSaid : Prop := headFewUptoRow.holds Try.pinned (OpenSpec.upto headFewSpec)

end Rows
end Go.Proofs.Ytlmgggnnlljfnaa
