/-
  No cell of these rows narrows 'for every input' (looked for: loops, veiled, ifaces, maps, wideKeys, modest, calm, conditions, laid).
  DERIVED. THE GIVEN ROWS OF THIS SEAT. 7 by the template 'for every input the law returns true; each argument reads behind the call as it read before'; 0 by the template 'total and deterministic' (their statements: YtlldfglmoeeocaaTotals.lean).
  GIVEN WITH THE SEED: the statements are not yours to turn. If you find one false, say at which input.
  Laid BY PROGRAM, IN A SANDBOX (cutbox-rows.mjs): the forced cells as the released guide's own fill.sh prints them over the translation daf4772423f78ebe… (all of the seat's roots in one cut). By AI agents, Wed Nov 11 2026. No macro, syntax, notation, axiom, sorry.
-/
import Derived.Test.YtlldfglmoeeocaaChecked
import GoSem.Claim
import GoSem.ClaimJoined
import GoSem.ClaimMapViews
import Derived.JoinedTies
import Derived.KernelRfl
namespace Go.Proofs.Ytlldfglmoeeocaa
/- THE CELL 'sum', in the pinned program and in every row, IS THE sha256 OF THE DUMP (.gsa) THAT YtlldfglmoeeocaaProg.lean LOADS. Nothing in Lean hashes anything: it is a label: what it is worth is what the hold of that sum in a sandbox is worth. -/
noncomputable def Try.pinned : Pinned := { name := "ytlldfglmoeeocaa", sum := "daf4772423f78ebe483356a3063a5ff6b74e4c94b899a2dbb1beca87206b088b", checked := Try.checked }
namespace Rows
def none {H : Type} : Left H := { results := [], args := [] }

/-- 'dovecotelaw02.SizeApart': WHATEVER THE INPUT: true; the input reads as it did. -/
def sizeApartSpec : ChangeSpec := { name := "sizeApart", fn := fun _ => fun
  | [d] => { results := [.lit (.bool true)], args := [d] }
  | _ => none }
def sizeApartRow : OpenClaim := { program := "ytlldfglmoeeocaa", sum := "daf4772423f78ebe483356a3063a5ff6b74e4c94b899a2dbb1beca87206b088b", func := "dovecote/dovecotelaw02.SizeApart", spec := "sizeApart", apart := false }
def SizeApartSaid : Prop := sizeApartRow.holds Try.pinned (OpenSpec.ofChange sizeApartSpec)

/-- ITS FALSE NEIGHBOUR: 'it returns false'. Refute it at one input. -/
def sizeApartWrong : ChangeSpec := { name := "sizeApart", fn := fun _ => fun
  | [d] => { results := [.lit (.bool false)], args := [d] }
  | _ => none }
def SizeApartWrongFalsely : Prop := sizeApartRow.holds Try.pinned (OpenSpec.ofChange sizeApartWrong)

/-- 'dovecotelaw02.SizeObjects': WHATEVER THE INPUT: true; the input reads as it did. -/
def sizeObjectsSpec : ChangeSpec := { name := "sizeObjects", fn := fun _ => fun
  | [d] => { results := [.lit (.bool true)], args := [d] }
  | _ => none }
def sizeObjectsRow : OpenClaim := { program := "ytlldfglmoeeocaa", sum := "daf4772423f78ebe483356a3063a5ff6b74e4c94b899a2dbb1beca87206b088b", func := "dovecote/dovecotelaw02.SizeObjects", spec := "sizeObjects", apart := false }
def SizeObjectsSaid : Prop := sizeObjectsRow.holds Try.pinned (OpenSpec.ofChange sizeObjectsSpec)

/-- ITS FALSE NEIGHBOUR: 'it returns false'. Refute it at one input. -/
def sizeObjectsWrong : ChangeSpec := { name := "sizeObjects", fn := fun _ => fun
  | [d] => { results := [.lit (.bool false)], args := [d] }
  | _ => none }
def SizeObjectsWrongFalsely : Prop := sizeObjectsRow.holds Try.pinned (OpenSpec.ofChange sizeObjectsWrong)

/-- 'dovecotelaw02.SizeOrder': WHATEVER THE INPUT: true; the input reads as it did. -/
def sizeOrderSpec : ChangeSpec := { name := "sizeOrder", fn := fun _ => fun
  | [d1, d2, d3] => { results := [.lit (.bool true)], args := [d1, d2, d3] }
  | _ => none }
def sizeOrderRow : OpenClaim := { program := "ytlldfglmoeeocaa", sum := "daf4772423f78ebe483356a3063a5ff6b74e4c94b899a2dbb1beca87206b088b", func := "dovecote/dovecotelaw02.SizeOrder", spec := "sizeOrder", apart := false }
def SizeOrderSaid : Prop := sizeOrderRow.holds Try.pinned (OpenSpec.ofChange sizeOrderSpec)

/-- ITS FALSE NEIGHBOUR: 'it returns false'. Refute it at one input. -/
def sizeOrderWrong : ChangeSpec := { name := "sizeOrder", fn := fun _ => fun
  | [d1, d2, d3] => { results := [.lit (.bool false)], args := [d1, d2, d3] }
  | _ => none }
def SizeOrderWrongFalsely : Prop := sizeOrderRow.holds Try.pinned (OpenSpec.ofChange sizeOrderWrong)

/-- 'dovecotelaw02.SizeBack': WHATEVER THE INPUT: true; the input reads as it did. -/
def sizeBackSpec : ChangeSpec := { name := "sizeBack", fn := fun _ => fun
  | [d1, d2, d3] => { results := [.lit (.bool true)], args := [d1, d2, d3] }
  | _ => none }
def sizeBackRow : OpenClaim := { program := "ytlldfglmoeeocaa", sum := "daf4772423f78ebe483356a3063a5ff6b74e4c94b899a2dbb1beca87206b088b", func := "dovecote/dovecotelaw02.SizeBack", spec := "sizeBack", apart := false }
def SizeBackSaid : Prop := sizeBackRow.holds Try.pinned (OpenSpec.ofChange sizeBackSpec)

/-- ITS FALSE NEIGHBOUR: 'it returns false'. Refute it at one input. -/
def sizeBackWrong : ChangeSpec := { name := "sizeBack", fn := fun _ => fun
  | [d1, d2, d3] => { results := [.lit (.bool false)], args := [d1, d2, d3] }
  | _ => none }
def SizeBackWrongFalsely : Prop := sizeBackRow.holds Try.pinned (OpenSpec.ofChange sizeBackWrong)

/-- 'dovecotelaw02.SizeSums': WHATEVER THE INPUT: true; the input reads as it did. -/
def sizeSumsSpec : ChangeSpec := { name := "sizeSums", fn := fun _ => fun
  | [d1, d2] => { results := [.lit (.bool true)], args := [d1, d2] }
  | _ => none }
def sizeSumsRow : OpenClaim := { program := "ytlldfglmoeeocaa", sum := "daf4772423f78ebe483356a3063a5ff6b74e4c94b899a2dbb1beca87206b088b", func := "dovecote/dovecotelaw02.SizeSums", spec := "sizeSums", unfollowed := true, recurses := true, apart := false }
def SizeSumsSaid : Prop := sizeSumsRow.holds Try.pinned (OpenSpec.ofChange sizeSumsSpec)

/-- ITS FALSE NEIGHBOUR: 'it returns false'. Refute it at one input. -/
def sizeSumsWrong : ChangeSpec := { name := "sizeSums", fn := fun _ => fun
  | [d1, d2] => { results := [.lit (.bool false)], args := [d1, d2] }
  | _ => none }
def SizeSumsWrongFalsely : Prop := sizeSumsRow.holds Try.pinned (OpenSpec.ofChange sizeSumsWrong)

/-- 'dovecotelaw02.SizeFits': WHATEVER THE INPUT: true; the input reads as it did. -/
def sizeFitsSpec : ChangeSpec := { name := "sizeFits", fn := fun _ => fun
  | [d1, d2, d3] => { results := [.lit (.bool true)], args := [d1, d2, d3] }
  | _ => none }
def sizeFitsRow : OpenClaim := { program := "ytlldfglmoeeocaa", sum := "daf4772423f78ebe483356a3063a5ff6b74e4c94b899a2dbb1beca87206b088b", func := "dovecote/dovecotelaw02.SizeFits", spec := "sizeFits", unfollowed := true, recurses := true, apart := false }
def SizeFitsSaid : Prop := sizeFitsRow.holds Try.pinned (OpenSpec.ofChange sizeFitsSpec)

/-- ITS FALSE NEIGHBOUR: 'it returns false'. Refute it at one input. -/
def sizeFitsWrong : ChangeSpec := { name := "sizeFits", fn := fun _ => fun
  | [d1, d2, d3] => { results := [.lit (.bool false)], args := [d1, d2, d3] }
  | _ => none }
def SizeFitsWrongFalsely : Prop := sizeFitsRow.holds Try.pinned (OpenSpec.ofChange sizeFitsWrong)

/-- 'dovecotelaw02.SizeTells': WHATEVER THE INPUT: true; the input reads as it did. -/
def sizeTellsSpec : ChangeSpec := { name := "sizeTells", fn := fun _ => fun
  | [d] => { results := [.lit (.bool true)], args := [d] }
  | _ => none }
def sizeTellsRow : OpenClaim := { program := "ytlldfglmoeeocaa", sum := "daf4772423f78ebe483356a3063a5ff6b74e4c94b899a2dbb1beca87206b088b", func := "dovecote/dovecotelaw02.SizeTells", spec := "sizeTells", unfollowed := true, recurses := true, apart := false }
def SizeTellsSaid : Prop := sizeTellsRow.holds Try.pinned (OpenSpec.ofChange sizeTellsSpec)

/-- ITS FALSE NEIGHBOUR: 'it returns false'. Refute it at one input. -/
def sizeTellsWrong : ChangeSpec := { name := "sizeTells", fn := fun _ => fun
  | [d] => { results := [.lit (.bool false)], args := [d] }
  | _ => none }
def SizeTellsWrongFalsely : Prop := sizeTellsRow.holds Try.pinned (OpenSpec.ofChange sizeTellsWrong)

/- THE SECOND FORM. 'bulk': how many values and letters a reading holds, each counted each time it is reached (what is shared counts as often as it is met; a slice's spare places count too). A statement '..UptoSaid' is the law's where the arguments, and the package variables that the reading takes, are together of bulk at most 1048576: NARROWER than '..Said'. Prove '..Said' where nothing that the law and all that it calls make is longer than what came in: it says more and counts as full. Else prove '..UptoSaid'. A law counts once. -/
mutual
def uptoBulk {H : Type} : DataW H → Nat
  | .lit (.string bytes) => bytes.length + 1
  | .lit _ => 1
  | .nil => 1
  | .ptr d => uptoBulk d + 1
  | .slice elems spare => uptoBulkAll elems + uptoBulkAll spare + 1
  | .agg parts => uptoBulkAll parts + 1
  | .iface _ d => uptoBulk d + 1
  | .map entries => uptoBulkEntries entries + 1
  | .held _ => 1
def uptoBulkAll {H : Type} : List (DataW H) → Nat
  | [] => 0
  | d :: r => uptoBulk d + uptoBulkAll r
def uptoBulkEntries {H : Type} : List (Lit × DataW H) → Nat
  | [] => 0
  | x :: r => uptoBulkEntry x + uptoBulkEntries r
def uptoBulkEntry {H : Type} : Lit × DataW H → Nat
  | (.string bytes, d) => bytes.length + uptoBulk d + 1
  | (_, d) => uptoBulk d + 1
 end
def uptoSmall : (H : Type) → List (DataW H) → Bool := fun _ ds => decide (uptoBulkAll ds ≤ 1048576)
def OpenSpec.upto (s : _root_.Go.ChangeSpec) : _root_.Go.OpenSpec := { _root_.Go.OpenSpec.ofChange s with cond := some uptoSmall }

/-- 'dovecotelaw02.SizeApart', WHERE WHAT IT READS IS OF BULK AT MOST 1048576: true; the input reads as it did. -/
def sizeApartUptoRow : OpenClaim := { program := "ytlldfglmoeeocaa", sum := "daf4772423f78ebe483356a3063a5ff6b74e4c94b899a2dbb1beca87206b088b", func := "dovecote/dovecotelaw02.SizeApart", spec := "sizeApart", apart := false, narrowed := true }
def SizeApartUptoSaid : Prop := sizeApartUptoRow.holds Try.pinned (OpenSpec.upto sizeApartSpec)

/-- 'dovecotelaw02.SizeObjects', WHERE WHAT IT READS IS OF BULK AT MOST 1048576: true; the input reads as it did. -/
def sizeObjectsUptoRow : OpenClaim := { program := "ytlldfglmoeeocaa", sum := "daf4772423f78ebe483356a3063a5ff6b74e4c94b899a2dbb1beca87206b088b", func := "dovecote/dovecotelaw02.SizeObjects", spec := "sizeObjects", apart := false, narrowed := true }
def SizeObjectsUptoSaid : Prop := sizeObjectsUptoRow.holds Try.pinned (OpenSpec.upto sizeObjectsSpec)

/-- 'dovecotelaw02.SizeOrder', WHERE WHAT IT READS IS OF BULK AT MOST 1048576: true; the input reads as it did. -/
def sizeOrderUptoRow : OpenClaim := { program := "ytlldfglmoeeocaa", sum := "daf4772423f78ebe483356a3063a5ff6b74e4c94b899a2dbb1beca87206b088b", func := "dovecote/dovecotelaw02.SizeOrder", spec := "sizeOrder", apart := false, narrowed := true }
def SizeOrderUptoSaid : Prop := sizeOrderUptoRow.holds Try.pinned (OpenSpec.upto sizeOrderSpec)

/-- 'dovecotelaw02.SizeBack', WHERE WHAT IT READS IS OF BULK AT MOST 1048576: true; the input reads as it did. -/
def sizeBackUptoRow : OpenClaim := { program := "ytlldfglmoeeocaa", sum := "daf4772423f78ebe483356a3063a5ff6b74e4c94b899a2dbb1beca87206b088b", func := "dovecote/dovecotelaw02.SizeBack", spec := "sizeBack", apart := false, narrowed := true }
def SizeBackUptoSaid : Prop := sizeBackUptoRow.holds Try.pinned (OpenSpec.upto sizeBackSpec)

/-- 'dovecotelaw02.SizeSums', WHERE WHAT IT READS IS OF BULK AT MOST 1048576: true; the input reads as it did. -/
def sizeSumsUptoRow : OpenClaim := { program := "ytlldfglmoeeocaa", sum := "daf4772423f78ebe483356a3063a5ff6b74e4c94b899a2dbb1beca87206b088b", func := "dovecote/dovecotelaw02.SizeSums", spec := "sizeSums", unfollowed := true, recurses := true, apart := false, narrowed := true }
def SizeSumsUptoSaid : Prop := sizeSumsUptoRow.holds Try.pinned (OpenSpec.upto sizeSumsSpec)

/-- 'dovecotelaw02.SizeFits', WHERE WHAT IT READS IS OF BULK AT MOST 1048576: true; the input reads as it did. -/
def sizeFitsUptoRow : OpenClaim := { program := "ytlldfglmoeeocaa", sum := "daf4772423f78ebe483356a3063a5ff6b74e4c94b899a2dbb1beca87206b088b", func := "dovecote/dovecotelaw02.SizeFits", spec := "sizeFits", unfollowed := true, recurses := true, apart := false, narrowed := true }
def SizeFitsUptoSaid : Prop := sizeFitsUptoRow.holds Try.pinned (OpenSpec.upto sizeFitsSpec)

/-- 'dovecotelaw02.SizeTells', WHERE WHAT IT READS IS OF BULK AT MOST 1048576: true; the input reads as it did. -/
def sizeTellsUptoRow : OpenClaim := { program := "ytlldfglmoeeocaa", sum := "daf4772423f78ebe483356a3063a5ff6b74e4c94b899a2dbb1beca87206b088b", func := "dovecote/dovecotelaw02.SizeTells", spec := "sizeTells", unfollowed := true, recurses := true, apart := false, narrowed := true }
def SizeTellsUptoSaid : Prop := sizeTellsUptoRow.holds Try.pinned (OpenSpec.upto sizeTellsSpec)

end Rows
end Go.Proofs.Ytlldfglmoeeocaa
