/-
  No cell of these rows narrows 'for every input' (looked for: loops, veiled, ifaces, maps, wideKeys, modest, calm, conditions, laid).
  DERIVED. THE GIVEN ROWS OF THIS SEAT. 8 by the template 'for every input the law returns true; each argument reads behind the call as it read before'; 0 by the template 'total and deterministic' (their statements: YtjobhdcjjegpfaaTotals.lean).
  GIVEN WITH THE SEED: the statements are not yours to turn. If you find one false, say at which input.
  Laid BY PROGRAM, IN A SANDBOX (cutbox-rows.mjs): the forced cells as the released guide's own fill.sh prints them over the translation df14f036fd5c2dc2… (all of the seat's roots in one cut). By AI agents, Wed Nov 11 2026. No macro, syntax, notation, axiom, sorry.
-/
import Derived.Test.YtjobhdcjjegpfaaChecked
import GoSem.Claim
import GoSem.ClaimJoined
import GoSem.ClaimMapViews
import Derived.JoinedTies
import Derived.KernelRfl
namespace Go.Proofs.Ytjobhdcjjegpfaa
/- THE CELL 'sum', in the pinned program and in every row, IS THE sha256 OF THE DUMP (.gsa) THAT YtjobhdcjjegpfaaProg.lean LOADS. Nothing in Lean hashes anything: it is a label: what it is worth is what the hold of that sum in a sandbox is worth. -/
noncomputable def Try.pinned : Pinned := { name := "ytjobhdcjjegpfaa", sum := "df14f036fd5c2dc2ec01851d5681bffa789525e3768b0457d7c03d6de2991e70", checked := Try.checked }
namespace Rows
def none {H : Type} : Left H := { results := [], args := [] }

/-- 'dovecotelaw03.ArenaBack': WHATEVER THE INPUT: true; the input reads as it did. -/
def arenaBackSpec : ChangeSpec := { name := "arenaBack", fn := fun _ => fun
  | [d] => { results := [.lit (.bool true)], args := [d] }
  | _ => none }
def arenaBackRow : OpenClaim := { program := "ytjobhdcjjegpfaa", sum := "df14f036fd5c2dc2ec01851d5681bffa789525e3768b0457d7c03d6de2991e70", func := "dovecote/dovecotelaw03.ArenaBack", spec := "arenaBack", unfollowed := true, recurses := true, apart := false }
def ArenaBackSaid : Prop := arenaBackRow.holds Try.pinned (OpenSpec.ofChange arenaBackSpec)

/-- ITS FALSE NEIGHBOUR: 'it returns false'. Refute it at one input. -/
def arenaBackWrong : ChangeSpec := { name := "arenaBack", fn := fun _ => fun
  | [d] => { results := [.lit (.bool false)], args := [d] }
  | _ => none }
def ArenaBackWrongFalsely : Prop := arenaBackRow.holds Try.pinned (OpenSpec.ofChange arenaBackWrong)

/-- 'dovecotelaw03.ArenaTwo': WHATEVER THE INPUT: true; the input reads as it did. -/
def arenaTwoSpec : ChangeSpec := { name := "arenaTwo", fn := fun _ => fun
  | [d] => { results := [.lit (.bool true)], args := [d] }
  | _ => none }
def arenaTwoRow : OpenClaim := { program := "ytjobhdcjjegpfaa", sum := "df14f036fd5c2dc2ec01851d5681bffa789525e3768b0457d7c03d6de2991e70", func := "dovecote/dovecotelaw03.ArenaTwo", spec := "arenaTwo", unfollowed := true, recurses := true, apart := false }
def ArenaTwoSaid : Prop := arenaTwoRow.holds Try.pinned (OpenSpec.ofChange arenaTwoSpec)

/-- ITS FALSE NEIGHBOUR: 'it returns false'. Refute it at one input. -/
def arenaTwoWrong : ChangeSpec := { name := "arenaTwo", fn := fun _ => fun
  | [d] => { results := [.lit (.bool false)], args := [d] }
  | _ => none }
def ArenaTwoWrongFalsely : Prop := arenaTwoRow.holds Try.pinned (OpenSpec.ofChange arenaTwoWrong)

/-- 'dovecotelaw03.ArenaNew': WHATEVER THE INPUT: true; the input reads as it did. -/
def arenaNewSpec : ChangeSpec := { name := "arenaNew", fn := fun _ => fun
  | [d1, d2] => { results := [.lit (.bool true)], args := [d1, d2] }
  | _ => none }
def arenaNewRow : OpenClaim := { program := "ytjobhdcjjegpfaa", sum := "df14f036fd5c2dc2ec01851d5681bffa789525e3768b0457d7c03d6de2991e70", func := "dovecote/dovecotelaw03.ArenaNew", spec := "arenaNew", unfollowed := true, recurses := true, apart := false }
def ArenaNewSaid : Prop := arenaNewRow.holds Try.pinned (OpenSpec.ofChange arenaNewSpec)

/-- ITS FALSE NEIGHBOUR: 'it returns false'. Refute it at one input. -/
def arenaNewWrong : ChangeSpec := { name := "arenaNew", fn := fun _ => fun
  | [d1, d2] => { results := [.lit (.bool false)], args := [d1, d2] }
  | _ => none }
def ArenaNewWrongFalsely : Prop := arenaNewRow.holds Try.pinned (OpenSpec.ofChange arenaNewWrong)

/-- 'dovecotelaw03.ArenaClears': WHATEVER THE INPUT: true; the input reads as it did. -/
def arenaClearsSpec : ChangeSpec := { name := "arenaClears", fn := fun _ => fun
  | [d1, d2, d3] => { results := [.lit (.bool true)], args := [d1, d2, d3] }
  | _ => none }
def arenaClearsRow : OpenClaim := { program := "ytjobhdcjjegpfaa", sum := "df14f036fd5c2dc2ec01851d5681bffa789525e3768b0457d7c03d6de2991e70", func := "dovecote/dovecotelaw03.ArenaClears", spec := "arenaClears", unfollowed := true, recurses := true, apart := false }
def ArenaClearsSaid : Prop := arenaClearsRow.holds Try.pinned (OpenSpec.ofChange arenaClearsSpec)

/-- ITS FALSE NEIGHBOUR: 'it returns false'. Refute it at one input. -/
def arenaClearsWrong : ChangeSpec := { name := "arenaClears", fn := fun _ => fun
  | [d1, d2, d3] => { results := [.lit (.bool false)], args := [d1, d2, d3] }
  | _ => none }
def ArenaClearsWrongFalsely : Prop := arenaClearsRow.holds Try.pinned (OpenSpec.ofChange arenaClearsWrong)

/-- 'dovecotelaw03.ArenaMoves': WHATEVER THE INPUT: true; the input reads as it did. -/
def arenaMovesSpec : ChangeSpec := { name := "arenaMoves", fn := fun _ => fun
  | [d] => { results := [.lit (.bool true)], args := [d] }
  | _ => none }
def arenaMovesRow : OpenClaim := { program := "ytjobhdcjjegpfaa", sum := "df14f036fd5c2dc2ec01851d5681bffa789525e3768b0457d7c03d6de2991e70", func := "dovecote/dovecotelaw03.ArenaMoves", spec := "arenaMoves", unfollowed := true, recurses := true, apart := false }
def ArenaMovesSaid : Prop := arenaMovesRow.holds Try.pinned (OpenSpec.ofChange arenaMovesSpec)

/-- ITS FALSE NEIGHBOUR: 'it returns false'. Refute it at one input. -/
def arenaMovesWrong : ChangeSpec := { name := "arenaMoves", fn := fun _ => fun
  | [d] => { results := [.lit (.bool false)], args := [d] }
  | _ => none }
def ArenaMovesWrongFalsely : Prop := arenaMovesRow.holds Try.pinned (OpenSpec.ofChange arenaMovesWrong)

/-- 'dovecotelaw03.ArenaSwaps': WHATEVER THE INPUT: true; the input reads as it did. -/
def arenaSwapsSpec : ChangeSpec := { name := "arenaSwaps", fn := fun _ => fun
  | [d] => { results := [.lit (.bool true)], args := [d] }
  | _ => none }
def arenaSwapsRow : OpenClaim := { program := "ytjobhdcjjegpfaa", sum := "df14f036fd5c2dc2ec01851d5681bffa789525e3768b0457d7c03d6de2991e70", func := "dovecote/dovecotelaw03.ArenaSwaps", spec := "arenaSwaps", unfollowed := true, recurses := true, apart := false }
def ArenaSwapsSaid : Prop := arenaSwapsRow.holds Try.pinned (OpenSpec.ofChange arenaSwapsSpec)

/-- ITS FALSE NEIGHBOUR: 'it returns false'. Refute it at one input. -/
def arenaSwapsWrong : ChangeSpec := { name := "arenaSwaps", fn := fun _ => fun
  | [d] => { results := [.lit (.bool false)], args := [d] }
  | _ => none }
def ArenaSwapsWrongFalsely : Prop := arenaSwapsRow.holds Try.pinned (OpenSpec.ofChange arenaSwapsWrong)

/-- 'dovecotelaw03.ArenaRefuses': WHATEVER THE INPUT: true; the input reads as it did. -/
def arenaRefusesSpec : ChangeSpec := { name := "arenaRefuses", fn := fun _ => fun
  | [d] => { results := [.lit (.bool true)], args := [d] }
  | _ => none }
def arenaRefusesRow : OpenClaim := { program := "ytjobhdcjjegpfaa", sum := "df14f036fd5c2dc2ec01851d5681bffa789525e3768b0457d7c03d6de2991e70", func := "dovecote/dovecotelaw03.ArenaRefuses", spec := "arenaRefuses", unfollowed := true, recurses := true, apart := false }
def ArenaRefusesSaid : Prop := arenaRefusesRow.holds Try.pinned (OpenSpec.ofChange arenaRefusesSpec)

/-- ITS FALSE NEIGHBOUR: 'it returns false'. Refute it at one input. -/
def arenaRefusesWrong : ChangeSpec := { name := "arenaRefuses", fn := fun _ => fun
  | [d] => { results := [.lit (.bool false)], args := [d] }
  | _ => none }
def ArenaRefusesWrongFalsely : Prop := arenaRefusesRow.holds Try.pinned (OpenSpec.ofChange arenaRefusesWrong)

/-- 'dovecotelaw03.ArenaActs': WHATEVER THE INPUT: true; the input reads as it did. -/
def arenaActsSpec : ChangeSpec := { name := "arenaActs", fn := fun _ => fun
  | [d] => { results := [.lit (.bool true)], args := [d] }
  | _ => none }
def arenaActsRow : OpenClaim := { program := "ytjobhdcjjegpfaa", sum := "df14f036fd5c2dc2ec01851d5681bffa789525e3768b0457d7c03d6de2991e70", func := "dovecote/dovecotelaw03.ArenaActs", spec := "arenaActs", unfollowed := true, recurses := true, apart := false }
def ArenaActsSaid : Prop := arenaActsRow.holds Try.pinned (OpenSpec.ofChange arenaActsSpec)

/-- ITS FALSE NEIGHBOUR: 'it returns false'. Refute it at one input. -/
def arenaActsWrong : ChangeSpec := { name := "arenaActs", fn := fun _ => fun
  | [d] => { results := [.lit (.bool false)], args := [d] }
  | _ => none }
def ArenaActsWrongFalsely : Prop := arenaActsRow.holds Try.pinned (OpenSpec.ofChange arenaActsWrong)

/- THE SECOND FORM. 'bulk': how many values and letters a reading holds, each counted each time it is reached (what is shared counts as often as it is met; a slice's spare places count too). A statement '..UptoSaid' is the law's where the arguments, and the package variables that the reading takes, are together of bulk at most 1048576: NARROWER than '..Said'. Prove '..Said' where nothing that the law and all that it calls make is longer than what came in: it says more and counts as full. Else prove '..UptoSaid'. A law counts once. -/
mutual
def uptoBulk {H : Type} : DataW H → Nat
  | .lit (.string bytes) => bytes.length + 1
  | .lit _ => 1
  | .nil => 1
  | .ptr d => uptoBulk d + 1
  | .slice elems spare => uptoBulkAll elems + uptoBulkAll spare + 1
  | .agg parts => uptoBulkAll parts + 1
  | .iface _ d => uptoBulk d + 1
  | .map entries => uptoBulkEntries entries + 1
  | .held _ => 1
def uptoBulkAll {H : Type} : List (DataW H) → Nat
  | [] => 0
  | d :: r => uptoBulk d + uptoBulkAll r
def uptoBulkEntries {H : Type} : List (Lit × DataW H) → Nat
  | [] => 0
  | x :: r => uptoBulkEntry x + uptoBulkEntries r
def uptoBulkEntry {H : Type} : Lit × DataW H → Nat
  | (.string bytes, d) => bytes.length + uptoBulk d + 1
  | (_, d) => uptoBulk d + 1
 end
def uptoSmall : (H : Type) → List (DataW H) → Bool := fun _ ds => decide (uptoBulkAll ds ≤ 1048576)
def OpenSpec.upto (s : _root_.Go.ChangeSpec) : _root_.Go.OpenSpec := { _root_.Go.OpenSpec.ofChange s with cond := some uptoSmall }

/-- 'dovecotelaw03.ArenaBack', WHERE WHAT IT READS IS OF BULK AT MOST 1048576: true; the input reads as it did. -/
def arenaBackUptoRow : OpenClaim := { program := "ytjobhdcjjegpfaa", sum := "df14f036fd5c2dc2ec01851d5681bffa789525e3768b0457d7c03d6de2991e70", func := "dovecote/dovecotelaw03.ArenaBack", spec := "arenaBack", unfollowed := true, recurses := true, apart := false, narrowed := true }
def ArenaBackUptoSaid : Prop := arenaBackUptoRow.holds Try.pinned (OpenSpec.upto arenaBackSpec)

/-- 'dovecotelaw03.ArenaTwo', WHERE WHAT IT READS IS OF BULK AT MOST 1048576: true; the input reads as it did. -/
def arenaTwoUptoRow : OpenClaim := { program := "ytjobhdcjjegpfaa", sum := "df14f036fd5c2dc2ec01851d5681bffa789525e3768b0457d7c03d6de2991e70", func := "dovecote/dovecotelaw03.ArenaTwo", spec := "arenaTwo", unfollowed := true, recurses := true, apart := false, narrowed := true }
def ArenaTwoUptoSaid : Prop := arenaTwoUptoRow.holds Try.pinned (OpenSpec.upto arenaTwoSpec)

/-- 'dovecotelaw03.ArenaNew', WHERE WHAT IT READS IS OF BULK AT MOST 1048576: true; the input reads as it did. -/
def arenaNewUptoRow : OpenClaim := { program := "ytjobhdcjjegpfaa", sum := "df14f036fd5c2dc2ec01851d5681bffa789525e3768b0457d7c03d6de2991e70", func := "dovecote/dovecotelaw03.ArenaNew", spec := "arenaNew", unfollowed := true, recurses := true, apart := false, narrowed := true }
def ArenaNewUptoSaid : Prop := arenaNewUptoRow.holds Try.pinned (OpenSpec.upto arenaNewSpec)

/-- 'dovecotelaw03.ArenaClears', WHERE WHAT IT READS IS OF BULK AT MOST 1048576: true; the input reads as it did. -/
def arenaClearsUptoRow : OpenClaim := { program := "ytjobhdcjjegpfaa", sum := "df14f036fd5c2dc2ec01851d5681bffa789525e3768b0457d7c03d6de2991e70", func := "dovecote/dovecotelaw03.ArenaClears", spec := "arenaClears", unfollowed := true, recurses := true, apart := false, narrowed := true }
def ArenaClearsUptoSaid : Prop := arenaClearsUptoRow.holds Try.pinned (OpenSpec.upto arenaClearsSpec)

/-- 'dovecotelaw03.ArenaMoves', WHERE WHAT IT READS IS OF BULK AT MOST 1048576: true; the input reads as it did. -/
def arenaMovesUptoRow : OpenClaim := { program := "ytjobhdcjjegpfaa", sum := "df14f036fd5c2dc2ec01851d5681bffa789525e3768b0457d7c03d6de2991e70", func := "dovecote/dovecotelaw03.ArenaMoves", spec := "arenaMoves", unfollowed := true, recurses := true, apart := false, narrowed := true }
def ArenaMovesUptoSaid : Prop := arenaMovesUptoRow.holds Try.pinned (OpenSpec.upto arenaMovesSpec)

/-- 'dovecotelaw03.ArenaSwaps', WHERE WHAT IT READS IS OF BULK AT MOST 1048576: true; the input reads as it did. -/
def arenaSwapsUptoRow : OpenClaim := { program := "ytjobhdcjjegpfaa", sum := "df14f036fd5c2dc2ec01851d5681bffa789525e3768b0457d7c03d6de2991e70", func := "dovecote/dovecotelaw03.ArenaSwaps", spec := "arenaSwaps", unfollowed := true, recurses := true, apart := false, narrowed := true }
def ArenaSwapsUptoSaid : Prop := arenaSwapsUptoRow.holds Try.pinned (OpenSpec.upto arenaSwapsSpec)

/-- 'dovecotelaw03.ArenaRefuses', WHERE WHAT IT READS IS OF BULK AT MOST 1048576: true; the input reads as it did. -/
def arenaRefusesUptoRow : OpenClaim := { program := "ytjobhdcjjegpfaa", sum := "df14f036fd5c2dc2ec01851d5681bffa789525e3768b0457d7c03d6de2991e70", func := "dovecote/dovecotelaw03.ArenaRefuses", spec := "arenaRefuses", unfollowed := true, recurses := true, apart := false, narrowed := true }
def ArenaRefusesUptoSaid : Prop := arenaRefusesUptoRow.holds Try.pinned (OpenSpec.upto arenaRefusesSpec)

/-- 'dovecotelaw03.ArenaActs', WHERE WHAT IT READS IS OF BULK AT MOST 1048576: true; the input reads as it did. -/
def arenaActsUptoRow : OpenClaim := { program := "ytjobhdcjjegpfaa", sum := "df14f036fd5c2dc2ec01851d5681bffa789525e3768b0457d7c03d6de2991e70", func := "dovecote/dovecotelaw03.ArenaActs", spec := "arenaActs", unfollowed := true, recurses := true, apart := false, narrowed := true }
def ArenaActsUptoSaid : Prop := arenaActsUptoRow.holds Try.pinned (OpenSpec.upto arenaActsSpec)

end Rows
end Go.Proofs.Ytjobhdcjjegpfaa
