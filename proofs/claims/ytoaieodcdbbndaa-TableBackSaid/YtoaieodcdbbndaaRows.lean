/-
  No cell of these rows narrows 'for every input' (looked for: loops, veiled, ifaces, maps, wideKeys, modest, calm, conditions, laid).
  DERIVED. THE GIVEN ROWS OF THIS SEAT. 5 by the template 'for every input the law returns true; each argument reads behind the call as it read before'; 0 by the template 'total and deterministic' (their statements: YtoaieodcdbbndaaTotals.lean).
  GIVEN WITH THE SEED: the statements are not yours to turn. If you find one false, say at which input.
  Laid BY PROGRAM, IN A SANDBOX (cutbox-rows.mjs): the forced cells as the released guide's own fill.sh prints them over the translation b5200057f079e184… (all of the seat's roots in one cut). By AI agents, Wed Nov 11 2026. No macro, syntax, notation, axiom, sorry.
-/
import Derived.Test.YtoaieodcdbbndaaChecked
import GoSem.Claim
import GoSem.ClaimJoined
import GoSem.ClaimMapViews
import Derived.JoinedTies
import Derived.KernelRfl
namespace Go.Proofs.Ytoaieodcdbbndaa
/- THE CELL 'sum', in the pinned program and in every row, IS THE sha256 OF THE DUMP (.gsa) THAT YtoaieodcdbbndaaProg.lean LOADS. Nothing in Lean hashes anything: it is a label: what it is worth is what the hold of that sum in a sandbox is worth. -/
noncomputable def Try.pinned : Pinned := { name := "ytoaieodcdbbndaa", sum := "b5200057f079e184d9aeea8bf04dacab26411783716fe182a9e9b6da9a6bab92", checked := Try.checked }
namespace Rows
def none {H : Type} : Left H := { results := [], args := [] }

/-- 'garderobelaw20.TableGood': WHATEVER THE INPUT: true; the input reads as it did. -/
def tableGoodSpec : ChangeSpec := { name := "tableGood", fn := fun _ => fun
  | [d1, d2, d3] => { results := [.lit (.bool true)], args := [d1, d2, d3] }
  | _ => none }
def tableGoodRow : OpenClaim := { program := "ytoaieodcdbbndaa", sum := "b5200057f079e184d9aeea8bf04dacab26411783716fe182a9e9b6da9a6bab92", func := "garderobe/garderobelaw20.TableGood", spec := "tableGood", inPlace := ["slices.overlaps[garderobe/api.Block]"], unfollowed := true, recurses := true, apart := false }
def TableGoodSaid : Prop := tableGoodRow.holds Try.pinned (OpenSpec.ofChange tableGoodSpec)

/-- ITS FALSE NEIGHBOUR: 'it returns false'. Refute it at one input. -/
def tableGoodWrong : ChangeSpec := { name := "tableGood", fn := fun _ => fun
  | [d1, d2, d3] => { results := [.lit (.bool false)], args := [d1, d2, d3] }
  | _ => none }
def TableGoodWrongFalsely : Prop := tableGoodRow.holds Try.pinned (OpenSpec.ofChange tableGoodWrong)

/-- 'garderobelaw20.TableEncodes': WHATEVER THE INPUT: true; the input reads as it did. -/
def tableEncodesSpec : ChangeSpec := { name := "tableEncodes", fn := fun _ => fun
  | [d] => { results := [.lit (.bool true)], args := [d] }
  | _ => none }
def tableEncodesRow : OpenClaim := { program := "ytoaieodcdbbndaa", sum := "b5200057f079e184d9aeea8bf04dacab26411783716fe182a9e9b6da9a6bab92", func := "garderobe/garderobelaw20.TableEncodes", spec := "tableEncodes", inPlace := ["slices.overlaps[garderobe/api.Block]"], unfollowed := true, recurses := true, apart := false }
def TableEncodesSaid : Prop := tableEncodesRow.holds Try.pinned (OpenSpec.ofChange tableEncodesSpec)

/-- ITS FALSE NEIGHBOUR: 'it returns false'. Refute it at one input. -/
def tableEncodesWrong : ChangeSpec := { name := "tableEncodes", fn := fun _ => fun
  | [d] => { results := [.lit (.bool false)], args := [d] }
  | _ => none }
def TableEncodesWrongFalsely : Prop := tableEncodesRow.holds Try.pinned (OpenSpec.ofChange tableEncodesWrong)

/-- 'garderobelaw20.TableDecodes': WHATEVER THE INPUT: true; the input reads as it did. -/
def tableDecodesSpec : ChangeSpec := { name := "tableDecodes", fn := fun _ => fun
  | [d] => { results := [.lit (.bool true)], args := [d] }
  | _ => none }
def tableDecodesRow : OpenClaim := { program := "ytoaieodcdbbndaa", sum := "b5200057f079e184d9aeea8bf04dacab26411783716fe182a9e9b6da9a6bab92", func := "garderobe/garderobelaw20.TableDecodes", spec := "tableDecodes", inPlace := ["slices.overlaps[garderobe/api.Block]"], unfollowed := true, recurses := true, apart := false }
def TableDecodesSaid : Prop := tableDecodesRow.holds Try.pinned (OpenSpec.ofChange tableDecodesSpec)

/-- ITS FALSE NEIGHBOUR: 'it returns false'. Refute it at one input. -/
def tableDecodesWrong : ChangeSpec := { name := "tableDecodes", fn := fun _ => fun
  | [d] => { results := [.lit (.bool false)], args := [d] }
  | _ => none }
def TableDecodesWrongFalsely : Prop := tableDecodesRow.holds Try.pinned (OpenSpec.ofChange tableDecodesWrong)

/-- 'garderobelaw20.TableChanges': WHATEVER THE INPUT: true; the input reads as it did. -/
def tableChangesSpec : ChangeSpec := { name := "tableChanges", fn := fun _ => fun
  | [d1, d2, d3, d4] => { results := [.lit (.bool true)], args := [d1, d2, d3, d4] }
  | _ => none }
def tableChangesRow : OpenClaim := { program := "ytoaieodcdbbndaa", sum := "b5200057f079e184d9aeea8bf04dacab26411783716fe182a9e9b6da9a6bab92", func := "garderobe/garderobelaw20.TableChanges", spec := "tableChanges", inPlace := ["slices.overlaps[garderobe/api.Block]"], unfollowed := true, recurses := true, apart := false }
def TableChangesSaid : Prop := tableChangesRow.holds Try.pinned (OpenSpec.ofChange tableChangesSpec)

/-- ITS FALSE NEIGHBOUR: 'it returns false'. Refute it at one input. -/
def tableChangesWrong : ChangeSpec := { name := "tableChanges", fn := fun _ => fun
  | [d1, d2, d3, d4] => { results := [.lit (.bool false)], args := [d1, d2, d3, d4] }
  | _ => none }
def TableChangesWrongFalsely : Prop := tableChangesRow.holds Try.pinned (OpenSpec.ofChange tableChangesWrong)

/-- 'garderobelaw20.TableBack': WHATEVER THE INPUT: true; the input reads as it did. -/
def tableBackSpec : ChangeSpec := { name := "tableBack", fn := fun _ => fun
  | [d1, d2, d3] => { results := [.lit (.bool true)], args := [d1, d2, d3] }
  | _ => none }
def tableBackRow : OpenClaim := { program := "ytoaieodcdbbndaa", sum := "b5200057f079e184d9aeea8bf04dacab26411783716fe182a9e9b6da9a6bab92", func := "garderobe/garderobelaw20.TableBack", spec := "tableBack", inPlace := ["slices.overlaps[garderobe/api.Block]"], unfollowed := true, recurses := true, apart := false }
def TableBackSaid : Prop := tableBackRow.holds Try.pinned (OpenSpec.ofChange tableBackSpec)

/-- ITS FALSE NEIGHBOUR: 'it returns false'. Refute it at one input. -/
def tableBackWrong : ChangeSpec := { name := "tableBack", fn := fun _ => fun
  | [d1, d2, d3] => { results := [.lit (.bool false)], args := [d1, d2, d3] }
  | _ => none }
def TableBackWrongFalsely : Prop := tableBackRow.holds Try.pinned (OpenSpec.ofChange tableBackWrong)

/- THE SECOND FORM. 'bulk': how many values and letters a reading holds, each counted each time it is reached (what is shared counts as often as it is met; a slice's spare places count too). A statement '..UptoSaid' is the law's where the arguments, and the package variables that the reading takes, are together of bulk at most 1048576: NARROWER than '..Said'. Prove '..Said' where nothing that the law and all that it calls make is longer than what came in: it says more and counts as full. Else prove '..UptoSaid'. A law counts once. -/
mutual
def uptoBulk {H : Type} : DataW H → Nat
  | .lit (.string bytes) => bytes.length + 1
  | .lit _ => 1
  | .nil => 1
  | .ptr d => uptoBulk d + 1
  | .slice elems spare => uptoBulkAll elems + uptoBulkAll spare + 1
  | .agg parts => uptoBulkAll parts + 1
  | .iface _ d => uptoBulk d + 1
  | .map entries => uptoBulkEntries entries + 1
  | .held _ => 1
def uptoBulkAll {H : Type} : List (DataW H) → Nat
  | [] => 0
  | d :: r => uptoBulk d + uptoBulkAll r
def uptoBulkEntries {H : Type} : List (Lit × DataW H) → Nat
  | [] => 0
  | x :: r => uptoBulkEntry x + uptoBulkEntries r
def uptoBulkEntry {H : Type} : Lit × DataW H → Nat
  | (.string bytes, d) => bytes.length + uptoBulk d + 1
  | (_, d) => uptoBulk d + 1
 end
def uptoSmall : (H : Type) → List (DataW H) → Bool := fun _ ds => decide (uptoBulkAll ds ≤ 1048576)
def OpenSpec.upto (s : _root_.Go.ChangeSpec) : _root_.Go.OpenSpec := { _root_.Go.OpenSpec.ofChange s with cond := some uptoSmall }

/-- 'garderobelaw20.TableGood', WHERE WHAT IT READS IS OF BULK AT MOST 1048576: true; the input reads as it did. -/
def tableGoodUptoRow : OpenClaim := { program := "ytoaieodcdbbndaa", sum := "b5200057f079e184d9aeea8bf04dacab26411783716fe182a9e9b6da9a6bab92", func := "garderobe/garderobelaw20.TableGood", spec := "tableGood", inPlace := ["slices.overlaps[garderobe/api.Block]"], unfollowed := true, recurses := true, apart := false, narrowed := true }
def TableGoodUptoSaid : Prop := tableGoodUptoRow.holds Try.pinned (OpenSpec.upto tableGoodSpec)

/-- 'garderobelaw20.TableEncodes', WHERE WHAT IT READS IS OF BULK AT MOST 1048576: true; the input reads as it did. -/
def tableEncodesUptoRow : OpenClaim := { program := "ytoaieodcdbbndaa", sum := "b5200057f079e184d9aeea8bf04dacab26411783716fe182a9e9b6da9a6bab92", func := "garderobe/garderobelaw20.TableEncodes", spec := "tableEncodes", inPlace := ["slices.overlaps[garderobe/api.Block]"], unfollowed := true, recurses := true, apart := false, narrowed := true }
def TableEncodesUptoSaid : Prop := tableEncodesUptoRow.holds Try.pinned (OpenSpec.upto tableEncodesSpec)

/-- 'garderobelaw20.TableDecodes', WHERE WHAT IT READS IS OF BULK AT MOST 1048576: true; the input reads as it did. -/
def tableDecodesUptoRow : OpenClaim := { program := "ytoaieodcdbbndaa", sum := "b5200057f079e184d9aeea8bf04dacab26411783716fe182a9e9b6da9a6bab92", func := "garderobe/garderobelaw20.TableDecodes", spec := "tableDecodes", inPlace := ["slices.overlaps[garderobe/api.Block]"], unfollowed := true, recurses := true, apart := false, narrowed := true }
def TableDecodesUptoSaid : Prop := tableDecodesUptoRow.holds Try.pinned (OpenSpec.upto tableDecodesSpec)

/-- 'garderobelaw20.TableChanges', WHERE WHAT IT READS IS OF BULK AT MOST 1048576: true; the input reads as it did. -/
def tableChangesUptoRow : OpenClaim := { program := "ytoaieodcdbbndaa", sum := "b5200057f079e184d9aeea8bf04dacab26411783716fe182a9e9b6da9a6bab92", func := "garderobe/garderobelaw20.TableChanges", spec := "tableChanges", inPlace := ["slices.overlaps[garderobe/api.Block]"], unfollowed := true, recurses := true, apart := false, narrowed := true }
def TableChangesUptoSaid : Prop := tableChangesUptoRow.holds Try.pinned (OpenSpec.upto tableChangesSpec)

/-- 'garderobelaw20.TableBack', WHERE WHAT IT READS IS OF BULK AT MOST 1048576: true; the input reads as it did. -/
def tableBackUptoRow : OpenClaim := { program := "ytoaieodcdbbndaa", sum := "b5200057f079e184d9aeea8bf04dacab26411783716fe182a9e9b6da9a6bab92", func := "garderobe/garderobelaw20.TableBack", spec := "tableBack", inPlace := ["slices.overlaps[garderobe/api.Block]"], unfollowed := true, recurses := true, apart := false, narrowed := true }
def TableBackUptoSaid : Prop := tableBackUptoRow.holds Try.pinned (OpenSpec.upto tableBackSpec)

end Rows
end Go.Proofs.Ytoaieodcdbbndaa
