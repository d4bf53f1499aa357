/-
  NARROWER THAN 'FOR EVERY INPUT', by the rows' own cells (each row's printed sentence says how): CatEncodes: laid · CatDecodes: laid · CatChanges: laid · CatBack: laid.
  DERIVED. THE GIVEN ROWS OF THIS SEAT. 4 by the template 'for every input the law returns true; each argument reads behind the call as it read before'; 0 by the template 'total and deterministic' (their statements: YtmfcccflohpjiaaGreatDoorTotals.lean).
  GIVEN WITH THE SEED: the statements are not yours to turn. If you find one false, say at which input.
  Laid BY PROGRAM, IN A SANDBOX (cutbox-rows.mjs): the forced cells as the released guide's own fill.sh prints them over the translation 35611ba8691eec20… (all of the seat's roots in one cut). By AI agents, Wed Nov 11 2026. No macro, syntax, notation, axiom, sorry.
-/
import Derived.Test.YtmfcccflohpjiaaGreatDoorChecked
import GoSem.PinnedTables
import GoSem.Claim
import GoSem.ClaimJoined
import GoSem.ClaimMapViews
import Derived.JoinedTies
import Derived.KernelRfl
namespace Go.Proofs.YtmfcccflohpjiaaGreatDoor
/- THE CELL 'sum', in the pinned program and in every row, IS THE sha256 OF THE DUMP (.gsa) THAT YtmfcccflohpjiaaGreatDoorProg.lean LOADS. Nothing in Lean hashes anything: it is a label: what it is worth is what the hold of that sum in a sandbox is worth. -/
noncomputable def Tryz.pinned : Pinned := { name := "ytmfcccflohpjiaagreatdoor", sum := "35611ba8691eec20e7cb30d217124c102512e1d71f0df75e158e7c121f273e95", checked := Tryz.checked }
namespace Rows
def none {H : Type} : Left H := { results := [], args := [] }

/- WHAT THE LISTED PACKAGE-LEVEL VARIABLES READ AS WHEN THE CALL BEGINS. Each datum BY PROGRAM (the guide's laid-datum.mjs) off the statement by which the dump's own 'gosem.cut.vars' lays the variable. In a bare row this is a premise. The card (YtmfcccflohpjiaaGreatDoorCards.lean) ties it to the program's text. -/
def laid_unicode_utf8_acceptRanges {H : Type} : DataW H := .agg [.agg [.lit (.int .u8 128), .lit (.int .u8 191)], .agg [.lit (.int .u8 160), .lit (.int .u8 191)], .agg [.lit (.int .u8 128), .lit (.int .u8 159)], .agg [.lit (.int .u8 144), .lit (.int .u8 191)], .agg [.lit (.int .u8 128), .lit (.int .u8 143)], .agg [.lit (.int .u8 0), .lit (.int .u8 0)], .agg [.lit (.int .u8 0), .lit (.int .u8 0)], .agg [.lit (.int .u8 0), .lit (.int .u8 0)], .agg [.lit (.int .u8 0), .lit (.int .u8 0)], .agg [.lit (.int .u8 0), .lit (.int .u8 0)], .agg [.lit (.int .u8 0), .lit (.int .u8 0)], .agg [.lit (.int .u8 0), .lit (.int .u8 0)], .agg [.lit (.int .u8 0), .lit (.int .u8 0)], .agg [.lit (.int .u8 0), .lit (.int .u8 0)], .agg [.lit (.int .u8 0), .lit (.int .u8 0)], .agg [.lit (.int .u8 0), .lit (.int .u8 0)]]
/-- One of Go's own tables, pinned by name: the form's constant. -/
def laid_unicode_utf8_first : DataW Unit := Go.Pinned.utf8First

/-- 'garderobelaw19.CatEncodes': WHATEVER THE INPUT: true; the input reads as it did. -/
def catEncodesSpec : ChangeSpec := { name := "catEncodes", fn := fun _ => fun
  | [d] => { results := [.lit (.bool true)], args := [d] }
  | _ => none }
def catEncodesRow : OpenClaim := { program := "ytmfcccflohpjiaagreatdoor", sum := "35611ba8691eec20e7cb30d217124c102512e1d71f0df75e158e7c121f273e95", func := "garderobe/garderobelaw19.CatEncodes", spec := "catEncodes", inPlace := ["internal/bytealg.CountString", "internal/bytealg.IndexByteString", "internal/bytealg.IndexString", "slices.overlaps[garderobe/api.Entry]"], unfollowed := true, recurses := true, named := ["unicode/utf8.first", "unicode/utf8.acceptRanges", "internal/bytealg.MaxLen"], apart := false, laid := [("unicode/utf8.acceptRanges", laid_unicode_utf8_acceptRanges), ("unicode/utf8.first", laid_unicode_utf8_first)] }
def CatEncodesSaid : Prop := catEncodesRow.holds Tryz.pinned (OpenSpec.ofChange catEncodesSpec)

/-- ITS FALSE NEIGHBOUR: 'it returns false'. Refute it at one input. -/
def catEncodesWrong : ChangeSpec := { name := "catEncodes", fn := fun _ => fun
  | [d] => { results := [.lit (.bool false)], args := [d] }
  | _ => none }
def CatEncodesWrongFalsely : Prop := catEncodesRow.holds Tryz.pinned (OpenSpec.ofChange catEncodesWrong)

/-- 'garderobelaw19.CatDecodes': WHATEVER THE INPUT: true; the input reads as it did. -/
def catDecodesSpec : ChangeSpec := { name := "catDecodes", fn := fun _ => fun
  | [d] => { results := [.lit (.bool true)], args := [d] }
  | _ => none }
def catDecodesRow : OpenClaim := { program := "ytmfcccflohpjiaagreatdoor", sum := "35611ba8691eec20e7cb30d217124c102512e1d71f0df75e158e7c121f273e95", func := "garderobe/garderobelaw19.CatDecodes", spec := "catDecodes", inPlace := ["internal/bytealg.CountString", "internal/bytealg.IndexByteString", "internal/bytealg.IndexString", "slices.overlaps[garderobe/api.Entry]"], unfollowed := true, recurses := true, named := ["unicode/utf8.first", "unicode/utf8.acceptRanges", "internal/bytealg.MaxLen"], apart := false, laid := [("unicode/utf8.acceptRanges", laid_unicode_utf8_acceptRanges), ("unicode/utf8.first", laid_unicode_utf8_first)] }
def CatDecodesSaid : Prop := catDecodesRow.holds Tryz.pinned (OpenSpec.ofChange catDecodesSpec)

/-- ITS FALSE NEIGHBOUR: 'it returns false'. Refute it at one input. -/
def catDecodesWrong : ChangeSpec := { name := "catDecodes", fn := fun _ => fun
  | [d] => { results := [.lit (.bool false)], args := [d] }
  | _ => none }
def CatDecodesWrongFalsely : Prop := catDecodesRow.holds Tryz.pinned (OpenSpec.ofChange catDecodesWrong)

/-- 'garderobelaw19.CatChanges': WHATEVER THE INPUT: true; the input reads as it did. -/
def catChangesSpec : ChangeSpec := { name := "catChanges", fn := fun _ => fun
  | [d1, d2, d3] => { results := [.lit (.bool true)], args := [d1, d2, d3] }
  | _ => none }
def catChangesRow : OpenClaim := { program := "ytmfcccflohpjiaagreatdoor", sum := "35611ba8691eec20e7cb30d217124c102512e1d71f0df75e158e7c121f273e95", func := "garderobe/garderobelaw19.CatChanges", spec := "catChanges", inPlace := ["slices.overlaps[garderobe/api.Entry]", "internal/bytealg.CountString", "internal/bytealg.IndexByteString", "internal/bytealg.IndexString"], unfollowed := true, recurses := true, named := ["unicode/utf8.first", "unicode/utf8.acceptRanges", "internal/bytealg.MaxLen"], apart := false, laid := [("unicode/utf8.acceptRanges", laid_unicode_utf8_acceptRanges), ("unicode/utf8.first", laid_unicode_utf8_first)] }
def CatChangesSaid : Prop := catChangesRow.holds Tryz.pinned (OpenSpec.ofChange catChangesSpec)

/-- ITS FALSE NEIGHBOUR: 'it returns false'. Refute it at one input. -/
def catChangesWrong : ChangeSpec := { name := "catChanges", fn := fun _ => fun
  | [d1, d2, d3] => { results := [.lit (.bool false)], args := [d1, d2, d3] }
  | _ => none }
def CatChangesWrongFalsely : Prop := catChangesRow.holds Tryz.pinned (OpenSpec.ofChange catChangesWrong)

/-- 'garderobelaw19.CatBack': WHATEVER THE INPUT: true; the input reads as it did. -/
def catBackSpec : ChangeSpec := { name := "catBack", fn := fun _ => fun
  | [d1, d2] => { results := [.lit (.bool true)], args := [d1, d2] }
  | _ => none }
def catBackRow : OpenClaim := { program := "ytmfcccflohpjiaagreatdoor", sum := "35611ba8691eec20e7cb30d217124c102512e1d71f0df75e158e7c121f273e95", func := "garderobe/garderobelaw19.CatBack", spec := "catBack", inPlace := ["internal/bytealg.CountString", "internal/bytealg.IndexByteString", "internal/bytealg.IndexString", "slices.overlaps[garderobe/api.Entry]"], unfollowed := true, recurses := true, named := ["unicode/utf8.first", "unicode/utf8.acceptRanges", "internal/bytealg.MaxLen"], apart := false, laid := [("unicode/utf8.acceptRanges", laid_unicode_utf8_acceptRanges), ("unicode/utf8.first", laid_unicode_utf8_first)] }
def CatBackSaid : Prop := catBackRow.holds Tryz.pinned (OpenSpec.ofChange catBackSpec)

/-- ITS FALSE NEIGHBOUR: 'it returns false'. Refute it at one input. -/
def catBackWrong : ChangeSpec := { name := "catBack", fn := fun _ => fun
  | [d1, d2] => { results := [.lit (.bool false)], args := [d1, d2] }
  | _ => none }
def CatBackWrongFalsely : Prop := catBackRow.holds Tryz.pinned (OpenSpec.ofChange catBackWrong)

/- THE SECOND FORM. 'bulk': how many values and letters a reading holds, each counted each time it is reached (what is shared counts as often as it is met; a slice's spare places count too). A statement '..UptoSaid' is the law's where the arguments, and the package variables that the reading takes, are together of bulk at most 1048576: NARROWER than '..Said'. Prove '..Said' where nothing that the law and all that it calls make is longer than what came in: it says more and counts as full. Else prove '..UptoSaid'. A law counts once. -/
mutual
def uptoBulk {H : Type} : DataW H → Nat
  | .lit (.string bytes) => bytes.length + 1
  | .lit _ => 1
  | .nil => 1
  | .ptr d => uptoBulk d + 1
  | .slice elems spare => uptoBulkAll elems + uptoBulkAll spare + 1
  | .agg parts => uptoBulkAll parts + 1
  | .iface _ d => uptoBulk d + 1
  | .map entries => uptoBulkEntries entries + 1
  | .held _ => 1
def uptoBulkAll {H : Type} : List (DataW H) → Nat
  | [] => 0
  | d :: r => uptoBulk d + uptoBulkAll r
def uptoBulkEntries {H : Type} : List (Lit × DataW H) → Nat
  | [] => 0
  | x :: r => uptoBulkEntry x + uptoBulkEntries r
def uptoBulkEntry {H : Type} : Lit × DataW H → Nat
  | (.string bytes, d) => bytes.length + uptoBulk d + 1
  | (_, d) => uptoBulk d + 1
 end
def uptoSmall : (H : Type) → List (DataW H) → Bool := fun _ ds => decide (uptoBulkAll ds ≤ 1048576)
def OpenSpec.upto (s : _root_.Go.ChangeSpec) : _root_.Go.OpenSpec := { _root_.Go.OpenSpec.ofChange s with cond := some uptoSmall }

/-- 'garderobelaw19.CatEncodes', WHERE WHAT IT READS IS OF BULK AT MOST 1048576: true; the input reads as it did. -/
def catEncodesUptoRow : OpenClaim := { program := "ytmfcccflohpjiaagreatdoor", sum := "35611ba8691eec20e7cb30d217124c102512e1d71f0df75e158e7c121f273e95", func := "garderobe/garderobelaw19.CatEncodes", spec := "catEncodes", inPlace := ["internal/bytealg.CountString", "internal/bytealg.IndexByteString", "internal/bytealg.IndexString", "slices.overlaps[garderobe/api.Entry]"], unfollowed := true, recurses := true, named := ["unicode/utf8.first", "unicode/utf8.acceptRanges", "internal/bytealg.MaxLen"], apart := false, laid := [("unicode/utf8.acceptRanges", laid_unicode_utf8_acceptRanges), ("unicode/utf8.first", laid_unicode_utf8_first)], narrowed := true }
def CatEncodesUptoSaid : Prop := catEncodesUptoRow.holds Tryz.pinned (OpenSpec.upto catEncodesSpec)

/-- 'garderobelaw19.CatDecodes', WHERE WHAT IT READS IS OF BULK AT MOST 1048576: true; the input reads as it did. -/
def catDecodesUptoRow : OpenClaim := { program := "ytmfcccflohpjiaagreatdoor", sum := "35611ba8691eec20e7cb30d217124c102512e1d71f0df75e158e7c121f273e95", func := "garderobe/garderobelaw19.CatDecodes", spec := "catDecodes", inPlace := ["internal/bytealg.CountString", "internal/bytealg.IndexByteString", "internal/bytealg.IndexString", "slices.overlaps[garderobe/api.Entry]"], unfollowed := true, recurses := true, named := ["unicode/utf8.first", "unicode/utf8.acceptRanges", "internal/bytealg.MaxLen"], apart := false, laid := [("unicode/utf8.acceptRanges", laid_unicode_utf8_acceptRanges), ("unicode/utf8.first", laid_unicode_utf8_first)], narrowed := true }
def CatDecodesUptoSaid : Prop := catDecodesUptoRow.holds Tryz.pinned (OpenSpec.upto catDecodesSpec)

/-- 'garderobelaw19.CatChanges', WHERE WHAT IT READS IS OF BULK AT MOST 1048576: true; the input reads as it did. -/
def catChangesUptoRow : OpenClaim := { program := "ytmfcccflohpjiaagreatdoor", sum := "35611ba8691eec20e7cb30d217124c102512e1d71f0df75e158e7c121f273e95", func := "garderobe/garderobelaw19.CatChanges", spec := "catChanges", inPlace := ["slices.overlaps[garderobe/api.Entry]", "internal/bytealg.CountString", "internal/bytealg.IndexByteString", "internal/bytealg.IndexString"], unfollowed := true, recurses := true, named := ["unicode/utf8.first", "unicode/utf8.acceptRanges", "internal/bytealg.MaxLen"], apart := false, laid := [("unicode/utf8.acceptRanges", laid_unicode_utf8_acceptRanges), ("unicode/utf8.first", laid_unicode_utf8_first)], narrowed := true }
def CatChangesUptoSaid : Prop := catChangesUptoRow.holds Tryz.pinned (OpenSpec.upto catChangesSpec)

/-- 'garderobelaw19.CatBack', WHERE WHAT IT READS IS OF BULK AT MOST 1048576: true; the input reads as it did. -/
def catBackUptoRow : OpenClaim := { program := "ytmfcccflohpjiaagreatdoor", sum := "35611ba8691eec20e7cb30d217124c102512e1d71f0df75e158e7c121f273e95", func := "garderobe/garderobelaw19.CatBack", spec := "catBack", inPlace := ["internal/bytealg.CountString", "internal/bytealg.IndexByteString", "internal/bytealg.IndexString", "slices.overlaps[garderobe/api.Entry]"], unfollowed := true, recurses := true, named := ["unicode/utf8.first", "unicode/utf8.acceptRanges", "internal/bytealg.MaxLen"], apart := false, laid := [("unicode/utf8.acceptRanges", laid_unicode_utf8_acceptRanges), ("unicode/utf8.first", laid_unicode_utf8_first)], narrowed := true }
def CatBackUptoSaid : Prop := catBackUptoRow.holds Tryz.pinned (OpenSpec.upto catBackSpec)

end Rows
end Go.Proofs.YtmfcccflohpjiaaGreatDoor
