/-
  NARROWER THAN 'FOR EVERY INPUT', by the rows' own cells (each row's printed sentence says how): WalRoom: laid · WalNobody: laid · WalKeeps: laid · WalAgain: laid.
  DERIVED. THE GIVEN ROWS OF THIS SEAT. 4 by the template 'for every input the law returns true; each argument reads behind the call as it read before'; 0 by the template 'total and deterministic' (their statements: YtgmeahogdjhejaaDoorTotals.lean).
  GIVEN WITH THE SEED: the statements are not yours to turn. If you find one false, say at which input.
  Laid BY PROGRAM, IN A SANDBOX (cutbox-rows.mjs): the forced cells as the released guide's own fill.sh prints them over the translation 1480be235dfecd64… (all of the seat's roots in one cut). By AI agents, Wed Nov 11 2026. No macro, syntax, notation, axiom, sorry.
-/
import Derived.Test.YtgmeahogdjhejaaDoorChecked
import GoSem.Claim
import GoSem.ClaimJoined
import GoSem.ClaimMapViews
import Derived.JoinedTies
import Derived.KernelRfl
namespace Go.Proofs.YtgmeahogdjhejaaDoor
/- THE CELL 'sum', in the pinned program and in every row, IS THE sha256 OF THE DUMP (.gsa) THAT YtgmeahogdjhejaaDoorProg.lean LOADS. Nothing in Lean hashes anything: it is a label: what it is worth is what the hold of that sum in a sandbox is worth. -/
noncomputable def Tryd.pinned : Pinned := { name := "ytgmeahogdjhejaadoor", sum := "1480be235dfecd647f19b0f0436b82c751715c90efcd5f7b2cdb1783ec06302e", checked := Tryd.checked }
namespace Rows
def none {H : Type} : Left H := { results := [], args := [] }

/- WHAT THE LISTED PACKAGE-LEVEL VARIABLES READ AS WHEN THE CALL BEGINS. Each datum BY PROGRAM (the guide's laid-datum.mjs) off the statement by which the dump's own 'gosem.cut.vars' lays the variable. In a bare row this is a premise. The card (YtgmeahogdjhejaaDoorCards.lean) ties it to the program's text. -/
def laid_bytes_ErrTooLarge {H : Type} : DataW H := .iface "*errors.errorString" (.ptr (.agg [.lit (.string [98, 121, 116, 101, 115, 46, 66, 117, 102, 102, 101, 114, 58, 32, 116, 111, 111, 32, 108, 97, 114, 103, 101])]))

/-- 'garderobelaw16.WalRoom': WHATEVER THE INPUT: true; the input reads as it did. -/
def walRoomSpec : ChangeSpec := { name := "walRoom", fn := fun _ => fun
  | [d1, d2, d3] => { results := [.lit (.bool true)], args := [d1, d2, d3] }
  | _ => none }
def walRoomRow : OpenClaim := { program := "ytgmeahogdjhejaadoor", sum := "1480be235dfecd647f19b0f0436b82c751715c90efcd5f7b2cdb1783ec06302e", func := "garderobe/garderobelaw16.WalRoom", spec := "walRoom", unfollowed := true, recurses := true, named := ["bytes.ErrTooLarge"], apart := false, laid := [("bytes.ErrTooLarge", laid_bytes_ErrTooLarge)] }
def WalRoomSaid : Prop := walRoomRow.holds Tryd.pinned (OpenSpec.ofChange walRoomSpec)

/-- ITS FALSE NEIGHBOUR: 'it returns false'. Refute it at one input. -/
def walRoomWrong : ChangeSpec := { name := "walRoom", fn := fun _ => fun
  | [d1, d2, d3] => { results := [.lit (.bool false)], args := [d1, d2, d3] }
  | _ => none }
def WalRoomWrongFalsely : Prop := walRoomRow.holds Tryd.pinned (OpenSpec.ofChange walRoomWrong)

/-- 'garderobelaw16.WalNobody': WHATEVER THE INPUT: true; the input reads as it did. -/
def walNobodySpec : ChangeSpec := { name := "walNobody", fn := fun _ => fun
  | [d1, d2, d3, d4] => { results := [.lit (.bool true)], args := [d1, d2, d3, d4] }
  | _ => none }
def walNobodyRow : OpenClaim := { program := "ytgmeahogdjhejaadoor", sum := "1480be235dfecd647f19b0f0436b82c751715c90efcd5f7b2cdb1783ec06302e", func := "garderobe/garderobelaw16.WalNobody", spec := "walNobody", unfollowed := true, recurses := true, named := ["bytes.ErrTooLarge"], apart := false, laid := [("bytes.ErrTooLarge", laid_bytes_ErrTooLarge)] }
def WalNobodySaid : Prop := walNobodyRow.holds Tryd.pinned (OpenSpec.ofChange walNobodySpec)

/-- ITS FALSE NEIGHBOUR: 'it returns false'. Refute it at one input. -/
def walNobodyWrong : ChangeSpec := { name := "walNobody", fn := fun _ => fun
  | [d1, d2, d3, d4] => { results := [.lit (.bool false)], args := [d1, d2, d3, d4] }
  | _ => none }
def WalNobodyWrongFalsely : Prop := walNobodyRow.holds Tryd.pinned (OpenSpec.ofChange walNobodyWrong)

/-- 'garderobelaw16.WalKeeps': WHATEVER THE INPUT: true; the input reads as it did. -/
def walKeepsSpec : ChangeSpec := { name := "walKeeps", fn := fun _ => fun
  | [d] => { results := [.lit (.bool true)], args := [d] }
  | _ => none }
def walKeepsRow : OpenClaim := { program := "ytgmeahogdjhejaadoor", sum := "1480be235dfecd647f19b0f0436b82c751715c90efcd5f7b2cdb1783ec06302e", func := "garderobe/garderobelaw16.WalKeeps", spec := "walKeeps", unfollowed := true, recurses := true, named := ["bytes.ErrTooLarge"], apart := false, laid := [("bytes.ErrTooLarge", laid_bytes_ErrTooLarge)] }
def WalKeepsSaid : Prop := walKeepsRow.holds Tryd.pinned (OpenSpec.ofChange walKeepsSpec)

/-- ITS FALSE NEIGHBOUR: 'it returns false'. Refute it at one input. -/
def walKeepsWrong : ChangeSpec := { name := "walKeeps", fn := fun _ => fun
  | [d] => { results := [.lit (.bool false)], args := [d] }
  | _ => none }
def WalKeepsWrongFalsely : Prop := walKeepsRow.holds Tryd.pinned (OpenSpec.ofChange walKeepsWrong)

/-- 'garderobelaw16.WalAgain': WHATEVER THE INPUT: true; the input reads as it did. -/
def walAgainSpec : ChangeSpec := { name := "walAgain", fn := fun _ => fun
  | [d1, d2] => { results := [.lit (.bool true)], args := [d1, d2] }
  | _ => none }
def walAgainRow : OpenClaim := { program := "ytgmeahogdjhejaadoor", sum := "1480be235dfecd647f19b0f0436b82c751715c90efcd5f7b2cdb1783ec06302e", func := "garderobe/garderobelaw16.WalAgain", spec := "walAgain", unfollowed := true, recurses := true, named := ["bytes.ErrTooLarge"], apart := false, laid := [("bytes.ErrTooLarge", laid_bytes_ErrTooLarge)] }
def WalAgainSaid : Prop := walAgainRow.holds Tryd.pinned (OpenSpec.ofChange walAgainSpec)

/-- ITS FALSE NEIGHBOUR: 'it returns false'. Refute it at one input. -/
def walAgainWrong : ChangeSpec := { name := "walAgain", fn := fun _ => fun
  | [d1, d2] => { results := [.lit (.bool false)], args := [d1, d2] }
  | _ => none }
def WalAgainWrongFalsely : Prop := walAgainRow.holds Tryd.pinned (OpenSpec.ofChange walAgainWrong)

/- THE SECOND FORM. 'bulk': how many values and letters a reading holds, each counted each time it is reached (what is shared counts as often as it is met; a slice's spare places count too). A statement '..UptoSaid' is the law's where the arguments, and the package variables that the reading takes, are together of bulk at most 1048576: NARROWER than '..Said'. Prove '..Said' where nothing that the law and all that it calls make is longer than what came in: it says more and counts as full. Else prove '..UptoSaid'. A law counts once. -/
mutual
def uptoBulk {H : Type} : DataW H → Nat
  | .lit (.string bytes) => bytes.length + 1
  | .lit _ => 1
  | .nil => 1
  | .ptr d => uptoBulk d + 1
  | .slice elems spare => uptoBulkAll elems + uptoBulkAll spare + 1
  | .agg parts => uptoBulkAll parts + 1
  | .iface _ d => uptoBulk d + 1
  | .map entries => uptoBulkEntries entries + 1
  | .held _ => 1
def uptoBulkAll {H : Type} : List (DataW H) → Nat
  | [] => 0
  | d :: r => uptoBulk d + uptoBulkAll r
def uptoBulkEntries {H : Type} : List (Lit × DataW H) → Nat
  | [] => 0
  | x :: r => uptoBulkEntry x + uptoBulkEntries r
def uptoBulkEntry {H : Type} : Lit × DataW H → Nat
  | (.string bytes, d) => bytes.length + uptoBulk d + 1
  | (_, d) => uptoBulk d + 1
 end
def uptoSmall : (H : Type) → List (DataW H) → Bool := fun _ ds => decide (uptoBulkAll ds ≤ 1048576)
def OpenSpec.upto (s : _root_.Go.ChangeSpec) : _root_.Go.OpenSpec := { _root_.Go.OpenSpec.ofChange s with cond := some uptoSmall }

/-- 'garderobelaw16.WalRoom', WHERE WHAT IT READS IS OF BULK AT MOST 1048576: true; the input reads as it did. -/
def walRoomUptoRow : OpenClaim := { program := "ytgmeahogdjhejaadoor", sum := "1480be235dfecd647f19b0f0436b82c751715c90efcd5f7b2cdb1783ec06302e", func := "garderobe/garderobelaw16.WalRoom", spec := "walRoom", unfollowed := true, recurses := true, named := ["bytes.ErrTooLarge"], apart := false, laid := [("bytes.ErrTooLarge", laid_bytes_ErrTooLarge)], narrowed := true }
def WalRoomUptoSaid : Prop := walRoomUptoRow.holds Tryd.pinned (OpenSpec.upto walRoomSpec)

/-- 'garderobelaw16.WalNobody', WHERE WHAT IT READS IS OF BULK AT MOST 1048576: true; the input reads as it did. -/
def walNobodyUptoRow : OpenClaim := { program := "ytgmeahogdjhejaadoor", sum := "1480be235dfecd647f19b0f0436b82c751715c90efcd5f7b2cdb1783ec06302e", func := "garderobe/garderobelaw16.WalNobody", spec := "walNobody", unfollowed := true, recurses := true, named := ["bytes.ErrTooLarge"], apart := false, laid := [("bytes.ErrTooLarge", laid_bytes_ErrTooLarge)], narrowed := true }
def WalNobodyUptoSaid : Prop := walNobodyUptoRow.holds Tryd.pinned (OpenSpec.upto walNobodySpec)

/-- 'garderobelaw16.WalKeeps', WHERE WHAT IT READS IS OF BULK AT MOST 1048576: true; the input reads as it did. -/
def walKeepsUptoRow : OpenClaim := { program := "ytgmeahogdjhejaadoor", sum := "1480be235dfecd647f19b0f0436b82c751715c90efcd5f7b2cdb1783ec06302e", func := "garderobe/garderobelaw16.WalKeeps", spec := "walKeeps", unfollowed := true, recurses := true, named := ["bytes.ErrTooLarge"], apart := false, laid := [("bytes.ErrTooLarge", laid_bytes_ErrTooLarge)], narrowed := true }
def WalKeepsUptoSaid : Prop := walKeepsUptoRow.holds Tryd.pinned (OpenSpec.upto walKeepsSpec)

/-- 'garderobelaw16.WalAgain', WHERE WHAT IT READS IS OF BULK AT MOST 1048576: true; the input reads as it did. -/
def walAgainUptoRow : OpenClaim := { program := "ytgmeahogdjhejaadoor", sum := "1480be235dfecd647f19b0f0436b82c751715c90efcd5f7b2cdb1783ec06302e", func := "garderobe/garderobelaw16.WalAgain", spec := "walAgain", unfollowed := true, recurses := true, named := ["bytes.ErrTooLarge"], apart := false, laid := [("bytes.ErrTooLarge", laid_bytes_ErrTooLarge)], narrowed := true }
def WalAgainUptoSaid : Prop := walAgainUptoRow.holds Tryd.pinned (OpenSpec.upto walAgainSpec)

end Rows
end Go.Proofs.YtgmeahogdjhejaaDoor
