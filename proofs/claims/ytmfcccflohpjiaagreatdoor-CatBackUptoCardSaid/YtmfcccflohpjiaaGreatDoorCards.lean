/-
  DERIVED. GIVEN WITH THE SEED: THE CARDS: each row of YtmfcccflohpjiaaGreatDoorRows.lean that lists a variable, with what it lists TIED to the program's text (the seventh form; the later family's looks); each row that meets fmt, with fmt's text TOLD by the authors' own Lean function (tested against real Go, not proved from fmt's source: count such statements apart). THE CARD IS WHAT COUNTS. Prove the row's statement (the work); the ties are given (YtmfcccflohpjiaaGreatDoorTie.lean); close each card by the builder's one call (the guide's Derived/Test/ToyasCard.lean, 'card_holds'). Laid BY PROGRAM, IN A SANDBOX (cutbox-door.mjs). By AI agents, Wed Nov 11 2026. No macro, syntax, notation, axiom, sorry.
-/
import Derived.Test.YtmfcccflohpjiaaGreatDoorRows
import GoSem.ClaimSeven
namespace Go.Proofs.YtmfcccflohpjiaaGreatDoor
namespace Rows

/-- THE TIED CARD OF 'garderobelaw19.CatEncodes'. -/
def catEncodesCard : Claim7 := { stood := { row := catEncodesRow, standIns := [], harness := (true, "b2505063d0bf3b569ad35c8a71b8028c589ba9dc4ccb45539c03c45a5ffefe3b"), looks := false }, kinds := [], alts := [], laidByText := true, laidKinds := [.data, .pinned], laidTests := true, laidLooks := .later }
def CatEncodesCardSaid : Prop := Claim7.holds Tryz.pinned (.plain (OpenSpec.ofChange catEncodesSpec)) catEncodesCard

/-- THE TIED CARD OF 'garderobelaw19.CatDecodes'. -/
def catDecodesCard : Claim7 := { stood := { row := catDecodesRow, standIns := [], harness := (true, "b2505063d0bf3b569ad35c8a71b8028c589ba9dc4ccb45539c03c45a5ffefe3b"), looks := false }, kinds := [], alts := [], laidByText := true, laidKinds := [.data, .pinned], laidTests := true, laidLooks := .later }
def CatDecodesCardSaid : Prop := Claim7.holds Tryz.pinned (.plain (OpenSpec.ofChange catDecodesSpec)) catDecodesCard

/-- THE TIED CARD OF 'garderobelaw19.CatChanges'. -/
def catChangesCard : Claim7 := { stood := { row := catChangesRow, standIns := [], harness := (true, "b2505063d0bf3b569ad35c8a71b8028c589ba9dc4ccb45539c03c45a5ffefe3b"), looks := false }, kinds := [], alts := [], laidByText := true, laidKinds := [.data, .pinned], laidTests := true, laidLooks := .later }
def CatChangesCardSaid : Prop := Claim7.holds Tryz.pinned (.plain (OpenSpec.ofChange catChangesSpec)) catChangesCard

/-- THE TIED CARD OF 'garderobelaw19.CatBack'. -/
def catBackCard : Claim7 := { stood := { row := catBackRow, standIns := [], harness := (true, "b2505063d0bf3b569ad35c8a71b8028c589ba9dc4ccb45539c03c45a5ffefe3b"), looks := false }, kinds := [], alts := [], laidByText := true, laidKinds := [.data, .pinned], laidTests := true, laidLooks := .later }
def CatBackCardSaid : Prop := Claim7.holds Tryz.pinned (.plain (OpenSpec.ofChange catBackSpec)) catBackCard

/-- THE SECOND FORM's CARD OF 'garderobelaw19.CatEncodes'. -/
def catEncodesUptoCard : Claim7 := { stood := { row := catEncodesUptoRow, standIns := [], harness := (true, "b2505063d0bf3b569ad35c8a71b8028c589ba9dc4ccb45539c03c45a5ffefe3b"), looks := false }, kinds := [], alts := [], laidByText := true, laidKinds := [.data, .pinned], laidTests := true, laidLooks := .later }
def CatEncodesUptoCardSaid : Prop := Claim7.holds Tryz.pinned (.plain (OpenSpec.upto catEncodesSpec)) catEncodesUptoCard

/-- THE SECOND FORM's CARD OF 'garderobelaw19.CatDecodes'. -/
def catDecodesUptoCard : Claim7 := { stood := { row := catDecodesUptoRow, standIns := [], harness := (true, "b2505063d0bf3b569ad35c8a71b8028c589ba9dc4ccb45539c03c45a5ffefe3b"), looks := false }, kinds := [], alts := [], laidByText := true, laidKinds := [.data, .pinned], laidTests := true, laidLooks := .later }
def CatDecodesUptoCardSaid : Prop := Claim7.holds Tryz.pinned (.plain (OpenSpec.upto catDecodesSpec)) catDecodesUptoCard

/-- THE SECOND FORM's CARD OF 'garderobelaw19.CatChanges'. -/
def catChangesUptoCard : Claim7 := { stood := { row := catChangesUptoRow, standIns := [], harness := (true, "b2505063d0bf3b569ad35c8a71b8028c589ba9dc4ccb45539c03c45a5ffefe3b"), looks := false }, kinds := [], alts := [], laidByText := true, laidKinds := [.data, .pinned], laidTests := true, laidLooks := .later }
def CatChangesUptoCardSaid : Prop := Claim7.holds Tryz.pinned (.plain (OpenSpec.upto catChangesSpec)) catChangesUptoCard

/-- THE SECOND FORM's CARD OF 'garderobelaw19.CatBack'. -/
def catBackUptoCard : Claim7 := { stood := { row := catBackUptoRow, standIns := [], harness := (true, "b2505063d0bf3b569ad35c8a71b8028c589ba9dc4ccb45539c03c45a5ffefe3b"), looks := false }, kinds := [], alts := [], laidByText := true, laidKinds := [.data, .pinned], laidTests := true, laidLooks := .later }
def CatBackUptoCardSaid : Prop := Claim7.holds Tryz.pinned (.plain (OpenSpec.upto catBackSpec)) catBackUptoCard
end Rows
end Go.Proofs.YtmfcccflohpjiaaGreatDoor
