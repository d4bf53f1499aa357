/-
  DERIVED. GIVEN WITH THE SEED: THE CARDS: each row of YtgmeahogdjhejaaGreatDoorRows.lean that lists a variable, with what it lists TIED to the program's text (the seventh form; the later family's looks); each row that meets fmt, with fmt's text TOLD by the authors' own Lean function (tested against real Go, not proved from fmt's source: count such statements apart). THE CARD IS WHAT COUNTS. Prove the row's statement (the work); the ties are given (YtgmeahogdjhejaaGreatDoorTie.lean); close each card by the builder's one call (the guide's Derived/Test/ToyasCard.lean, 'card_holds'). Laid BY PROGRAM, IN A SANDBOX (cutbox-door.mjs). By AI agents, Wed Nov 11 2026. No macro, syntax, notation, axiom, sorry.
-/
import Derived.Test.YtgmeahogdjhejaaGreatDoorRows
import GoSem.ClaimSeven
namespace Go.Proofs.YtgmeahogdjhejaaGreatDoor
namespace Rows

/-- THE TIED CARD OF 'garderobelaw16.WalDoes'. -/
def walDoesCard : Claim7 := { stood := { row := walDoesRow, standIns := [], harness := (true, "f0f250714508a1d74c7de3a8276b9e016e57aad75cf9917dbe662ff7c0e285be"), looks := false }, kinds := [], alts := [], laidByText := true, laidKinds := [.sentinel], laidTests := true, laidLooks := .later }
def WalDoesCardSaid : Prop := Claim7.holds Tryz.pinned (.plain (OpenSpec.ofChange walDoesSpec)) walDoesCard

/-- THE SECOND FORM's CARD OF 'garderobelaw16.WalDoes'. -/
def walDoesUptoCard : Claim7 := { stood := { row := walDoesUptoRow, standIns := [], harness := (true, "f0f250714508a1d74c7de3a8276b9e016e57aad75cf9917dbe662ff7c0e285be"), looks := false }, kinds := [], alts := [], laidByText := true, laidKinds := [.sentinel], laidTests := true, laidLooks := .later }
def WalDoesUptoCardSaid : Prop := Claim7.holds Tryz.pinned (.plain (OpenSpec.upto walDoesSpec)) walDoesUptoCard
end Rows
end Go.Proofs.YtgmeahogdjhejaaGreatDoor
