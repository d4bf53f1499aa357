/-
  No cell of these rows narrows 'for every input' (looked for: loops, veiled, ifaces, maps, wideKeys, modest, calm, conditions, laid).
  DERIVED. THE GIVEN ROWS OF THIS SEAT. 9 by the template 'for every input the law returns true; each argument reads behind the call as it read before'; 0 by the template 'total and deterministic' (their statements: YtjdfeagjbhdceaaTotals.lean).
  GIVEN WITH THE SEED: the statements are not yours to turn. If you find one false, say at which input.
  Laid BY PROGRAM, IN A SANDBOX (cutbox-rows.mjs): the forced cells as the released guide's own fill.sh prints them over the translation 42cf2b35b36ee057… (all of the seat's roots in one cut). By AI agents, Wed Nov 11 2026. No macro, syntax, notation, axiom, sorry.
-/
import Derived.Test.YtjdfeagjbhdceaaChecked
import GoSem.Claim
import GoSem.ClaimJoined
import GoSem.ClaimMapViews
import Derived.JoinedTies
import Derived.KernelRfl
namespace Go.Proofs.Ytjdfeagjbhdceaa
/- THE CELL 'sum', in the pinned program and in every row, IS THE sha256 OF THE DUMP (.gsa) THAT YtjdfeagjbhdceaaProg.lean LOADS. Nothing in Lean hashes anything: it is a label: what it is worth is what the hold of that sum in a sandbox is worth. -/
noncomputable def Try.pinned : Pinned := { name := "ytjdfeagjbhdceaa", sum := "42cf2b35b36ee057057078df8287edfda1b36bb4e48e47a8a30c01e972dbcf68", checked := Try.checked }
namespace Rows
def none {H : Type} : Left H := { results := [], args := [] }

/-- 'garderobelaw17.SpaceFinds': WHATEVER THE INPUT: true; the input reads as it did. -/
def spaceFindsSpec : ChangeSpec := { name := "spaceFinds", fn := fun _ => fun
  | [d1, d2, d3] => { results := [.lit (.bool true)], args := [d1, d2, d3] }
  | _ => none }
def spaceFindsRow : OpenClaim := { program := "ytjdfeagjbhdceaa", sum := "42cf2b35b36ee057057078df8287edfda1b36bb4e48e47a8a30c01e972dbcf68", func := "garderobe/garderobelaw17.SpaceFinds", spec := "spaceFinds", unfollowed := true, recurses := true, apart := false }
def SpaceFindsSaid : Prop := spaceFindsRow.holds Try.pinned (OpenSpec.ofChange spaceFindsSpec)

/-- ITS FALSE NEIGHBOUR: 'it returns false'. Refute it at one input. -/
def spaceFindsWrong : ChangeSpec := { name := "spaceFinds", fn := fun _ => fun
  | [d1, d2, d3] => { results := [.lit (.bool false)], args := [d1, d2, d3] }
  | _ => none }
def SpaceFindsWrongFalsely : Prop := spaceFindsRow.holds Try.pinned (OpenSpec.ofChange spaceFindsWrong)

/-- 'garderobelaw17.SpaceTakes': WHATEVER THE INPUT: true; the input reads as it did. -/
def spaceTakesSpec : ChangeSpec := { name := "spaceTakes", fn := fun _ => fun
  | [d1, d2, d3] => { results := [.lit (.bool true)], args := [d1, d2, d3] }
  | _ => none }
def spaceTakesRow : OpenClaim := { program := "ytjdfeagjbhdceaa", sum := "42cf2b35b36ee057057078df8287edfda1b36bb4e48e47a8a30c01e972dbcf68", func := "garderobe/garderobelaw17.SpaceTakes", spec := "spaceTakes", unfollowed := true, recurses := true, apart := false }
def SpaceTakesSaid : Prop := spaceTakesRow.holds Try.pinned (OpenSpec.ofChange spaceTakesSpec)

/-- ITS FALSE NEIGHBOUR: 'it returns false'. Refute it at one input. -/
def spaceTakesWrong : ChangeSpec := { name := "spaceTakes", fn := fun _ => fun
  | [d1, d2, d3] => { results := [.lit (.bool false)], args := [d1, d2, d3] }
  | _ => none }
def SpaceTakesWrongFalsely : Prop := spaceTakesRow.holds Try.pinned (OpenSpec.ofChange spaceTakesWrong)

/-- 'garderobelaw17.SpaceOrder': WHATEVER THE INPUT: true; the input reads as it did. -/
def spaceOrderSpec : ChangeSpec := { name := "spaceOrder", fn := fun _ => fun
  | [d1, d2] => { results := [.lit (.bool true)], args := [d1, d2] }
  | _ => none }
def spaceOrderRow : OpenClaim := { program := "ytjdfeagjbhdceaa", sum := "42cf2b35b36ee057057078df8287edfda1b36bb4e48e47a8a30c01e972dbcf68", func := "garderobe/garderobelaw17.SpaceOrder", spec := "spaceOrder", unfollowed := true, recurses := true, apart := false }
def SpaceOrderSaid : Prop := spaceOrderRow.holds Try.pinned (OpenSpec.ofChange spaceOrderSpec)

/-- ITS FALSE NEIGHBOUR: 'it returns false'. Refute it at one input. -/
def spaceOrderWrong : ChangeSpec := { name := "spaceOrder", fn := fun _ => fun
  | [d1, d2] => { results := [.lit (.bool false)], args := [d1, d2] }
  | _ => none }
def SpaceOrderWrongFalsely : Prop := spaceOrderRow.holds Try.pinned (OpenSpec.ofChange spaceOrderWrong)

/-- 'garderobelaw14.DiskSurvives': WHATEVER THE INPUT: true; the input reads as it did. -/
def diskSurvivesSpec : ChangeSpec := { name := "diskSurvives", fn := fun _ => fun
  | [d1, d2, d3, d4, d5] => { results := [.lit (.bool true)], args := [d1, d2, d3, d4, d5] }
  | _ => none }
def diskSurvivesRow : OpenClaim := { program := "ytjdfeagjbhdceaa", sum := "42cf2b35b36ee057057078df8287edfda1b36bb4e48e47a8a30c01e972dbcf68", func := "garderobe/garderobelaw14.DiskSurvives", spec := "diskSurvives", unfollowed := true, recurses := true, apart := false }
def DiskSurvivesSaid : Prop := diskSurvivesRow.holds Try.pinned (OpenSpec.ofChange diskSurvivesSpec)

/-- ITS FALSE NEIGHBOUR: 'it returns false'. Refute it at one input. -/
def diskSurvivesWrong : ChangeSpec := { name := "diskSurvives", fn := fun _ => fun
  | [d1, d2, d3, d4, d5] => { results := [.lit (.bool false)], args := [d1, d2, d3, d4, d5] }
  | _ => none }
def DiskSurvivesWrongFalsely : Prop := diskSurvivesRow.holds Try.pinned (OpenSpec.ofChange diskSurvivesWrong)

/-- 'garderobelaw14.DiskFlushed': WHATEVER THE INPUT: true; the input reads as it did. -/
def diskFlushedSpec : ChangeSpec := { name := "diskFlushed", fn := fun _ => fun
  | [d1, d2, d3, d4, d5] => { results := [.lit (.bool true)], args := [d1, d2, d3, d4, d5] }
  | _ => none }
def diskFlushedRow : OpenClaim := { program := "ytjdfeagjbhdceaa", sum := "42cf2b35b36ee057057078df8287edfda1b36bb4e48e47a8a30c01e972dbcf68", func := "garderobe/garderobelaw14.DiskFlushed", spec := "diskFlushed", unfollowed := true, recurses := true, apart := false }
def DiskFlushedSaid : Prop := diskFlushedRow.holds Try.pinned (OpenSpec.ofChange diskFlushedSpec)

/-- ITS FALSE NEIGHBOUR: 'it returns false'. Refute it at one input. -/
def diskFlushedWrong : ChangeSpec := { name := "diskFlushed", fn := fun _ => fun
  | [d1, d2, d3, d4, d5] => { results := [.lit (.bool false)], args := [d1, d2, d3, d4, d5] }
  | _ => none }
def DiskFlushedWrongFalsely : Prop := diskFlushedRow.holds Try.pinned (OpenSpec.ofChange diskFlushedWrong)

/-- 'garderobelaw14.DiskAges': WHATEVER THE INPUT: true; the input reads as it did. -/
def diskAgesSpec : ChangeSpec := { name := "diskAges", fn := fun _ => fun
  | [d1, d2] => { results := [.lit (.bool true)], args := [d1, d2] }
  | _ => none }
def diskAgesRow : OpenClaim := { program := "ytjdfeagjbhdceaa", sum := "42cf2b35b36ee057057078df8287edfda1b36bb4e48e47a8a30c01e972dbcf68", func := "garderobe/garderobelaw14.DiskAges", spec := "diskAges", unfollowed := true, recurses := true, apart := false }
def DiskAgesSaid : Prop := diskAgesRow.holds Try.pinned (OpenSpec.ofChange diskAgesSpec)

/-- ITS FALSE NEIGHBOUR: 'it returns false'. Refute it at one input. -/
def diskAgesWrong : ChangeSpec := { name := "diskAges", fn := fun _ => fun
  | [d1, d2] => { results := [.lit (.bool false)], args := [d1, d2] }
  | _ => none }
def DiskAgesWrongFalsely : Prop := diskAgesRow.holds Try.pinned (OpenSpec.ofChange diskAgesWrong)

/-- 'garderobelaw14.DiskDoes': WHATEVER THE INPUT: true; the input reads as it did. -/
def diskDoesSpec : ChangeSpec := { name := "diskDoes", fn := fun _ => fun
  | [d1, d2] => { results := [.lit (.bool true)], args := [d1, d2] }
  | _ => none }
def diskDoesRow : OpenClaim := { program := "ytjdfeagjbhdceaa", sum := "42cf2b35b36ee057057078df8287edfda1b36bb4e48e47a8a30c01e972dbcf68", func := "garderobe/garderobelaw14.DiskDoes", spec := "diskDoes", unfollowed := true, recurses := true, apart := false }
def DiskDoesSaid : Prop := diskDoesRow.holds Try.pinned (OpenSpec.ofChange diskDoesSpec)

/-- ITS FALSE NEIGHBOUR: 'it returns false'. Refute it at one input. -/
def diskDoesWrong : ChangeSpec := { name := "diskDoes", fn := fun _ => fun
  | [d1, d2] => { results := [.lit (.bool false)], args := [d1, d2] }
  | _ => none }
def DiskDoesWrongFalsely : Prop := diskDoesRow.holds Try.pinned (OpenSpec.ofChange diskDoesWrong)

/-- 'garderobelaw14.DiskBurns': WHATEVER THE INPUT: true; the input reads as it did. -/
def diskBurnsSpec : ChangeSpec := { name := "diskBurns", fn := fun _ => fun
  | [d1, d2] => { results := [.lit (.bool true)], args := [d1, d2] }
  | _ => none }
def diskBurnsRow : OpenClaim := { program := "ytjdfeagjbhdceaa", sum := "42cf2b35b36ee057057078df8287edfda1b36bb4e48e47a8a30c01e972dbcf68", func := "garderobe/garderobelaw14.DiskBurns", spec := "diskBurns", unfollowed := true, recurses := true, apart := false }
def DiskBurnsSaid : Prop := diskBurnsRow.holds Try.pinned (OpenSpec.ofChange diskBurnsSpec)

/-- ITS FALSE NEIGHBOUR: 'it returns false'. Refute it at one input. -/
def diskBurnsWrong : ChangeSpec := { name := "diskBurns", fn := fun _ => fun
  | [d1, d2] => { results := [.lit (.bool false)], args := [d1, d2] }
  | _ => none }
def DiskBurnsWrongFalsely : Prop := diskBurnsRow.holds Try.pinned (OpenSpec.ofChange diskBurnsWrong)

/-- 'garderobelaw14.DiskNobody': WHATEVER THE INPUT: true; the input reads as it did. -/
def diskNobodySpec : ChangeSpec := { name := "diskNobody", fn := fun _ => fun
  | [d1, d2, d3] => { results := [.lit (.bool true)], args := [d1, d2, d3] }
  | _ => none }
def diskNobodyRow : OpenClaim := { program := "ytjdfeagjbhdceaa", sum := "42cf2b35b36ee057057078df8287edfda1b36bb4e48e47a8a30c01e972dbcf68", func := "garderobe/garderobelaw14.DiskNobody", spec := "diskNobody", unfollowed := true, recurses := true, apart := false }
def DiskNobodySaid : Prop := diskNobodyRow.holds Try.pinned (OpenSpec.ofChange diskNobodySpec)

/-- ITS FALSE NEIGHBOUR: 'it returns false'. Refute it at one input. -/
def diskNobodyWrong : ChangeSpec := { name := "diskNobody", fn := fun _ => fun
  | [d1, d2, d3] => { results := [.lit (.bool false)], args := [d1, d2, d3] }
  | _ => none }
def DiskNobodyWrongFalsely : Prop := diskNobodyRow.holds Try.pinned (OpenSpec.ofChange diskNobodyWrong)

/- THE SECOND FORM. 'bulk': how many values and letters a reading holds, each counted each time it is reached (what is shared counts as often as it is met; a slice's spare places count too). A statement '..UptoSaid' is the law's where the arguments, and the package variables that the reading takes, are together of bulk at most 1048576: NARROWER than '..Said'. Prove '..Said' where nothing that the law and all that it calls make is longer than what came in: it says more and counts as full. Else prove '..UptoSaid'. A law counts once. -/
mutual
def uptoBulk {H : Type} : DataW H → Nat
  | .lit (.string bytes) => bytes.length + 1
  | .lit _ => 1
  | .nil => 1
  | .ptr d => uptoBulk d + 1
  | .slice elems spare => uptoBulkAll elems + uptoBulkAll spare + 1
  | .agg parts => uptoBulkAll parts + 1
  | .iface _ d => uptoBulk d + 1
  | .map entries => uptoBulkEntries entries + 1
  | .held _ => 1
def uptoBulkAll {H : Type} : List (DataW H) → Nat
  | [] => 0
  | d :: r => uptoBulk d + uptoBulkAll r
def uptoBulkEntries {H : Type} : List (Lit × DataW H) → Nat
  | [] => 0
  | x :: r => uptoBulkEntry x + uptoBulkEntries r
def uptoBulkEntry {H : Type} : Lit × DataW H → Nat
  | (.string bytes, d) => bytes.length + uptoBulk d + 1
  | (_, d) => uptoBulk d + 1
 end
def uptoSmall : (H : Type) → List (DataW H) → Bool := fun _ ds => decide (uptoBulkAll ds ≤ 1048576)
def OpenSpec.upto (s : _root_.Go.ChangeSpec) : _root_.Go.OpenSpec := { _root_.Go.OpenSpec.ofChange s with cond := some uptoSmall }

/-- 'garderobelaw17.SpaceFinds', WHERE WHAT IT READS IS OF BULK AT MOST 1048576: true; the input reads as it did. -/
def spaceFindsUptoRow : OpenClaim := { program := "ytjdfeagjbhdceaa", sum := "42cf2b35b36ee057057078df8287edfda1b36bb4e48e47a8a30c01e972dbcf68", func := "garderobe/garderobelaw17.SpaceFinds", spec := "spaceFinds", unfollowed := true, recurses := true, apart := false, narrowed := true }
def SpaceFindsUptoSaid : Prop := spaceFindsUptoRow.holds Try.pinned (OpenSpec.upto spaceFindsSpec)

/-- 'garderobelaw17.SpaceTakes', WHERE WHAT IT READS IS OF BULK AT MOST 1048576: true; the input reads as it did. -/
def spaceTakesUptoRow : OpenClaim := { program := "ytjdfeagjbhdceaa", sum := "42cf2b35b36ee057057078df8287edfda1b36bb4e48e47a8a30c01e972dbcf68", func := "garderobe/garderobelaw17.SpaceTakes", spec := "spaceTakes", unfollowed := true, recurses := true, apart := false, narrowed := true }
def SpaceTakesUptoSaid : Prop := spaceTakesUptoRow.holds Try.pinned (OpenSpec.upto spaceTakesSpec)

/-- 'garderobelaw17.SpaceOrder', WHERE WHAT IT READS IS OF BULK AT MOST 1048576: true; the input reads as it did. -/
def spaceOrderUptoRow : OpenClaim := { program := "ytjdfeagjbhdceaa", sum := "42cf2b35b36ee057057078df8287edfda1b36bb4e48e47a8a30c01e972dbcf68", func := "garderobe/garderobelaw17.SpaceOrder", spec := "spaceOrder", unfollowed := true, recurses := true, apart := false, narrowed := true }
def SpaceOrderUptoSaid : Prop := spaceOrderUptoRow.holds Try.pinned (OpenSpec.upto spaceOrderSpec)

/-- 'garderobelaw14.DiskSurvives', WHERE WHAT IT READS IS OF BULK AT MOST 1048576: true; the input reads as it did. -/
def diskSurvivesUptoRow : OpenClaim := { program := "ytjdfeagjbhdceaa", sum := "42cf2b35b36ee057057078df8287edfda1b36bb4e48e47a8a30c01e972dbcf68", func := "garderobe/garderobelaw14.DiskSurvives", spec := "diskSurvives", unfollowed := true, recurses := true, apart := false, narrowed := true }
def DiskSurvivesUptoSaid : Prop := diskSurvivesUptoRow.holds Try.pinned (OpenSpec.upto diskSurvivesSpec)

/-- 'garderobelaw14.DiskFlushed', WHERE WHAT IT READS IS OF BULK AT MOST 1048576: true; the input reads as it did. -/
def diskFlushedUptoRow : OpenClaim := { program := "ytjdfeagjbhdceaa", sum := "42cf2b35b36ee057057078df8287edfda1b36bb4e48e47a8a30c01e972dbcf68", func := "garderobe/garderobelaw14.DiskFlushed", spec := "diskFlushed", unfollowed := true, recurses := true, apart := false, narrowed := true }
def DiskFlushedUptoSaid : Prop := diskFlushedUptoRow.holds Try.pinned (OpenSpec.upto diskFlushedSpec)

/-- 'garderobelaw14.DiskAges', WHERE WHAT IT READS IS OF BULK AT MOST 1048576: true; the input reads as it did. -/
def diskAgesUptoRow : OpenClaim := { program := "ytjdfeagjbhdceaa", sum := "42cf2b35b36ee057057078df8287edfda1b36bb4e48e47a8a30c01e972dbcf68", func := "garderobe/garderobelaw14.DiskAges", spec := "diskAges", unfollowed := true, recurses := true, apart := false, narrowed := true }
def DiskAgesUptoSaid : Prop := diskAgesUptoRow.holds Try.pinned (OpenSpec.upto diskAgesSpec)

/-- 'garderobelaw14.DiskDoes', WHERE WHAT IT READS IS OF BULK AT MOST 1048576: true; the input reads as it did. -/
def diskDoesUptoRow : OpenClaim := { program := "ytjdfeagjbhdceaa", sum := "42cf2b35b36ee057057078df8287edfda1b36bb4e48e47a8a30c01e972dbcf68", func := "garderobe/garderobelaw14.DiskDoes", spec := "diskDoes", unfollowed := true, recurses := true, apart := false, narrowed := true }
def DiskDoesUptoSaid : Prop := diskDoesUptoRow.holds Try.pinned (OpenSpec.upto diskDoesSpec)

/-- 'garderobelaw14.DiskBurns', WHERE WHAT IT READS IS OF BULK AT MOST 1048576: true; the input reads as it did. -/
def diskBurnsUptoRow : OpenClaim := { program := "ytjdfeagjbhdceaa", sum := "42cf2b35b36ee057057078df8287edfda1b36bb4e48e47a8a30c01e972dbcf68", func := "garderobe/garderobelaw14.DiskBurns", spec := "diskBurns", unfollowed := true, recurses := true, apart := false, narrowed := true }
def DiskBurnsUptoSaid : Prop := diskBurnsUptoRow.holds Try.pinned (OpenSpec.upto diskBurnsSpec)

/-- 'garderobelaw14.DiskNobody', WHERE WHAT IT READS IS OF BULK AT MOST 1048576: true; the input reads as it did. -/
def diskNobodyUptoRow : OpenClaim := { program := "ytjdfeagjbhdceaa", sum := "42cf2b35b36ee057057078df8287edfda1b36bb4e48e47a8a30c01e972dbcf68", func := "garderobe/garderobelaw14.DiskNobody", spec := "diskNobody", unfollowed := true, recurses := true, apart := false, narrowed := true }
def DiskNobodyUptoSaid : Prop := diskNobodyUptoRow.holds Try.pinned (OpenSpec.upto diskNobodySpec)

end Rows
end Go.Proofs.Ytjdfeagjbhdceaa
