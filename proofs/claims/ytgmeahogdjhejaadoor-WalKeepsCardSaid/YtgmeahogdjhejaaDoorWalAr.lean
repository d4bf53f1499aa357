/- Journals: the laws' arguments; a world for the witness. -/
import Derived.Test.YtgmeahogdjhejaaDoorOpen
import Derived.Test.YtgmeahogdjhejaaDoorCards
import Derived.Test.YtgmeahogdjhejaaDoorTie
import Derived.WalkKit
import Derived.ProofKit
import Derived.OpenShut
import Derived.ShutString
import Derived.ChangeOld
import Derived.Below
import Derived.Deep.DeepHandedRow
import Derived.Lib.LaidTab
namespace Go.Proofs.YtgmeahogdjhejaaDoor
set_option linter.unusedVariables false
set_option linter.unusedSimpArgs false
open Go.RowKit Go.ChangeShapes Go.WideShapes Go.Deep

theorem wf_in {q : IntKind} {a : Int} (h : (Lit.int q a).wf = true) : q.min ≤ a ∧ a ≤ q.max := by simpa [Lit.wf] using h
theorem c1_u8 : Tryd.prog.cellsOf 5 = 1 := by kernel_rfl
section
variable {H : Type} {enc : TypeId × Value → H} {w : World}
set_option maxRecDepth 100000 in
theorem bytes_arg {r : Reach} {base : Nat} {v : Value} {d : DataW H} {ps : List MemPlace} (hv : Value.okWide Tryd.prog w r base 23 v) (h : DataW.Trod enc Tryd.prog w 0 (fun _ => true) true 23 v d ps) : ∃ xs : List Int, RdS (encInt .u8) 1 w v xs ∧ ∀ x ∈ xs, 0 ≤ x ∧ x ≤ 255 := by
  obtain ⟨A, len, cap, rfl⟩ := okWide_slice Tryd.underlying23 hv
  exact rds_of_slice (enc' := encInt .u8) (k := 1) (Ok := fun b => 0 ≤ b ∧ b ≤ 255) Tryd.underlying23 c1_u8 (by omega) (fun n cs x h => by
    obtain ⟨a, e, _, wf⟩ := DataW.trod_int Tryd.underlying5 h
    exact ⟨a, e, wf_in wf⟩) h
theorem c1_u16 : Tryd.prog.cellsOf 34 = 1 := by kernel_rfl
set_option maxRecDepth 100000 in
theorem u16s_arg {r : Reach} {base : Nat} {v : Value} {d : DataW H} {ps : List MemPlace} (hv : Value.okWide Tryd.prog w r base 22 v) (h : DataW.Trod enc Tryd.prog w 0 (fun _ => true) true 22 v d ps) : ∃ xs : List Int, RdS (encInt .u16) 1 w v xs ∧ ∀ x ∈ xs, 0 ≤ x ∧ x ≤ 65535 := by
  obtain ⟨A, len, cap, rfl⟩ := okWide_slice Tryd.underlying22 hv
  exact rds_of_slice (enc' := encInt .u16) (k := 1) (Ok := fun b => 0 ≤ b ∧ b ≤ 65535) Tryd.underlying22 c1_u16 (by omega) (fun n cs x h => by
    obtain ⟨a, e, _, wf⟩ := DataW.trod_int Tryd.underlying34 h
    exact ⟨a, e, wf_in wf⟩) h
end
theorem pown : ownKnob Tryd.prog.godebug = none := by kernel_rfl
theorem plaidOut : laidOutB Tryd.prog = true := by kernel_rfl
/-- A world for the witness: the listed error lies as its initialiser lays it. -/
abbrev tooLargeS : ByteArray := { data := #[98,121,116,101,115,46,66,117,102,102,101,114,58,32,116,111,111,32,108,97,114,103,101] }
noncomputable def low : Nat := (World.holding Tryd.prog default ⟨#[], #[], []⟩).heap.size
noncomputable def walWorld (os : Os) (args : Array Value) : World :=
  { World.holding Tryd.prog os ⟨#[.cells #[.string tooLargeS] 156], args, []⟩ with heap := (World.holding Tryd.prog os ⟨#[.cells #[.string tooLargeS] 156], args, []⟩).heap.modify 0 fun
      | .cells _ t frozen => .cells #[.iface 140 (.pointer (some ⟨low, 0, none⟩))] t frozen
      | o => o }
end Go.Proofs.YtgmeahogdjhejaaDoor
