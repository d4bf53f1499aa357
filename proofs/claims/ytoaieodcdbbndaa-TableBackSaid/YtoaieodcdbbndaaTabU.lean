/- A guarded operation whose guard holds, as one without a guard. No program is named. -/
import Derived.Test.YtoaieodcdbbndaaTabC
namespace Go.Proofs.Ytoaieodcdbbndaa
set_option linter.unusedVariables false
set_option linter.unusedSimpArgs false
open Go.RowKit
theorem L_unguard {P : Program} {ops : Array Oper} {Q : Exit → Act → World → Prop} {a : Act} {w : World} {rest : List Oper} {o : Oper} (hw : Region.wanted o (yielded ops a.tmps) = true)
    (k : wpList P ops Q ({ o with guard := none } :: rest) a w) : wpList P ops Q (o :: rest) a w := by
  simp only [wpList, hw, if_true] at k ⊢
  have h2 : Region.wanted { o with guard := none } (yielded ops a.tmps) = true := by simp [Region.wanted]
  rw [h2, if_pos rfl] at k
  exact k
end Go.Proofs.Ytoaieodcdbbndaa
