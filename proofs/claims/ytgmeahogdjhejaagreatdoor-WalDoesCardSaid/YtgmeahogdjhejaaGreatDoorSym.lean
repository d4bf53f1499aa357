/- Guarded operations taken whichever way the guard comes out: 'cond'. No program is named. -/
import Derived.Test.YtgmeahogdjhejaaGreatDoorBase
namespace Go.Proofs.YtgmeahogdjhejaaGreatDoor
set_option linter.unusedVariables false
set_option linter.unusedSimpArgs false
open Go.RowKit

section
variable {P : Program} {md : Region.Mode} {ops : Array Oper} {Q : Exit → Act → World → Prop} {S : World → Prop} {w : World} {listed : Array Bool} {fuel : Nat}
theorem D_takeB (i : Nat) {oi : Oper} {d : Tmp} {tmps : List Value} {df : List Deferred} (hi : ops[i]? = some oi)
    (hs : Region.noSelect ops = true) (hf : Region.free md ops listed i = true) (hr : (Region.ready md ops listed).contains i = true) {q : Bool}
    (hQ : ∀ c a w, Q (.panic c) (a.put oi.dst (.bool q)) w → Q (.panic c) a w) (hd : oi.dst = some d) (hw : Region.wanted oi (yielded ops tmps.toArray) = true) (hS : S w) (hy : ∀ W, S W → (execOp (Act.eval ⟨tmps.toArray, df⟩) oi).run P W = .ok (.value (.bool q)) W)
    (h : ∀ c, Hid (c = q) → wpAnyH P md ops Q S fuel (listed.setIfInBounds i true) ⟨(tmps.set d (.bool c)).toArray, df⟩ w) : wpAnyH P md ops Q S (fuel + 1) listed ⟨tmps.toArray, df⟩ w :=
  D_take i hi hs hf hr hQ hd hw hy hS (h q (Lib.hid rfl))
theorem D_maybe (i : Nat) (b : Bool) {oi : Oper} {d : Tmp} {tmps : List Value} {df : List Deferred} (hi : ops[i]? = some oi)
    (hs : Region.noSelect ops = true) (hf : Region.free md ops listed i = true) (hr : (Region.ready md ops listed).contains i = true) {v : Value}
    (hQ : ∀ u c a w, Q (.panic c) (a.put oi.dst u) w → Q (.panic c) a w) (hd : oi.dst = some d) (hw : Region.wanted oi (yielded ops tmps.toArray) = b) (hS : S w) (hy : b = true → ∀ W, S W → (execOp (Act.eval ⟨tmps.toArray, df⟩) oi).run P W = .ok (.value v) W)
    (h : wpAnyH P md ops Q S fuel (listed.setIfInBounds i true) ⟨(tmps.set d (cond b v undef)).toArray, df⟩ w) : wpAnyH P md ops Q S (fuel + 1) listed ⟨tmps.toArray, df⟩ w := by
  cases b
  · exact D_skip i hi hs hf hr (hQ _) hd hw hS h
  · exact D_take i hi hs hf hr (hQ _) hd hw (hy rfl) hS h
theorem D_maybeB (i : Nat) (b : Bool) {oi : Oper} {d : Tmp} {tmps : List Value} {df : List Deferred} (hi : ops[i]? = some oi)
    (hs : Region.noSelect ops = true) (hf : Region.free md ops listed i = true) (hr : (Region.ready md ops listed).contains i = true) {q : Bool}
    (hQ : ∀ u c a w, Q (.panic c) (a.put oi.dst u) w → Q (.panic c) a w) (hd : oi.dst = some d) (hw : Region.wanted oi (yielded ops tmps.toArray) = b) (hS : S w) (hy : b = true → ∀ W, S W → (execOp (Act.eval ⟨tmps.toArray, df⟩) oi).run P W = .ok (.value (.bool q)) W)
    (h : ∀ c, Hid (c = q) → wpAnyH P md ops Q S fuel (listed.setIfInBounds i true) ⟨(tmps.set d (cond b (.bool c) undef)).toArray, df⟩ w) : wpAnyH P md ops Q S (fuel + 1) listed ⟨tmps.toArray, df⟩ w :=
  D_maybe i b hi hs hf hr hQ hd hw hS hy (h q (Lib.hid rfl))
end
section
variable {P : Program} {ops : Array Oper} {Q : Exit → Act → World → Prop} {w : World} {rest : List Oper} {o : Oper} {d : Tmp} {tmps : List Value} {df : List Deferred}
theorem L_take {v : Value} (hd : o.dst = some d) (hw : Region.wanted o (yielded ops tmps.toArray) = true) (hy : (execOp (Act.eval ⟨tmps.toArray, df⟩) o).run P w = .ok (.value v) w)
    (h : wpList P ops Q rest ⟨(tmps.set d v).toArray, df⟩ w) : wpList P ops Q (o :: rest) ⟨tmps.toArray, df⟩ w := by
  refine wpList_step fun K hK => ?_
  rw [if_pos hw]
  refine wp_of_value hy (hK _ _ ?_)
  rw [hd]
  simpa [Act.put] using h
theorem L_takeB {q : Bool} (hd : o.dst = some d) (hw : Region.wanted o (yielded ops tmps.toArray) = true) (hy : (execOp (Act.eval ⟨tmps.toArray, df⟩) o).run P w = .ok (.value (.bool q)) w)
    (h : ∀ c, Hid (c = q) → wpList P ops Q rest ⟨(tmps.set d (.bool c)).toArray, df⟩ w) : wpList P ops Q (o :: rest) ⟨tmps.toArray, df⟩ w := L_take hd hw hy (h q (Lib.hid rfl))
theorem L_maybe (b : Bool) {v : Value} (hd : o.dst = some d) (hw : Region.wanted o (yielded ops tmps.toArray) = b) (hy : b = true → (execOp (Act.eval ⟨tmps.toArray, df⟩) o).run P w = .ok (.value v) w)
    (h : wpList P ops Q rest ⟨(tmps.set d (cond b v undef)).toArray, df⟩ w) : wpList P ops Q (o :: rest) ⟨tmps.toArray, df⟩ w := by
  cases b
  · refine wpList_skip hw ?_
    rw [hd]
    simpa [Act.put] using h
  · exact L_take hd hw (hy rfl) h
theorem L_maybeB (b : Bool) {q : Bool} (hd : o.dst = some d) (hw : Region.wanted o (yielded ops tmps.toArray) = b) (hy : b = true → (execOp (Act.eval ⟨tmps.toArray, df⟩) o).run P w = .ok (.value (.bool q)) w)
    (h : ∀ c, Hid (c = q) → wpList P ops Q rest ⟨(tmps.set d (cond b (.bool c) undef)).toArray, df⟩ w) : wpList P ops Q (o :: rest) ⟨tmps.toArray, df⟩ w := L_maybe b hd hw hy (h q (Lib.hid rfl))
end
end Go.Proofs.YtgmeahogdjhejaaGreatDoor
