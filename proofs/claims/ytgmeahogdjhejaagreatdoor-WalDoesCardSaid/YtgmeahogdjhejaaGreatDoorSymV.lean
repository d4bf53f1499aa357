/- A guarded call that answers a value, taken whichever way the guard comes out. No program is named. -/
import Derived.Test.YtgmeahogdjhejaaGreatDoorSym
namespace Go.Proofs.YtgmeahogdjhejaaGreatDoor
set_option linter.unusedVariables false
set_option linter.unusedSimpArgs false
open Go.RowKit

section
variable {P : Program} {md : Region.Mode} {ops : Array Oper} {Q : Exit → Act → World → Prop} {M : Nat → Prop} {w0 w : World} {L : List Asr} {listed : Array Bool} {fuel : Nat}
theorem D_callV (i : Nat) (b : Bool) (q : Value) {oi : Oper} {d : Tmp} {tmps : List Value} {df : List Deferred} (hi : ops[i]? = some oi) (hr : Region.ready md ops listed = [i]) (hd : oi.dst = some d) (hw : Region.wanted oi (yielded ops tmps.toArray) = b) (hS : SH M w0 w L)
    (hc : b = true → ∀ K : Act → World → Prop, (∀ w', Ext0 w w' → K (Act.put ⟨tmps.toArray, df⟩ oi.dst q) w') → oi.wp P ⟨tmps.toArray, df⟩ w K Q)
    (h : ∀ w', SH M w0 w' L → wpAnyH P md ops Q (fun W => SH M w0 W L) fuel (listed.setIfInBounds i true) ⟨(tmps.set d (cond b q undef)).toArray, df⟩ w') : wpAnyH P md ops Q (fun W => SH M w0 W L) (fuel + 1) listed ⟨tmps.toArray, df⟩ w := by
  refine wpAnyH_all hr (by simp) fun j hj => ?_
  obtain rfl := List.mem_singleton.1 hj
  unfold wpOp
  rw [hi]
  cases b
  · simp only [hw, Bool.false_eq_true, if_false]
    refine ⟨hS, ?_⟩
    rw [hd]
    simpa [Act.put] using h w hS
  · simp only [hw, if_true]
    refine .inl (hc rfl _ fun w' hE => ⟨hS.calls hE, ?_⟩)
    rw [hd]
    simpa [Act.put] using h w' (hS.calls hE)
end
section
variable {P : Program} {ops : Array Oper} {Q : Exit → Act → World → Prop} {M : Nat → Prop} {w0 w : World} {L : List Asr} {rest : List Oper} {o : Oper} {d : Tmp} {tmps : List Value} {df : List Deferred}
theorem L_callV (b : Bool) (q : Value) (hd : o.dst = some d) (hw : Region.wanted o (yielded ops tmps.toArray) = b) (H : SH M w0 w L)
    (hc : b = true → ∀ K : Act → World → Prop, (∀ w', Ext0 w w' → K (Act.put ⟨tmps.toArray, df⟩ o.dst q) w') → o.wp P ⟨tmps.toArray, df⟩ w K Q)
    (h : ∀ w', SH M w0 w' L → wpList P ops Q rest ⟨(tmps.set d (cond b q undef)).toArray, df⟩ w') : wpList P ops Q (o :: rest) ⟨tmps.toArray, df⟩ w := by
  cases b
  · refine wpList_skip hw ?_
    rw [hd]
    simpa [Act.put] using h w H
  · refine wpList_step fun K hK => ?_
    rw [if_pos hw]
    refine hc rfl K fun w' hE => hK _ _ ?_
    rw [hd]
    simpa [Act.put] using h w' (H.calls hE)
end
end Go.Proofs.YtgmeahogdjhejaaGreatDoor
