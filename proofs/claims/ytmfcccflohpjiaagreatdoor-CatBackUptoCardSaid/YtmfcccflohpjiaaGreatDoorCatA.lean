/- Words for chapter 19 out of chapter 20's texts. (Printed by gencat1.py.) -/
import Derived.Test.YtmfcccflohpjiaaGreatDoorTabB
import Derived.Deep.CutRange
import Derived.Deep.CutBlock
namespace Go.Proofs.YtmfcccflohpjiaaGreatDoor
set_option linter.unusedVariables false
set_option linter.unusedSimpArgs false
open Go.RowKit

def icells (hs : List Int) : Array Value := (hs.map (Value.int .i64)).toArray

theorem icells_at (hs : List Int) (k : Nat) (h : k < hs.length) : (icells hs)[k]? = some (.int .i64 hs[k]) := by simp [icells, h]

theorem L_litE {P : Program} {ops : Array Oper} {Q : Exit → Act → World → Prop} {a : Act} {w w0 : World} {M : Nat → Prop} {L : List Asr} {rest : List Oper} {o : Oper} (hgd : o.guard = none) {t e : TypeId} {n : Nat} {parts : Array (Nat × Operand)} (ho : o.op = .buildSlice t n parts) (H : SH M w0 w L) {cs : Array Value}
    (hr : ∀ w, (Instr.buildSlice t n (parts.map fun (i, x) => (i, a.eval x))).run P w = .ok (.slice (some ⟨w.heap.size, 0, none⟩) n n) (w.alloc (.cells cs e)))
    (k : ∀ b w', SH M w0 w' (pt b (.cells cs e) :: L) → Ext0 w w' → wpList P ops Q rest (a.put o.dst (.slice (some ⟨b, 0, none⟩) n n)) w') : wpList P ops Q (o :: rest) a w := by
  refine wpList_plain hgd fun K hK => ?_
  unfold Oper.wp execOp
  simp only [ho, Sem.run_bind, Sem.run_pure, Result.andThen_ok, hr]
  exact hK _ _ (k _ _ (H.alloc _) (Ext.alloc _ _ _))

theorem flat8_len (l : List Int) : (l.flatMap be8).length = l.length * 8 := by
  induction l with
  | nil => rfl
  | cons x l ih => rw [List.flatMap_cons, List.length_append, ih, be8_len, List.length_cons]; omega

theorem flat8_snoc (hs : List Int) (k : Nat) (h : k < hs.length) : (hs.take (k + 1)).flatMap be8 = (hs.take k).flatMap be8 ++ be8 hs[k] := by
  rw [List.take_add_one, List.getElem?_eq_getElem h, Option.toList_some, List.flatMap_append, List.flatMap_cons, List.flatMap_nil, List.append_nil]

theorem clipB_any (v : Value) (xs : List Int) (w : World) (hr : RdS (encInt .u8) 1 w v xs) : Calls Tryz.prog 24 #[v] w (GivesB w xs) := by
  obtain ⟨A, cap, rfl, hcap, h⟩ := hr
  have hci : (xs.length : Int) ≤ (cap : Int) := by omega
  obtain ⟨n, hn⟩ : ∃ n, xs.length = n := ⟨_, rfl⟩
  rw [hn] at hci ⊢
  have HH := Lib.hid (And.intro h hn)
  clear h hn hcap
  go_enter Tryz.func24, Tryz.ntmps24
  go_wp2
  go_ret
  exact ⟨_, rfl, ⟨_, _, by rw [HH.out.2]; rfl, by rw [HH.out.2]; exact Nat.le_refl _, HH.out.1⟩, Ext.refl _ _⟩

theorem W_litE {P : Program} {Q : Exit → Act → World → Prop} {K : Act → World → Prop} {a : Act} {w w0 : World} {M : Nat → Prop} {L : List Asr} {o : Oper} {t e : TypeId} {n : Nat} {parts : Array (Nat × Operand)} (ho : o.op = .buildSlice t n parts) (H : SH M w0 w L) {cs : Array Value}
    (hr : ∀ w, (Instr.buildSlice t n (parts.map fun (i, x) => (i, a.eval x))).run P w = .ok (.slice (some ⟨w.heap.size, 0, none⟩) n n) (w.alloc (.cells cs e)))
    (k : ∀ b w', SH M w0 w' (pt b (.cells cs e) :: L) → Ext0 w w' → K (a.put o.dst (.slice (some ⟨b, 0, none⟩) n n)) w') : o.wp P a w K Q := by
  unfold Oper.wp execOp
  simp only [ho, Sem.run_bind, Sem.run_pure, Result.andThen_ok, hr]
  exact k _ _ (H.alloc _) (Ext.alloc _ _ _)

theorem R_call {P : Program} {a : Act} {w : World} {o : Oper} {f : FuncId} {args : Array Value} {K : Act → World → Prop} {Q : Exit → Act → World → Prop} {R : Ending → World → Prop} (hr : (execOp a.eval o).run P w = .ok (.enter f args) w) (hc : Calls P f args w R)
    (hk : ∀ e w', R e w' → ∃ v, e = .returned v ∧ K (a.put o.dst v) w') : o.wp P a w K Q := by
  unfold Oper.wp
  rw [hr, Oper.upon_enter]
  refine hc.mono fun e w' h => ?_
  obtain ⟨v, rfl, hK⟩ := hk e w' h
  exact hK

theorem D_two {P : Program} {md : Region.Mode} {ops : Array Oper} {Q : Exit → Act → World → Prop} {S : World → Prop} {a : Act} {w : World} {listed : Array Bool} {fuel : Nat} (i j : Nat) {oi oj : Oper} (hi : ops[i]? = some oi) (hj : ops[j]? = some oj) (hr : Region.ready md ops listed = [i, j]) (hwi : Region.wanted oi (yielded ops a.tmps) = true) (hwj : Region.wanted oj (yielded ops a.tmps) = true)
    (h1 : oi.wp P a w (fun a' w' => S w' ∧ wpAnyH P md ops Q S fuel (listed.setIfInBounds i true) a' w') Q) (h2 : oj.wp P a w (fun a' w' => S w' ∧ wpAnyH P md ops Q S fuel (listed.setIfInBounds j true) a' w') Q) : wpAnyH P md ops Q S (fuel + 1) listed a w := by
  refine wpAnyH_all hr (by simp) fun k hk => ?_
  rcases List.mem_cons.1 hk with rfl | hk
  · unfold wpOp
    rw [hi]
    simp only [hwi, if_true]
    exact .inl h1
  · obtain rfl := List.mem_singleton.1 hk
    unfold wpOp
    rw [hj]
    simp only [hwj, if_true]
    exact .inl h2

end Go.Proofs.YtmfcccflohpjiaaGreatDoor
