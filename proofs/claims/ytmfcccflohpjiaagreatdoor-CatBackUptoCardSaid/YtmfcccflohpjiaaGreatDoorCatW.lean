/- Catalogues: Without. -/
import Derived.Test.YtmfcccflohpjiaaGreatDoorCatU
namespace Go.Proofs.YtmfcccflohpjiaaGreatDoor
set_option linter.unusedVariables false
set_option linter.unusedSimpArgs false
open Go.RowKit

def GivesE (w : World) (xs : List Ent) (e : Ending) (w' : World) : Prop := ∃ v, e = .returned v ∧ RdS eCells 6 w' v xs ∧ Ext0 w w'
theorem clipE_any (v : Value) (xs : List Ent) (w : World) (hr : RdS eCells 6 w v xs) : Calls Tryz.prog 40 #[v] w (GivesE w xs) := by
  obtain ⟨A, cap, rfl, hcap, h⟩ := hr
  have hci : (xs.length : Int) ≤ (cap : Int) := by omega
  obtain ⟨n, hn⟩ : ∃ n, xs.length = n := ⟨_, rfl⟩
  rw [hn] at hci ⊢
  have HH := Lib.hid (And.intro h hn)
  clear h hn hcap
  go_enter Tryz.func40, Tryz.ntmps40
  go_wp2
  go_ret
  exact ⟨_, rfl, ⟨_, _, by rw [HH.out.2]; rfl, by rw [HH.out.2]; exact Nat.le_refl _, HH.out.1⟩, Ext.refl _ _⟩
theorem wo_closure (s : ByteArray) (W : World) (x : Ent) (B : Nat) (hc : W.cell? ⟨B, 0, none⟩ = some (.string s)) : Calls Tryz.prog 50 (#[entV x] ++ #[.pointer (some ⟨B, 0, none⟩)]) W fun e w' => e = .returned (.bool (eqP s x)) ∧ Ext0 W w' := by
  obtain ⟨p, mode, time, block, at_, size⟩ := x
  simp only [entV, eqP]
  have H : SH (fun _ => False) W W [] := SH.nil _ _
  show Calls Tryz.prog 50 #[.agg #[.string p, .int .i64 mode, .int .i64 time, .int .i64 block, .int .i64 at_, .int .i64 size], .pointer (some ⟨B, 0, none⟩)] W _
  go_enter Tryz.func50, Tryz.ntmps50
  go_wp2_with (first
    | (refine L_load1 rfl rfl H 0 rfl rfl rfl Tryz.isAgg9 ?_; (try simp only [Act.put, List.setIfInBounds_toArray, List.set_cons_succ, List.set_cons_zero, List.getElem_toArray, List.getElem_cons_succ, List.getElem_cons_zero])) | (refine L_box rfl rfl H rfl rfl ?_; clear H; intro g w H; (try simp only [Act.eval, Array.getD_eq_getD_getElem?, List.getElem?_toArray, List.getElem?_cons_succ, List.getElem?_cons_zero, Option.getD_some, Value.cells] at H); (try simp only [Act.put, List.setIfInBounds_toArray, List.set_cons_succ, List.set_cons_zero, List.getElem_toArray, List.getElem_cons_succ, List.getElem_cons_zero]))
    | (refine L_loadC rfl rfl rfl (H.ext.cell hc (fun e => e)) Tryz.isAgg9 ?_; (try simp only [Act.put, List.setIfInBounds_toArray, List.set_cons_succ, List.set_cons_zero, List.getElem_toArray, List.getElem_cons_succ, List.getElem_cons_zero])))
  go_ret
  exact ⟨rfl, H.ext⟩
def outE (s : ByteArray) (xs : List Ent) : List Ent := xs.filter fun x => !eqP s x
theorem kept_out (s : ByteArray) (xs : List Ent) : kept (eqP s) xs xs.length = outE s xs := by
  unfold kept outE
  rw [List.take_length]
set_option maxRecDepth 100000 in
set_option maxHeartbeats 2000000 in
theorem without_any (v : Value) (xs : List Ent) (s : ByteArray) (w : World) (hr : RdS eCells 6 w v xs) (hn : xs.length ≤ 1000) :
    Calls Tryz.prog 20 #[v, .string s] w (GivesE w (outE s xs)) := by
  have eg : ∀ args w, (callFunc 50 args).run Tryz.prog w = .ok (.enter 50 args) w := enters_of Tryz.func50 (by kernel_rfl) rfl
  have hcl := fun {W : World} (h : Ext0 w W) => cloneE_any v xs W (hr.keep h) (by omega)
  have HKO := Lib.hid (kept_out s xs)
  have H : SH (fun _ => False) w w [] := SH.nil _ _
  have HN := Lib.hid hn
  clear hr
  go_enter Tryz.func20, Tryz.ntmps20
  go_wp2_with (first
    | (refine L_box rfl rfl H rfl rfl ?_; clear H; intro g w H; (try simp only [Act.eval, Array.getD_eq_getD_getElem?, List.getElem?_toArray, List.getElem?_cons_succ, List.getElem?_cons_zero, Option.getD_some, Value.cells] at H); (try simp only [Act.put, List.setIfInBounds_toArray, List.set_cons_succ, List.set_cons_zero, List.getElem_toArray, List.getElem_cons_succ, List.getElem_cons_zero]))
    | (go_at_call 45; refine (hcl H.ext).mono ?_; rintro e w2 ⟨v6, rfl, ho, hE⟩; replace H := H.addOwn hE ho; clear ho hE)
    | (go_at_call 49; refine (delete_any H rfl HN.out 50 #[.pointer (some ⟨g, 0, none⟩)] (eqP s) eg (fun W x hS => wo_closure s W x g (cell_of_row _ g 0 _ _ _ (hS.at_ 0 rfl)))).mono ?_; rintro e w3 ⟨v8, n8, rfl, hn8, H2⟩)
    | (go_at_call 40; refine (clipE_any _ _ _ (RdS.own eLen hn8 (H2.get 0 rfl))).mono ?_; rintro e w4 ⟨v9, rfl, hrd, hE⟩))
  go_ret
  exact ⟨_, rfl, by rw [← HKO.out]; exact hrd, H2.ext.trans0 hE⟩
end Go.Proofs.YtmfcccflohpjiaaGreatDoor
