/- layout.may, layout.place, layout.logs. -/
import Derived.Test.YtgmeahogdjhejaaDoorWalP
import Derived.Test.YtgmeahogdjhejaaDoorSymV
namespace Go.Proofs.YtgmeahogdjhejaaDoor
set_option linter.unusedVariables false
set_option linter.unusedSimpArgs false
open Go.RowKit Go.Shelf

set_option maxRecDepth 100000 in
set_option maxHeartbeats 4000000 in
theorem may_any {b bs bm : Nat} {d : DS} {W0 : Int} (w0 : World) (h : (DiskA b bs bm d).says w0) (hf : d.Fine W0) (slot log : Int) :
    Calls Tryd.prog 27 #[layV b slot log] w0 fun e w' => e = .returned (.bool (decide (mayP d.sure.length slot log))) ∧ Ext0 w0 w' := by
  have H0 : SH (fun _ => False) w0 w0 [] := SH.nil _ _
  have hsz := fun {w : World} (hE : Ext0 w0 w) => size_any b bs bm d w ((DiskA b bs bm d).keep w0 w (fun j hj => hE.block j (DiskA.fp_lt h hj) (fun e => e)) h)
  have hlen := hf.len
  obtain ⟨N, hN⟩ : ∃ N, d.sure.length = N := ⟨_, rfl⟩
  rw [hN] at hsz hlen ⊢
  clear h hf hN
  unfold layV
  go_enter Tryd.func27, Tryd.ntmps27
  go_upto_region 1 with (first
    | (refine L_box rfl rfl H0 rfl rfl ?_; clear H0; intro g1 w H; (try simp only [Act.eval, Array.getD_eq_getD_getElem?, List.getElem?_toArray, List.getElem?_cons_succ, List.getElem?_cons_zero, Option.getD_some, Value.cells] at H); (try simp only [Act.put, List.setIfInBounds_toArray, List.set_cons_succ, List.set_cons_zero, List.getElem_toArray, List.getElem_cons_succ, List.getElem_cons_zero])))
  refine D_start H (by kernel_rfl) (fun hS => ?_)
  try simp only [Act.put, List.setIfInBounds_toArray, List.set_cons_succ, List.set_cons_zero]
  refine D_take 0 rfl (by kernel_rfl) (by kernel_rfl) (by kernel_rfl) (v := ?_) (fun _ _ _ h => h) rfl (by rfl) ?_ hS ?_
  rotate_left; (focus (intro W hS; first | (go_simp; done) | (go_simp; with_reducible rfl) | (go_simp; rfl))); all_goals skip; (try simp only [List.set_cons_succ, List.set_cons_zero])
  refine D_take 1 rfl (by kernel_rfl) (by kernel_rfl) (by kernel_rfl) (v := ?_) (fun _ _ _ h => h) rfl (by rfl) ?_ hS ?_
  rotate_left; (focus (intro W hS; first | (refine R_load1 (ty := 24) (x := Operand.tmp 3) rfl hS 0 rfl rfl ?_ Tryd.isAgg24; rfl))); all_goals skip; (try simp only [List.set_cons_succ, List.set_cons_zero, List.getElem_toArray, List.getElem_cons_succ, List.getElem_cons_zero])
  refine D_takeB 2 rfl (by kernel_rfl) (by kernel_rfl) (by kernel_rfl) (q := ?_) (fun _ _ _ h => h) rfl (by rfl) hS ?_ ?_
  rotate_left; (focus (intro W hS; first | (go_simp; done) | (go_simp; with_reducible rfl) | (go_simp; rfl))); all_goals skip; (try simp only [List.set_cons_succ, List.set_cons_zero])
  intro c2 Hc2
  refine D_take 3 rfl (by kernel_rfl) (by kernel_rfl) (by kernel_rfl) (v := ?_) (fun _ _ _ h => h) rfl (by rfl) ?_ hS ?_
  rotate_left; (focus (intro W hS; first | (go_simp; done) | (go_simp; with_reducible rfl) | (go_simp; rfl))); all_goals skip; (try simp only [List.set_cons_succ, List.set_cons_zero])
  refine D_maybe 4 c2 rfl (by kernel_rfl) (by kernel_rfl) (by kernel_rfl) (v := ?_) (fun _ _ _ _ h => h) rfl (by cases c2 <;> rfl) hS ?_ ?_
  rotate_left; (focus (intro hb; intro W hS; (try simp only [Bool.and_eq_true, Bool.not_eq_true'] at hb); have hb0 := hb; (try simp only [hb0, Bool.not_false, Bool.not_true, Bool.and_true, Bool.true_and, Bool.and_self, cond_true, cond_false]); first | (go_simp; done) | (go_simp; with_reducible rfl) | (go_simp; rfl))); all_goals skip; (try simp only [List.set_cons_succ, List.set_cons_zero])
  refine D_maybe 5 c2 rfl (by kernel_rfl) (by kernel_rfl) (by kernel_rfl) (v := ?_) (fun _ _ _ _ h => h) rfl (by cases c2 <;> rfl) hS ?_ ?_
  rotate_left; (focus (intro hb; intro W hS; (try simp only [Bool.and_eq_true, Bool.not_eq_true'] at hb); have hb0 := hb; (try simp only [hb0, Bool.not_false, Bool.not_true, Bool.and_true, Bool.true_and, Bool.and_self, cond_true, cond_false]); first | (refine R_load1 (ty := 3) (x := Operand.tmp 7) rfl hS 0 rfl rfl ?_ Tryd.isAgg3; rfl))); all_goals skip; (try simp only [List.set_cons_succ, List.set_cons_zero, List.getElem_toArray, List.getElem_cons_succ, List.getElem_cons_zero])
  refine D_maybe 6 c2 rfl (by kernel_rfl) (by kernel_rfl) (by kernel_rfl) (v := ?_) (fun _ _ _ _ h => h) rfl (by cases c2 <;> rfl) hS ?_ ?_
  rotate_left; (focus (intro hb; intro W hS; (try simp only [Bool.and_eq_true, Bool.not_eq_true'] at hb); have hb0 := hb; (try simp only [hb0, Bool.not_false, Bool.not_true, Bool.and_true, Bool.true_and, Bool.and_self, cond_true, cond_false]); first | (go_simp; done) | (go_simp; with_reducible rfl) | (go_simp; rfl))); all_goals skip; (try simp only [List.set_cons_succ, List.set_cons_zero])
  refine D_maybe 7 c2 rfl (by kernel_rfl) (by kernel_rfl) (by kernel_rfl) (v := ?_) (fun _ _ _ _ h => h) rfl (by cases c2 <;> rfl) hS ?_ ?_
  rotate_left; (focus (intro hb; intro W hS; (try simp only [Bool.and_eq_true, Bool.not_eq_true'] at hb); have hb0 := hb; (try simp only [hb0, Bool.not_false, Bool.not_true, Bool.and_true, Bool.true_and, Bool.and_self, cond_true, cond_false]); first | (refine R_load1 (ty := 3) (x := Operand.tmp 9) rfl hS 0 rfl rfl ?_ Tryd.isAgg3; rfl))); all_goals skip; (try simp only [List.set_cons_succ, List.set_cons_zero, List.getElem_toArray, List.getElem_cons_succ, List.getElem_cons_zero])
  refine D_maybe 8 c2 rfl (by kernel_rfl) (by kernel_rfl) (by kernel_rfl) (v := ?_) (fun _ _ _ _ h => h) rfl (by cases c2 <;> rfl) hS ?_ ?_
  rotate_left; (focus (intro hb; intro W hS; (try simp only [Bool.and_eq_true, Bool.not_eq_true'] at hb); have hb0 := hb; (try simp only [hb0, Bool.not_false, Bool.not_true, Bool.and_true, Bool.true_and, Bool.and_self, cond_true, cond_false]); first | (go_simp; done) | (go_simp; with_reducible rfl) | (go_simp; rfl))); all_goals skip; (try simp only [List.set_cons_succ, List.set_cons_zero])
  refine D_maybeB 9 c2 rfl (by kernel_rfl) (by kernel_rfl) (by kernel_rfl) (q := ?_) (fun _ _ _ _ h => h) rfl (by cases c2 <;> rfl) hS ?_ ?_
  rotate_left; (focus (intro hb; intro W hS; (try simp only [Bool.and_eq_true, Bool.not_eq_true'] at hb); have hb0 := hb; (try simp only [hb0, Bool.not_false, Bool.not_true, Bool.and_true, Bool.true_and, Bool.and_self, cond_true, cond_false]); first | (go_simp; done) | (go_simp; with_reducible rfl) | (go_simp; rfl))); all_goals skip; (try simp only [List.set_cons_succ, List.set_cons_zero])
  intro c9 Hc9
  refine D_takeB 10 rfl (by kernel_rfl) (by kernel_rfl) (by kernel_rfl) (q := (c2 && c9)) (fun _ _ _ h => h) rfl (by rfl) hS ?_ ?_
  (focus (intro W hS; cases c2 <;> cases c9 <;> (first | (go_simp; done) | (go_simp; with_reducible rfl) | (go_simp; rfl)))); all_goals skip; (try simp only [List.set_cons_succ, List.set_cons_zero])
  intro c10 Hc10
  refine D_take 11 rfl (by kernel_rfl) (by kernel_rfl) (by kernel_rfl) (v := ?_) (fun _ _ _ h => h) rfl (by rfl) ?_ hS ?_
  rotate_left; (focus (intro W hS; first | (go_simp; done) | (go_simp; with_reducible rfl) | (go_simp; rfl))); all_goals skip; (try simp only [List.set_cons_succ, List.set_cons_zero])
  refine D_maybe 12 c10 rfl (by kernel_rfl) (by kernel_rfl) (by kernel_rfl) (v := ?_) (fun _ _ _ _ h => h) rfl (by cases c10 <;> rfl) hS ?_ ?_
  rotate_left; (focus (intro hb; intro W hS; (try simp only [Bool.and_eq_true, Bool.not_eq_true'] at hb); have hb0 := hb; (try simp only [hb0, Bool.not_false, Bool.not_true, Bool.and_true, Bool.true_and, Bool.and_self, cond_true, cond_false]); first | (go_simp; done) | (go_simp; with_reducible rfl) | (go_simp; rfl))); all_goals skip; (try simp only [List.set_cons_succ, List.set_cons_zero])
  refine D_maybe 13 c10 rfl (by kernel_rfl) (by kernel_rfl) (by kernel_rfl) (v := ?_) (fun _ _ _ _ h => h) rfl (by cases c10 <;> rfl) hS ?_ ?_
  rotate_left; (focus (intro hb; intro W hS; (try simp only [Bool.and_eq_true, Bool.not_eq_true'] at hb); have hb0 := hb; (try simp only [hb0, Bool.not_false, Bool.not_true, Bool.and_true, Bool.true_and, Bool.and_self, cond_true, cond_false]); first | (refine R_load1 (ty := 3) (x := Operand.tmp 15) rfl hS 0 rfl rfl ?_ Tryd.isAgg3; rfl))); all_goals skip; (try simp only [List.set_cons_succ, List.set_cons_zero, List.getElem_toArray, List.getElem_cons_succ, List.getElem_cons_zero])
  refine D_maybe 14 c10 rfl (by kernel_rfl) (by kernel_rfl) (by kernel_rfl) (v := ?_) (fun _ _ _ _ h => h) rfl (by cases c10 <;> rfl) hS ?_ ?_
  rotate_left; (focus (intro hb; intro W hS; (try simp only [Bool.and_eq_true, Bool.not_eq_true'] at hb); have hb0 := hb; (try simp only [hb0, Bool.not_false, Bool.not_true, Bool.and_true, Bool.true_and, Bool.and_self, cond_true, cond_false]); first | (go_simp; done) | (go_simp; with_reducible rfl) | (go_simp; rfl))); all_goals skip; (try simp only [List.set_cons_succ, List.set_cons_zero])
  refine D_maybe 15 c10 rfl (by kernel_rfl) (by kernel_rfl) (by kernel_rfl) (v := ?_) (fun _ _ _ _ h => h) rfl (by cases c10 <;> rfl) hS ?_ ?_
  rotate_left; (focus (intro hb; intro W hS; (try simp only [Bool.and_eq_true, Bool.not_eq_true'] at hb); have hb0 := hb; (try simp only [hb0, Bool.not_false, Bool.not_true, Bool.and_true, Bool.true_and, Bool.and_self, cond_true, cond_false]); first | (refine R_load1 (ty := 3) (x := Operand.tmp 17) rfl hS 0 rfl rfl ?_ Tryd.isAgg3; rfl))); all_goals skip; (try simp only [List.set_cons_succ, List.set_cons_zero, List.getElem_toArray, List.getElem_cons_succ, List.getElem_cons_zero])
  refine D_maybe 16 c10 rfl (by kernel_rfl) (by kernel_rfl) (by kernel_rfl) (v := ?_) (fun _ _ _ _ h => h) rfl (by cases c10 <;> rfl) hS ?_ ?_
  rotate_left; (focus (intro hb; intro W hS; (try simp only [Bool.and_eq_true, Bool.not_eq_true'] at hb); have hb0 := hb; (try simp only [hb0, Bool.not_false, Bool.not_true, Bool.and_true, Bool.true_and, Bool.and_self, cond_true, cond_false]); first | (go_simp; done) | (go_simp; with_reducible rfl) | (go_simp; rfl))); all_goals skip; (try simp only [List.set_cons_succ, List.set_cons_zero])
  refine D_maybe 17 c10 rfl (by kernel_rfl) (by kernel_rfl) (by kernel_rfl) (v := ?_) (fun _ _ _ _ h => h) rfl (by cases c10 <;> rfl) hS ?_ ?_
  rotate_left; (focus (intro hb; intro W hS; (try simp only [Bool.and_eq_true, Bool.not_eq_true'] at hb); have hb0 := hb; (try simp only [hb0, Bool.not_false, Bool.not_true, Bool.and_true, Bool.true_and, Bool.and_self, cond_true, cond_false]); first | (go_simp; done) | (go_simp; with_reducible rfl) | (go_simp; rfl))); all_goals skip; (try simp only [List.set_cons_succ, List.set_cons_zero])
  refine D_maybe 18 c10 rfl (by kernel_rfl) (by kernel_rfl) (by kernel_rfl) (v := ?_) (fun _ _ _ _ h => h) rfl (by cases c10 <;> rfl) hS ?_ ?_
  rotate_left; (focus (intro hb; intro W hS; (try simp only [Bool.and_eq_true, Bool.not_eq_true'] at hb); have hb0 := hb; (try simp only [hb0, Bool.not_false, Bool.not_true, Bool.and_true, Bool.true_and, Bool.and_self, cond_true, cond_false]); first | (refine R_load1 (ty := 24) (x := Operand.tmp 20) rfl hS 0 rfl rfl ?_ Tryd.isAgg24; rfl))); all_goals skip; (try simp only [List.set_cons_succ, List.set_cons_zero, List.getElem_toArray, List.getElem_cons_succ, List.getElem_cons_zero])
  refine D_callV 19 c10 (.int .i64 (N : Int)) rfl (by kernel_rfl) rfl (by cases c10 <;> rfl) hS ?_ ?_
  (focus (intro hb K hK; (try simp only [Bool.and_eq_true, Bool.not_eq_true'] at hb); have hb0 := hb; subst hb0; refine R_call (f := 45) (args := #[.pointer (some ⟨b, 0, none⟩)]) (by first | (go_simp; done) | (go_simp; rfl)) (hsz hS.ext) ?_; rintro e w' ⟨rfl, rfl⟩; exact ⟨_, rfl, hK _ (Ext.refl _ _)⟩))
  clear hS; intro w hS
  (try simp only [List.set_cons_succ, List.set_cons_zero])
  refine D_maybeB 20 c10 rfl (by kernel_rfl) (by kernel_rfl) (by kernel_rfl) (q := ?_) (fun _ _ _ _ h => h) rfl (by cases c10 <;> rfl) hS ?_ ?_
  rotate_left; (focus (intro hb; intro W hS; (try simp only [Bool.and_eq_true, Bool.not_eq_true'] at hb); have hb0 := hb; (try simp only [hb0, Bool.not_false, Bool.not_true, Bool.and_true, Bool.true_and, Bool.and_self, cond_true, cond_false]); first | (go_simp; done) | (go_simp; with_reducible rfl) | (go_simp; rfl))); all_goals skip; (try simp only [List.set_cons_succ, List.set_cons_zero])
  intro c20 Hc20
  refine D_takeB 21 rfl (by kernel_rfl) (by kernel_rfl) (by kernel_rfl) (q := (c10 && c20)) (fun _ _ _ h => h) rfl (by rfl) hS ?_ ?_
  (focus (intro W hS; cases c10 <;> cases c20 <;> (first | (go_simp; done) | (go_simp; with_reducible rfl) | (go_simp; rfl)))); all_goals skip; (try simp only [List.set_cons_succ, List.set_cons_zero])
  intro c21 Hc21
  refine D_take 22 rfl (by kernel_rfl) (by kernel_rfl) (by kernel_rfl) (v := ?_) (fun _ _ _ h => h) rfl (by rfl) ?_ hS ?_
  rotate_left; (focus (intro W hS; first | (go_simp; done) | (go_simp; with_reducible rfl) | (go_simp; rfl))); all_goals skip; (try simp only [List.set_cons_succ, List.set_cons_zero])
  refine D_maybe 23 c21 rfl (by kernel_rfl) (by kernel_rfl) (by kernel_rfl) (v := ?_) (fun _ _ _ _ h => h) rfl (by cases c21 <;> rfl) hS ?_ ?_
  rotate_left; (focus (intro hb; intro W hS; (try simp only [Bool.and_eq_true, Bool.not_eq_true'] at hb); have hb0 := hb; (try simp only [hb0, Bool.not_false, Bool.not_true, Bool.and_true, Bool.true_and, Bool.and_self, cond_true, cond_false]); first | (go_simp; done) | (go_simp; with_reducible rfl) | (go_simp; rfl))); all_goals skip; (try simp only [List.set_cons_succ, List.set_cons_zero])
  refine D_maybe 24 c21 rfl (by kernel_rfl) (by kernel_rfl) (by kernel_rfl) (v := ?_) (fun _ _ _ _ h => h) rfl (by cases c21 <;> rfl) hS ?_ ?_
  rotate_left; (focus (intro hb; intro W hS; (try simp only [Bool.and_eq_true, Bool.not_eq_true'] at hb); have hb0 := hb; (try simp only [hb0, Bool.not_false, Bool.not_true, Bool.and_true, Bool.true_and, Bool.and_self, cond_true, cond_false]); first | (refine R_load1 (ty := 3) (x := Operand.tmp 26) rfl hS 0 rfl rfl ?_ Tryd.isAgg3; rfl))); all_goals skip; (try simp only [List.set_cons_succ, List.set_cons_zero, List.getElem_toArray, List.getElem_cons_succ, List.getElem_cons_zero])
  refine D_maybe 25 c21 rfl (by kernel_rfl) (by kernel_rfl) (by kernel_rfl) (v := ?_) (fun _ _ _ _ h => h) rfl (by cases c21 <;> rfl) hS ?_ ?_
  rotate_left; (focus (intro hb; intro W hS; (try simp only [Bool.and_eq_true, Bool.not_eq_true'] at hb); have hb0 := hb; (try simp only [hb0, Bool.not_false, Bool.not_true, Bool.and_true, Bool.true_and, Bool.and_self, cond_true, cond_false]); first | (go_simp; done) | (go_simp; with_reducible rfl) | (go_simp; rfl))); all_goals skip; (try simp only [List.set_cons_succ, List.set_cons_zero])
  refine D_maybe 26 c21 rfl (by kernel_rfl) (by kernel_rfl) (by kernel_rfl) (v := ?_) (fun _ _ _ _ h => h) rfl (by cases c21 <;> rfl) hS ?_ ?_
  rotate_left; (focus (intro hb; intro W hS; (try simp only [Bool.and_eq_true, Bool.not_eq_true'] at hb); have hb0 := hb; (try simp only [hb0, Bool.not_false, Bool.not_true, Bool.and_true, Bool.true_and, Bool.and_self, cond_true, cond_false]); first | (go_simp; done) | (go_simp; with_reducible rfl) | (go_simp; rfl))); all_goals skip; (try simp only [List.set_cons_succ, List.set_cons_zero])
  refine D_maybe 27 c21 rfl (by kernel_rfl) (by kernel_rfl) (by kernel_rfl) (v := ?_) (fun _ _ _ _ h => h) rfl (by cases c21 <;> rfl) hS ?_ ?_
  rotate_left; (focus (intro hb; intro W hS; (try simp only [Bool.and_eq_true, Bool.not_eq_true'] at hb); have hb0 := hb; (try simp only [hb0, Bool.not_false, Bool.not_true, Bool.and_true, Bool.true_and, Bool.and_self, cond_true, cond_false]); first | (refine R_load1 (ty := 3) (x := Operand.tmp 29) rfl hS 0 rfl rfl ?_ Tryd.isAgg3; rfl))); all_goals skip; (try simp only [List.set_cons_succ, List.set_cons_zero, List.getElem_toArray, List.getElem_cons_succ, List.getElem_cons_zero])
  refine D_maybe 28 c21 rfl (by kernel_rfl) (by kernel_rfl) (by kernel_rfl) (v := ?_) (fun _ _ _ _ h => h) rfl (by cases c21 <;> rfl) hS ?_ ?_
  rotate_left; (focus (intro hb; intro W hS; (try simp only [Bool.and_eq_true, Bool.not_eq_true'] at hb); have hb0 := hb; (try simp only [hb0, Bool.not_false, Bool.not_true, Bool.and_true, Bool.true_and, Bool.and_self, cond_true, cond_false]); first | (go_simp; done) | (go_simp; with_reducible rfl) | (go_simp; rfl))); all_goals skip; (try simp only [List.set_cons_succ, List.set_cons_zero])
  refine D_maybe 29 c21 rfl (by kernel_rfl) (by kernel_rfl) (by kernel_rfl) (v := ?_) (fun _ _ _ _ h => h) rfl (by cases c21 <;> rfl) hS ?_ ?_
  rotate_left; (focus (intro hb; intro W hS; (try simp only [Bool.and_eq_true, Bool.not_eq_true'] at hb); have hb0 := hb; (try simp only [hb0, Bool.not_false, Bool.not_true, Bool.and_true, Bool.true_and, Bool.and_self, cond_true, cond_false]); first | (go_simp; done) | (go_simp; with_reducible rfl) | (go_simp; rfl))); all_goals skip; (try simp only [List.set_cons_succ, List.set_cons_zero])
  refine D_maybe 30 c21 rfl (by kernel_rfl) (by kernel_rfl) (by kernel_rfl) (v := ?_) (fun _ _ _ _ h => h) rfl (by cases c21 <;> rfl) hS ?_ ?_
  rotate_left; (focus (intro hb; intro W hS; (try simp only [Bool.and_eq_true, Bool.not_eq_true'] at hb); have hb0 := hb; (try simp only [hb0, Bool.not_false, Bool.not_true, Bool.and_true, Bool.true_and, Bool.and_self, cond_true, cond_false]); first | (refine R_load1 (ty := 24) (x := Operand.tmp 32) rfl hS 0 rfl rfl ?_ Tryd.isAgg24; rfl))); all_goals skip; (try simp only [List.set_cons_succ, List.set_cons_zero, List.getElem_toArray, List.getElem_cons_succ, List.getElem_cons_zero])
  refine D_callV 31 c21 (.int .i64 (N : Int)) rfl (by kernel_rfl) rfl (by cases c21 <;> rfl) hS ?_ ?_
  (focus (intro hb K hK; (try simp only [Bool.and_eq_true, Bool.not_eq_true'] at hb); have hb0 := hb; subst hb0; refine R_call (f := 45) (args := #[.pointer (some ⟨b, 0, none⟩)]) (by first | (go_simp; done) | (go_simp; rfl)) (hsz hS.ext) ?_; rintro e w' ⟨rfl, rfl⟩; exact ⟨_, rfl, hK _ (Ext.refl _ _)⟩))
  clear hS; intro w hS
  (try simp only [List.set_cons_succ, List.set_cons_zero])
  refine D_maybeB 32 c21 rfl (by kernel_rfl) (by kernel_rfl) (by kernel_rfl) (q := ?_) (fun _ _ _ _ h => h) rfl (by cases c21 <;> rfl) hS ?_ ?_
  rotate_left; (focus (intro hb; intro W hS; (try simp only [Bool.and_eq_true, Bool.not_eq_true'] at hb); have hb0 := hb; (try simp only [hb0, Bool.not_false, Bool.not_true, Bool.and_true, Bool.true_and, Bool.and_self, cond_true, cond_false]); first | (go_simp; done) | (go_simp; with_reducible rfl) | (go_simp; rfl))); all_goals skip; (try simp only [List.set_cons_succ, List.set_cons_zero])
  intro c32 Hc32
  refine D_takeB 33 rfl (by kernel_rfl) (by kernel_rfl) (by kernel_rfl) (q := (c21 && c32)) (fun _ _ _ h => h) rfl (by rfl) hS ?_ ?_
  (focus (intro W hS; cases c21 <;> cases c32 <;> (first | (go_simp; done) | (go_simp; with_reducible rfl) | (go_simp; rfl)))); all_goals skip; (try simp only [List.set_cons_succ, List.set_cons_zero])
  intro c33 Hc33
  refine D_take 34 rfl (by kernel_rfl) (by kernel_rfl) (by kernel_rfl) (v := ?_) (fun _ _ _ h => h) rfl (by rfl) ?_ hS ?_
  rotate_left; (focus (intro W hS; first | (go_simp; done) | (go_simp; with_reducible rfl) | (go_simp; rfl))); all_goals skip; (try simp only [List.set_cons_succ, List.set_cons_zero])
  have hrow := Hc33.out
  simp only [Hc10.out, Hc21.out, Hc2.out, Hc9.out, Hc20.out, Hc32.out] at hrow
  replace hrow := Lib.hid hrow
  clear Hc10 Hc21 Hc33 Hc2 Hc9 Hc20 Hc32
  refine wpAnyH_done (by kernel_rfl) ?_ _
  have hE := hS.ext
  clear hS
  have hval : c33 = decide (mayP N slot log) := by
    rw [hrow.out, Bool.true_and, Bool.and_assoc, ← Bool.decide_and, ← Bool.decide_and]
    congr 1
    unfold mayP
    apply propext
    constructor
    · rintro ⟨h1, h2, h3⟩
      rw [IntKind.wrap_i64, IntKind.wrap_i64] at h3
      omega
    · rintro ⟨h1, h2, h3, h4, h5⟩
      rw [IntKind.wrap_i64, IntKind.wrap_i64]
      omega
  have HV := Lib.hid hval
  clear hval hrow hsz
  go_wp2
  go_ret
  exact ⟨by rw [← HV.out]; rfl, hE⟩
set_option maxRecDepth 100000 in
set_option maxHeartbeats 4000000 in
theorem may_nil (w0 : World) (slot log : Int) :
    Calls Tryd.prog 27 #[.agg #[.pointer none, .int .i64 slot, .int .i64 log]] w0 fun e w' => e = .returned (.bool false) ∧ Ext0 w0 w' := by
  have H0 : SH (fun _ => False) w0 w0 [] := SH.nil _ _
  go_enter Tryd.func27, Tryd.ntmps27
  go_upto_region 1 with (first
    | (refine L_box rfl rfl H0 rfl rfl ?_; clear H0; intro g1 w H; (try simp only [Act.eval, Array.getD_eq_getD_getElem?, List.getElem?_toArray, List.getElem?_cons_succ, List.getElem?_cons_zero, Option.getD_some, Value.cells] at H); (try simp only [Act.put, List.setIfInBounds_toArray, List.set_cons_succ, List.set_cons_zero, List.getElem_toArray, List.getElem_cons_succ, List.getElem_cons_zero])))
  refine D_start H (by kernel_rfl) (fun hS => ?_)
  try simp only [Act.put, List.setIfInBounds_toArray, List.set_cons_succ, List.set_cons_zero]
  refine D_take 0 rfl (by kernel_rfl) (by kernel_rfl) (by kernel_rfl) (v := ?_) (fun _ _ _ h => h) rfl (by rfl) ?_ hS ?_
  rotate_left; (focus (intro W hS; first | (go_simp; done) | (go_simp; with_reducible rfl) | (go_simp; rfl))); all_goals skip; (try simp only [List.set_cons_succ, List.set_cons_zero])
  refine D_take 1 rfl (by kernel_rfl) (by kernel_rfl) (by kernel_rfl) (v := ?_) (fun _ _ _ h => h) rfl (by rfl) ?_ hS ?_
  rotate_left; (focus (intro W hS; first | (refine R_load1 (ty := 24) (x := Operand.tmp 3) rfl hS 0 rfl rfl ?_ Tryd.isAgg24; rfl))); all_goals skip; (try simp only [List.set_cons_succ, List.set_cons_zero, List.getElem_toArray, List.getElem_cons_succ, List.getElem_cons_zero])
  refine D_takeB 2 rfl (by kernel_rfl) (by kernel_rfl) (by kernel_rfl) (q := ?_) (fun _ _ _ h => h) rfl (by rfl) hS ?_ ?_
  rotate_left; (focus (intro W hS; first | (go_simp; done) | (go_simp; with_reducible rfl) | (go_simp; rfl))); all_goals skip; (try simp only [List.set_cons_succ, List.set_cons_zero])
  intro c2 Hc2
  refine D_take 3 rfl (by kernel_rfl) (by kernel_rfl) (by kernel_rfl) (v := ?_) (fun _ _ _ h => h) rfl (by rfl) ?_ hS ?_
  rotate_left; (focus (intro W hS; first | (go_simp; done) | (go_simp; with_reducible rfl) | (go_simp; rfl))); all_goals skip; (try simp only [List.set_cons_succ, List.set_cons_zero])
  refine D_maybe 4 c2 rfl (by kernel_rfl) (by kernel_rfl) (by kernel_rfl) (v := undef) (fun _ _ _ _ h => h) rfl (by cases c2 <;> rfl) hS ?_ ?_
  (focus (intro hb; intro W hS; (try simp only [Bool.and_eq_true, Bool.not_eq_true'] at hb); have hb0 := hb; (try simp only [hb0, Bool.not_false, Bool.not_true, Bool.and_true, Bool.true_and, Bool.and_self, cond_true, cond_false]); exfalso; exact absurd (hb0.symm.trans Hc2.out) (by decide))); all_goals skip; (try simp only [List.set_cons_succ, List.set_cons_zero])
  refine D_maybe 5 c2 rfl (by kernel_rfl) (by kernel_rfl) (by kernel_rfl) (v := undef) (fun _ _ _ _ h => h) rfl (by cases c2 <;> rfl) hS ?_ ?_
  (focus (intro hb; intro W hS; (try simp only [Bool.and_eq_true, Bool.not_eq_true'] at hb); have hb0 := hb; (try simp only [hb0, Bool.not_false, Bool.not_true, Bool.and_true, Bool.true_and, Bool.and_self, cond_true, cond_false]); exfalso; exact absurd (hb0.symm.trans Hc2.out) (by decide))); all_goals skip; (try simp only [List.set_cons_succ, List.set_cons_zero, List.getElem_toArray, List.getElem_cons_succ, List.getElem_cons_zero])
  refine D_maybe 6 c2 rfl (by kernel_rfl) (by kernel_rfl) (by kernel_rfl) (v := undef) (fun _ _ _ _ h => h) rfl (by cases c2 <;> rfl) hS ?_ ?_
  (focus (intro hb; intro W hS; (try simp only [Bool.and_eq_true, Bool.not_eq_true'] at hb); have hb0 := hb; (try simp only [hb0, Bool.not_false, Bool.not_true, Bool.and_true, Bool.true_and, Bool.and_self, cond_true, cond_false]); exfalso; exact absurd (hb0.symm.trans Hc2.out) (by decide))); all_goals skip; (try simp only [List.set_cons_succ, List.set_cons_zero])
  refine D_maybe 7 c2 rfl (by kernel_rfl) (by kernel_rfl) (by kernel_rfl) (v := undef) (fun _ _ _ _ h => h) rfl (by cases c2 <;> rfl) hS ?_ ?_
  (focus (intro hb; intro W hS; (try simp only [Bool.and_eq_true, Bool.not_eq_true'] at hb); have hb0 := hb; (try simp only [hb0, Bool.not_false, Bool.not_true, Bool.and_true, Bool.true_and, Bool.and_self, cond_true, cond_false]); exfalso; exact absurd (hb0.symm.trans Hc2.out) (by decide))); all_goals skip; (try simp only [List.set_cons_succ, List.set_cons_zero, List.getElem_toArray, List.getElem_cons_succ, List.getElem_cons_zero])
  refine D_maybe 8 c2 rfl (by kernel_rfl) (by kernel_rfl) (by kernel_rfl) (v := undef) (fun _ _ _ _ h => h) rfl (by cases c2 <;> rfl) hS ?_ ?_
  (focus (intro hb; intro W hS; (try simp only [Bool.and_eq_true, Bool.not_eq_true'] at hb); have hb0 := hb; (try simp only [hb0, Bool.not_false, Bool.not_true, Bool.and_true, Bool.true_and, Bool.and_self, cond_true, cond_false]); exfalso; exact absurd (hb0.symm.trans Hc2.out) (by decide))); all_goals skip; (try simp only [List.set_cons_succ, List.set_cons_zero])
  refine D_maybeB 9 c2 rfl (by kernel_rfl) (by kernel_rfl) (by kernel_rfl) (q := false) (fun _ _ _ _ h => h) rfl (by cases c2 <;> rfl) hS ?_ ?_
  (focus (intro hb; intro W hS; (try simp only [Bool.and_eq_true, Bool.not_eq_true'] at hb); have hb0 := hb; (try simp only [hb0, Bool.not_false, Bool.not_true, Bool.and_true, Bool.true_and, Bool.and_self, cond_true, cond_false]); exfalso; exact absurd (hb0.symm.trans Hc2.out) (by decide))); all_goals skip; (try simp only [List.set_cons_succ, List.set_cons_zero])
  intro c9 Hc9
  refine D_takeB 10 rfl (by kernel_rfl) (by kernel_rfl) (by kernel_rfl) (q := (c2 && c9)) (fun _ _ _ h => h) rfl (by rfl) hS ?_ ?_
  (focus (intro W hS; cases c2 <;> cases c9 <;> (first | (go_simp; done) | (go_simp; with_reducible rfl) | (go_simp; rfl)))); all_goals skip; (try simp only [List.set_cons_succ, List.set_cons_zero])
  intro c10 Hc10
  refine D_take 11 rfl (by kernel_rfl) (by kernel_rfl) (by kernel_rfl) (v := ?_) (fun _ _ _ h => h) rfl (by rfl) ?_ hS ?_
  rotate_left; (focus (intro W hS; first | (go_simp; done) | (go_simp; with_reducible rfl) | (go_simp; rfl))); all_goals skip; (try simp only [List.set_cons_succ, List.set_cons_zero])
  refine D_maybe 12 c10 rfl (by kernel_rfl) (by kernel_rfl) (by kernel_rfl) (v := undef) (fun _ _ _ _ h => h) rfl (by cases c10 <;> rfl) hS ?_ ?_
  (focus (intro hb; intro W hS; (try simp only [Bool.and_eq_true, Bool.not_eq_true'] at hb); have hb0 := hb; (try simp only [hb0, Bool.not_false, Bool.not_true, Bool.and_true, Bool.true_and, Bool.and_self, cond_true, cond_false]); exfalso; exact absurd (hb0.symm.trans Hc10.out) (by simp [Hc2.out]))); all_goals skip; (try simp only [List.set_cons_succ, List.set_cons_zero])
  refine D_maybe 13 c10 rfl (by kernel_rfl) (by kernel_rfl) (by kernel_rfl) (v := undef) (fun _ _ _ _ h => h) rfl (by cases c10 <;> rfl) hS ?_ ?_
  (focus (intro hb; intro W hS; (try simp only [Bool.and_eq_true, Bool.not_eq_true'] at hb); have hb0 := hb; (try simp only [hb0, Bool.not_false, Bool.not_true, Bool.and_true, Bool.true_and, Bool.and_self, cond_true, cond_false]); exfalso; exact absurd (hb0.symm.trans Hc10.out) (by simp [Hc2.out]))); all_goals skip; (try simp only [List.set_cons_succ, List.set_cons_zero, List.getElem_toArray, List.getElem_cons_succ, List.getElem_cons_zero])
  refine D_maybe 14 c10 rfl (by kernel_rfl) (by kernel_rfl) (by kernel_rfl) (v := undef) (fun _ _ _ _ h => h) rfl (by cases c10 <;> rfl) hS ?_ ?_
  (focus (intro hb; intro W hS; (try simp only [Bool.and_eq_true, Bool.not_eq_true'] at hb); have hb0 := hb; (try simp only [hb0, Bool.not_false, Bool.not_true, Bool.and_true, Bool.true_and, Bool.and_self, cond_true, cond_false]); exfalso; exact absurd (hb0.symm.trans Hc10.out) (by simp [Hc2.out]))); all_goals skip; (try simp only [List.set_cons_succ, List.set_cons_zero])
  refine D_maybe 15 c10 rfl (by kernel_rfl) (by kernel_rfl) (by kernel_rfl) (v := undef) (fun _ _ _ _ h => h) rfl (by cases c10 <;> rfl) hS ?_ ?_
  (focus (intro hb; intro W hS; (try simp only [Bool.and_eq_true, Bool.not_eq_true'] at hb); have hb0 := hb; (try simp only [hb0, Bool.not_false, Bool.not_true, Bool.and_true, Bool.true_and, Bool.and_self, cond_true, cond_false]); exfalso; exact absurd (hb0.symm.trans Hc10.out) (by simp [Hc2.out]))); all_goals skip; (try simp only [List.set_cons_succ, List.set_cons_zero, List.getElem_toArray, List.getElem_cons_succ, List.getElem_cons_zero])
  refine D_maybe 16 c10 rfl (by kernel_rfl) (by kernel_rfl) (by kernel_rfl) (v := undef) (fun _ _ _ _ h => h) rfl (by cases c10 <;> rfl) hS ?_ ?_
  (focus (intro hb; intro W hS; (try simp only [Bool.and_eq_true, Bool.not_eq_true'] at hb); have hb0 := hb; (try simp only [hb0, Bool.not_false, Bool.not_true, Bool.and_true, Bool.true_and, Bool.and_self, cond_true, cond_false]); exfalso; exact absurd (hb0.symm.trans Hc10.out) (by simp [Hc2.out]))); all_goals skip; (try simp only [List.set_cons_succ, List.set_cons_zero])
  refine D_maybe 17 c10 rfl (by kernel_rfl) (by kernel_rfl) (by kernel_rfl) (v := undef) (fun _ _ _ _ h => h) rfl (by cases c10 <;> rfl) hS ?_ ?_
  (focus (intro hb; intro W hS; (try simp only [Bool.and_eq_true, Bool.not_eq_true'] at hb); have hb0 := hb; (try simp only [hb0, Bool.not_false, Bool.not_true, Bool.and_true, Bool.true_and, Bool.and_self, cond_true, cond_false]); exfalso; exact absurd (hb0.symm.trans Hc10.out) (by simp [Hc2.out]))); all_goals skip; (try simp only [List.set_cons_succ, List.set_cons_zero])
  refine D_maybe 18 c10 rfl (by kernel_rfl) (by kernel_rfl) (by kernel_rfl) (v := undef) (fun _ _ _ _ h => h) rfl (by cases c10 <;> rfl) hS ?_ ?_
  (focus (intro hb; intro W hS; (try simp only [Bool.and_eq_true, Bool.not_eq_true'] at hb); have hb0 := hb; (try simp only [hb0, Bool.not_false, Bool.not_true, Bool.and_true, Bool.true_and, Bool.and_self, cond_true, cond_false]); exfalso; exact absurd (hb0.symm.trans Hc10.out) (by simp [Hc2.out]))); all_goals skip; (try simp only [List.set_cons_succ, List.set_cons_zero, List.getElem_toArray, List.getElem_cons_succ, List.getElem_cons_zero])
  refine D_callV 19 c10 (.int .i64 0) rfl (by kernel_rfl) rfl (by cases c10 <;> rfl) hS ?_ ?_
  (focus (intro hb K hK; (try simp only [Bool.and_eq_true, Bool.not_eq_true'] at hb); have hb0 := hb; subst hb0; exact absurd Hc10.out (by simp [Hc2.out])))
  clear hS; intro w hS
  (try simp only [List.set_cons_succ, List.set_cons_zero])
  refine D_maybeB 20 c10 rfl (by kernel_rfl) (by kernel_rfl) (by kernel_rfl) (q := false) (fun _ _ _ _ h => h) rfl (by cases c10 <;> rfl) hS ?_ ?_
  (focus (intro hb; intro W hS; (try simp only [Bool.and_eq_true, Bool.not_eq_true'] at hb); have hb0 := hb; (try simp only [hb0, Bool.not_false, Bool.not_true, Bool.and_true, Bool.true_and, Bool.and_self, cond_true, cond_false]); exfalso; exact absurd (hb0.symm.trans Hc10.out) (by simp [Hc2.out]))); all_goals skip; (try simp only [List.set_cons_succ, List.set_cons_zero])
  intro c20 Hc20
  refine D_takeB 21 rfl (by kernel_rfl) (by kernel_rfl) (by kernel_rfl) (q := (c10 && c20)) (fun _ _ _ h => h) rfl (by rfl) hS ?_ ?_
  (focus (intro W hS; cases c10 <;> cases c20 <;> (first | (go_simp; done) | (go_simp; with_reducible rfl) | (go_simp; rfl)))); all_goals skip; (try simp only [List.set_cons_succ, List.set_cons_zero])
  intro c21 Hc21
  refine D_take 22 rfl (by kernel_rfl) (by kernel_rfl) (by kernel_rfl) (v := ?_) (fun _ _ _ h => h) rfl (by rfl) ?_ hS ?_
  rotate_left; (focus (intro W hS; first | (go_simp; done) | (go_simp; with_reducible rfl) | (go_simp; rfl))); all_goals skip; (try simp only [List.set_cons_succ, List.set_cons_zero])
  refine D_maybe 23 c21 rfl (by kernel_rfl) (by kernel_rfl) (by kernel_rfl) (v := undef) (fun _ _ _ _ h => h) rfl (by cases c21 <;> rfl) hS ?_ ?_
  (focus (intro hb; intro W hS; (try simp only [Bool.and_eq_true, Bool.not_eq_true'] at hb); have hb0 := hb; (try simp only [hb0, Bool.not_false, Bool.not_true, Bool.and_true, Bool.true_and, Bool.and_self, cond_true, cond_false]); exfalso; exact absurd (hb0.symm.trans Hc21.out) (by simp [Hc10.out, Hc2.out]))); all_goals skip; (try simp only [List.set_cons_succ, List.set_cons_zero])
  refine D_maybe 24 c21 rfl (by kernel_rfl) (by kernel_rfl) (by kernel_rfl) (v := undef) (fun _ _ _ _ h => h) rfl (by cases c21 <;> rfl) hS ?_ ?_
  (focus (intro hb; intro W hS; (try simp only [Bool.and_eq_true, Bool.not_eq_true'] at hb); have hb0 := hb; (try simp only [hb0, Bool.not_false, Bool.not_true, Bool.and_true, Bool.true_and, Bool.and_self, cond_true, cond_false]); exfalso; exact absurd (hb0.symm.trans Hc21.out) (by simp [Hc10.out, Hc2.out]))); all_goals skip; (try simp only [List.set_cons_succ, List.set_cons_zero, List.getElem_toArray, List.getElem_cons_succ, List.getElem_cons_zero])
  refine D_maybe 25 c21 rfl (by kernel_rfl) (by kernel_rfl) (by kernel_rfl) (v := undef) (fun _ _ _ _ h => h) rfl (by cases c21 <;> rfl) hS ?_ ?_
  (focus (intro hb; intro W hS; (try simp only [Bool.and_eq_true, Bool.not_eq_true'] at hb); have hb0 := hb; (try simp only [hb0, Bool.not_false, Bool.not_true, Bool.and_true, Bool.true_and, Bool.and_self, cond_true, cond_false]); exfalso; exact absurd (hb0.symm.trans Hc21.out) (by simp [Hc10.out, Hc2.out]))); all_goals skip; (try simp only [List.set_cons_succ, List.set_cons_zero])
  refine D_maybe 26 c21 rfl (by kernel_rfl) (by kernel_rfl) (by kernel_rfl) (v := undef) (fun _ _ _ _ h => h) rfl (by cases c21 <;> rfl) hS ?_ ?_
  (focus (intro hb; intro W hS; (try simp only [Bool.and_eq_true, Bool.not_eq_true'] at hb); have hb0 := hb; (try simp only [hb0, Bool.not_false, Bool.not_true, Bool.and_true, Bool.true_and, Bool.and_self, cond_true, cond_false]); exfalso; exact absurd (hb0.symm.trans Hc21.out) (by simp [Hc10.out, Hc2.out]))); all_goals skip; (try simp only [List.set_cons_succ, List.set_cons_zero])
  refine D_maybe 27 c21 rfl (by kernel_rfl) (by kernel_rfl) (by kernel_rfl) (v := undef) (fun _ _ _ _ h => h) rfl (by cases c21 <;> rfl) hS ?_ ?_
  (focus (intro hb; intro W hS; (try simp only [Bool.and_eq_true, Bool.not_eq_true'] at hb); have hb0 := hb; (try simp only [hb0, Bool.not_false, Bool.not_true, Bool.and_true, Bool.true_and, Bool.and_self, cond_true, cond_false]); exfalso; exact absurd (hb0.symm.trans Hc21.out) (by simp [Hc10.out, Hc2.out]))); all_goals skip; (try simp only [List.set_cons_succ, List.set_cons_zero, List.getElem_toArray, List.getElem_cons_succ, List.getElem_cons_zero])
  refine D_maybe 28 c21 rfl (by kernel_rfl) (by kernel_rfl) (by kernel_rfl) (v := undef) (fun _ _ _ _ h => h) rfl (by cases c21 <;> rfl) hS ?_ ?_
  (focus (intro hb; intro W hS; (try simp only [Bool.and_eq_true, Bool.not_eq_true'] at hb); have hb0 := hb; (try simp only [hb0, Bool.not_false, Bool.not_true, Bool.and_true, Bool.true_and, Bool.and_self, cond_true, cond_false]); exfalso; exact absurd (hb0.symm.trans Hc21.out) (by simp [Hc10.out, Hc2.out]))); all_goals skip; (try simp only [List.set_cons_succ, List.set_cons_zero])
  refine D_maybe 29 c21 rfl (by kernel_rfl) (by kernel_rfl) (by kernel_rfl) (v := undef) (fun _ _ _ _ h => h) rfl (by cases c21 <;> rfl) hS ?_ ?_
  (focus (intro hb; intro W hS; (try simp only [Bool.and_eq_true, Bool.not_eq_true'] at hb); have hb0 := hb; (try simp only [hb0, Bool.not_false, Bool.not_true, Bool.and_true, Bool.true_and, Bool.and_self, cond_true, cond_false]); exfalso; exact absurd (hb0.symm.trans Hc21.out) (by simp [Hc10.out, Hc2.out]))); all_goals skip; (try simp only [List.set_cons_succ, List.set_cons_zero])
  refine D_maybe 30 c21 rfl (by kernel_rfl) (by kernel_rfl) (by kernel_rfl) (v := undef) (fun _ _ _ _ h => h) rfl (by cases c21 <;> rfl) hS ?_ ?_
  (focus (intro hb; intro W hS; (try simp only [Bool.and_eq_true, Bool.not_eq_true'] at hb); have hb0 := hb; (try simp only [hb0, Bool.not_false, Bool.not_true, Bool.and_true, Bool.true_and, Bool.and_self, cond_true, cond_false]); exfalso; exact absurd (hb0.symm.trans Hc21.out) (by simp [Hc10.out, Hc2.out]))); all_goals skip; (try simp only [List.set_cons_succ, List.set_cons_zero, List.getElem_toArray, List.getElem_cons_succ, List.getElem_cons_zero])
  refine D_callV 31 c21 (.int .i64 0) rfl (by kernel_rfl) rfl (by cases c21 <;> rfl) hS ?_ ?_
  (focus (intro hb K hK; (try simp only [Bool.and_eq_true, Bool.not_eq_true'] at hb); have hb0 := hb; subst hb0; exact absurd Hc21.out (by simp [Hc10.out, Hc2.out])))
  clear hS; intro w hS
  (try simp only [List.set_cons_succ, List.set_cons_zero])
  refine D_maybeB 32 c21 rfl (by kernel_rfl) (by kernel_rfl) (by kernel_rfl) (q := false) (fun _ _ _ _ h => h) rfl (by cases c21 <;> rfl) hS ?_ ?_
  (focus (intro hb; intro W hS; (try simp only [Bool.and_eq_true, Bool.not_eq_true'] at hb); have hb0 := hb; (try simp only [hb0, Bool.not_false, Bool.not_true, Bool.and_true, Bool.true_and, Bool.and_self, cond_true, cond_false]); exfalso; exact absurd (hb0.symm.trans Hc21.out) (by simp [Hc10.out, Hc2.out]))); all_goals skip; (try simp only [List.set_cons_succ, List.set_cons_zero])
  intro c32 Hc32
  refine D_takeB 33 rfl (by kernel_rfl) (by kernel_rfl) (by kernel_rfl) (q := (c21 && c32)) (fun _ _ _ h => h) rfl (by rfl) hS ?_ ?_
  (focus (intro W hS; cases c21 <;> cases c32 <;> (first | (go_simp; done) | (go_simp; with_reducible rfl) | (go_simp; rfl)))); all_goals skip; (try simp only [List.set_cons_succ, List.set_cons_zero])
  intro c33 Hc33
  refine D_take 34 rfl (by kernel_rfl) (by kernel_rfl) (by kernel_rfl) (v := ?_) (fun _ _ _ h => h) rfl (by rfl) ?_ hS ?_
  rotate_left; (focus (intro W hS; first | (go_simp; done) | (go_simp; with_reducible rfl) | (go_simp; rfl))); all_goals skip; (try simp only [List.set_cons_succ, List.set_cons_zero])
  have hrow := Hc33.out
  simp only [Hc10.out, Hc21.out, Hc2.out, Hc9.out, Hc20.out, Hc32.out] at hrow
  replace hrow := Lib.hid hrow
  clear Hc10 Hc21 Hc33 Hc2 Hc9 Hc20 Hc32
  refine wpAnyH_done (by kernel_rfl) ?_ _
  have hE := hS.ext
  clear hS
  have hval : c33 = false := by rw [hrow.out]; rfl
  have HV := Lib.hid hval
  clear hval hrow
  go_wp2
  go_ret
  exact ⟨by rw [← HV.out]; rfl, hE⟩
end Go.Proofs.YtgmeahogdjhejaaDoor
