/- Catalogues: entries; alone, common. -/
import Derived.Test.YtmfcccflohpjiaaGreatDoorCatA
import Derived.Test.YtmfcccflohpjiaaGreatDoorCatPC
import Derived.Test.YtmfcccflohpjiaaGreatDoorSymC
import Derived.Test.YtmfcccflohpjiaaGreatDoorSpaceD
namespace Go.Proofs.YtmfcccflohpjiaaGreatDoor
set_option linter.unusedVariables false
set_option linter.unusedSimpArgs false
open Go.RowKit

structure Ent where
  path : ByteArray
  mode : Int
  time : Int
  block : Int
  at_ : Int
  size : Int
def eCells (x : Ent) : List Value := [.string x.path, .int .i64 x.mode, .int .i64 x.time, .int .i64 x.block, .int .i64 x.at_, .int .i64 x.size]
def entV (x : Ent) : Value := .agg #[.string x.path, .int .i64 x.mode, .int .i64 x.time, .int .i64 x.block, .int .i64 x.at_, .int .i64 x.size]
theorem eLen (x : Ent) : (eCells x).length = 6 := rfl
theorem eOne (x : Ent) : ∀ u ∈ eCells x, u.oneCell' = true := by
  intro u hu
  simp only [eCells, List.mem_cons, List.not_mem_nil, or_false] at hu
  rcases hu with rfl | rfl | rfl | rfl | rfl | rfl <;> rfl
theorem info39 : (Tryz.prog.info? 39).map (·.size) = some 6 := by kernel_rfl
theorem infoEZ : (Tryz.prog.info? 39).map (fun i => (i.zero, i.size, i.bytes)) = some (some (.agg #[.string ByteArray.empty, .int .i64 0, .int .i64 0, .int .i64 0, .int .i64 0, .int .i64 0]), 6, 56) := by kernel_rfl
/-- A path as letters. -/
def pathL (s : ByteArray) : List UInt8 := Pth.lst s
def aloneP (x : Ent) : Bool := Pth.goodL (Pth.lst x.path) && decide (0 ≤ x.mode ∧ x.mode ≤ 511 ∧ 0 ≤ x.time ∧ x.time ≤ 1099511627776 ∧ 1 ≤ x.block ∧ 0 ≤ x.at_ ∧ 0 ≤ x.size ∧ x.at_ ≤ 1024 ∧ x.size ≤ 1024 - x.at_)
/-- Numbers as they may be. -/
def Ent.Num (x : Ent) : Prop := (-9223372036854775808 ≤ x.at_ ∧ x.at_ ≤ 9223372036854775807) ∧ (-9223372036854775808 ≤ x.size ∧ x.size ≤ 9223372036854775807)
set_option maxRecDepth 100000 in
set_option maxHeartbeats 2000000 in
theorem alone_any (x : Ent) (w0 : World) (hp : x.path.size < 4294967281) (hm : Pth.ML w0) (hn : x.Num) : Calls Tryz.prog 27 #[entV x] w0 fun e w' => e = .returned (.bool (aloneP x)) ∧ Ext0 w0 w' := by
  have H : SH (fun _ => False) w0 w0 [] := SH.nil _ _
  obtain ⟨p, mode, time, block, at_, size⟩ := x
  have hg := fun {W : World} (hE : Ext0 w0 W) => Pth.good_any p W hp (hm.ext hE)
  obtain ⟨res, hres⟩ : ∃ q, aloneP ⟨p, mode, time, block, at_, size⟩ = q := ⟨_, rfl⟩
  rw [hres]
  unfold aloneP at hres
  simp only at hg hres
  generalize Pth.goodL (Pth.lst p) = gp at hg hres
  have HRES := Lib.hid hres
  have HN := Lib.hid hn
  clear hres hn
  simp only [entV]
  go_enter Tryz.func27, Tryz.ntmps27
  go_upto_region 1 with (first | (refine L_box rfl rfl H rfl rfl ?_; clear H; intro g w H; (try simp only [Act.eval, Array.getD_eq_getD_getElem?, List.getElem?_toArray, List.getElem?_cons_succ, List.getElem?_cons_zero, Option.getD_some, Value.cells] at H); (try simp only [Act.put, List.setIfInBounds_toArray, List.set_cons_succ, List.set_cons_zero, List.getElem_toArray, List.getElem_cons_succ, List.getElem_cons_zero])))
  go_step
  refine L_take (v := ?_) rfl (by rfl) ?_ ?_
  rotate_left; (focus (first | (go_simp; done) | (go_simp; with_reducible rfl) | (go_simp; rfl))); all_goals skip; (try simp only [List.set_cons_succ, List.set_cons_zero])
  refine L_take (v := ?_) rfl (by rfl) ?_ ?_
  rotate_left; (focus (first | (refine R_load1 (ty := 9) (x := Operand.tmp 3) rfl H 0 rfl rfl ?_ Tryz.isAgg9; rfl))); all_goals skip; (try simp only [List.set_cons_succ, List.set_cons_zero, List.getElem_toArray, List.getElem_cons_succ, List.getElem_cons_zero])
  refine L_callB true gp rfl (by rfl) H ?_ ?_
  (focus (intro hb K hK; refine R_call (f := 52) (args := #[.string p]) (by first | (go_simp; done) | (go_simp; rfl)) (hg H.ext) ?_; rintro e w' ⟨rfl, hE⟩; exact ⟨_, rfl, hK _ hE⟩))
  clear H; intro ca2 w Hca2 H
  (try simp only [List.set_cons_succ, List.set_cons_zero])
  refine L_take (v := ?_) rfl (by rfl) ?_ ?_
  rotate_left; (focus (first | (go_simp; done) | (go_simp; with_reducible rfl) | (go_simp; rfl))); all_goals skip; (try simp only [List.set_cons_succ, List.set_cons_zero])
  refine L_maybe ca2 (v := ?_) rfl (by cases ca2 <;> rfl) ?_ ?_
  rotate_left; (focus (intro hb; (try simp only [Bool.and_eq_true, Bool.not_eq_true'] at hb); have hb0 := hb; (try simp only [hb0, Bool.not_false, Bool.not_true, Bool.and_true, Bool.true_and, Bool.and_self, cond_true, cond_false]); first | (go_simp; done) | (go_simp; with_reducible rfl) | (go_simp; rfl))); all_goals skip; (try simp only [List.set_cons_succ, List.set_cons_zero])
  refine L_maybe ca2 (v := ?_) rfl (by cases ca2 <;> rfl) ?_ ?_
  rotate_left; (focus (intro hb; (try simp only [Bool.and_eq_true, Bool.not_eq_true'] at hb); have hb0 := hb; (try simp only [hb0, Bool.not_false, Bool.not_true, Bool.and_true, Bool.true_and, Bool.and_self, cond_true, cond_false]); first | (refine R_load1 (ty := 3) (x := Operand.tmp 7) rfl H 0 rfl rfl ?_ Tryz.isAgg3; rfl))); all_goals skip; (try simp only [List.set_cons_succ, List.set_cons_zero, List.getElem_toArray, List.getElem_cons_succ, List.getElem_cons_zero])
  refine L_maybeB ca2 (q := ?_) rfl (by cases ca2 <;> rfl) ?_ ?_
  rotate_left; (focus (intro hb; (try simp only [Bool.and_eq_true, Bool.not_eq_true'] at hb); have hb0 := hb; (try simp only [hb0, Bool.not_false, Bool.not_true, Bool.and_true, Bool.true_and, Bool.and_self, cond_true, cond_false]); first | (go_simp; done) | (go_simp; with_reducible rfl) | (go_simp; rfl))); all_goals skip; (try simp only [List.set_cons_succ, List.set_cons_zero])
  intro ca6 Hca6
  refine L_takeB (q := (ca2 && ca6)) rfl (by rfl) ?_ ?_
  (focus (cases ca2 <;> cases ca6 <;> (first | (go_simp; done) | (go_simp; with_reducible rfl) | (go_simp; rfl)))); all_goals skip; (try simp only [List.set_cons_succ, List.set_cons_zero])
  intro ca7 Hca7
  refine L_take (v := ?_) rfl (by rfl) ?_ ?_
  rotate_left; (focus (first | (go_simp; done) | (go_simp; with_reducible rfl) | (go_simp; rfl))); all_goals skip; (try simp only [List.set_cons_succ, List.set_cons_zero])
  refine L_maybe ca7 (v := ?_) rfl (by cases ca7 <;> rfl) ?_ ?_
  rotate_left; (focus (intro hb; (try simp only [Bool.and_eq_true, Bool.not_eq_true'] at hb); have hb0 := hb; (try simp only [hb0, Bool.not_false, Bool.not_true, Bool.and_true, Bool.true_and, Bool.and_self, cond_true, cond_false]); first | (go_simp; done) | (go_simp; with_reducible rfl) | (go_simp; rfl))); all_goals skip; (try simp only [List.set_cons_succ, List.set_cons_zero])
  refine L_maybe ca7 (v := ?_) rfl (by cases ca7 <;> rfl) ?_ ?_
  rotate_left; (focus (intro hb; (try simp only [Bool.and_eq_true, Bool.not_eq_true'] at hb); have hb0 := hb; (try simp only [hb0, Bool.not_false, Bool.not_true, Bool.and_true, Bool.true_and, Bool.and_self, cond_true, cond_false]); first | (refine R_load1 (ty := 3) (x := Operand.tmp 12) rfl H 0 rfl rfl ?_ Tryz.isAgg3; rfl))); all_goals skip; (try simp only [List.set_cons_succ, List.set_cons_zero, List.getElem_toArray, List.getElem_cons_succ, List.getElem_cons_zero])
  refine L_maybeB ca7 (q := ?_) rfl (by cases ca7 <;> rfl) ?_ ?_
  rotate_left; (focus (intro hb; (try simp only [Bool.and_eq_true, Bool.not_eq_true'] at hb); have hb0 := hb; (try simp only [hb0, Bool.not_false, Bool.not_true, Bool.and_true, Bool.true_and, Bool.and_self, cond_true, cond_false]); first | (go_simp; done) | (go_simp; with_reducible rfl) | (go_simp; rfl))); all_goals skip; (try simp only [List.set_cons_succ, List.set_cons_zero])
  intro ca11 Hca11
  refine L_takeB (q := (ca7 && ca11)) rfl (by rfl) ?_ ?_
  (focus (cases ca11 <;> cases ca7 <;> (first | (go_simp; done) | (go_simp; with_reducible rfl) | (go_simp; rfl)))); all_goals skip; (try simp only [List.set_cons_succ, List.set_cons_zero])
  intro ca12 Hca12
  refine L_take (v := ?_) rfl (by rfl) ?_ ?_
  rotate_left; (focus (first | (go_simp; done) | (go_simp; with_reducible rfl) | (go_simp; rfl))); all_goals skip; (try simp only [List.set_cons_succ, List.set_cons_zero])
  refine L_maybe ca12 (v := ?_) rfl (by cases ca12 <;> rfl) ?_ ?_
  rotate_left; (focus (intro hb; (try simp only [Bool.and_eq_true, Bool.not_eq_true'] at hb); have hb0 := hb; (try simp only [hb0, Bool.not_false, Bool.not_true, Bool.and_true, Bool.true_and, Bool.and_self, cond_true, cond_false]); first | (go_simp; done) | (go_simp; with_reducible rfl) | (go_simp; rfl))); all_goals skip; (try simp only [List.set_cons_succ, List.set_cons_zero])
  refine L_maybe ca12 (v := ?_) rfl (by cases ca12 <;> rfl) ?_ ?_
  rotate_left; (focus (intro hb; (try simp only [Bool.and_eq_true, Bool.not_eq_true'] at hb); have hb0 := hb; (try simp only [hb0, Bool.not_false, Bool.not_true, Bool.and_true, Bool.true_and, Bool.and_self, cond_true, cond_false]); first | (refine R_load1 (ty := 3) (x := Operand.tmp 17) rfl H 0 rfl rfl ?_ Tryz.isAgg3; rfl))); all_goals skip; (try simp only [List.set_cons_succ, List.set_cons_zero, List.getElem_toArray, List.getElem_cons_succ, List.getElem_cons_zero])
  refine L_maybeB ca12 (q := ?_) rfl (by cases ca12 <;> rfl) ?_ ?_
  rotate_left; (focus (intro hb; (try simp only [Bool.and_eq_true, Bool.not_eq_true'] at hb); have hb0 := hb; (try simp only [hb0, Bool.not_false, Bool.not_true, Bool.and_true, Bool.true_and, Bool.and_self, cond_true, cond_false]); first | (go_simp; done) | (go_simp; with_reducible rfl) | (go_simp; rfl))); all_goals skip; (try simp only [List.set_cons_succ, List.set_cons_zero])
  intro ca16 Hca16
  refine L_takeB (q := (ca12 && ca16)) rfl (by rfl) ?_ ?_
  (focus (cases ca12 <;> cases ca16 <;> (first | (go_simp; done) | (go_simp; with_reducible rfl) | (go_simp; rfl)))); all_goals skip; (try simp only [List.set_cons_succ, List.set_cons_zero])
  intro ca17 Hca17
  refine L_take (v := ?_) rfl (by rfl) ?_ ?_
  rotate_left; (focus (first | (go_simp; done) | (go_simp; with_reducible rfl) | (go_simp; rfl))); all_goals skip; (try simp only [List.set_cons_succ, List.set_cons_zero])
  refine L_maybe ca17 (v := ?_) rfl (by cases ca17 <;> rfl) ?_ ?_
  rotate_left; (focus (intro hb; (try simp only [Bool.and_eq_true, Bool.not_eq_true'] at hb); have hb0 := hb; (try simp only [hb0, Bool.not_false, Bool.not_true, Bool.and_true, Bool.true_and, Bool.and_self, cond_true, cond_false]); first | (go_simp; done) | (go_simp; with_reducible rfl) | (go_simp; rfl))); all_goals skip; (try simp only [List.set_cons_succ, List.set_cons_zero])
  refine L_maybe ca17 (v := ?_) rfl (by cases ca17 <;> rfl) ?_ ?_
  rotate_left; (focus (intro hb; (try simp only [Bool.and_eq_true, Bool.not_eq_true'] at hb); have hb0 := hb; (try simp only [hb0, Bool.not_false, Bool.not_true, Bool.and_true, Bool.true_and, Bool.and_self, cond_true, cond_false]); first | (refine R_load1 (ty := 3) (x := Operand.tmp 22) rfl H 0 rfl rfl ?_ Tryz.isAgg3; rfl))); all_goals skip; (try simp only [List.set_cons_succ, List.set_cons_zero, List.getElem_toArray, List.getElem_cons_succ, List.getElem_cons_zero])
  refine L_maybeB ca17 (q := ?_) rfl (by cases ca17 <;> rfl) ?_ ?_
  rotate_left; (focus (intro hb; (try simp only [Bool.and_eq_true, Bool.not_eq_true'] at hb); have hb0 := hb; (try simp only [hb0, Bool.not_false, Bool.not_true, Bool.and_true, Bool.true_and, Bool.and_self, cond_true, cond_false]); first | (go_simp; done) | (go_simp; with_reducible rfl) | (go_simp; rfl))); all_goals skip; (try simp only [List.set_cons_succ, List.set_cons_zero])
  intro ca21 Hca21
  refine L_takeB (q := (ca17 && ca21)) rfl (by rfl) ?_ ?_
  (focus (cases ca17 <;> cases ca21 <;> (first | (go_simp; done) | (go_simp; with_reducible rfl) | (go_simp; rfl)))); all_goals skip; (try simp only [List.set_cons_succ, List.set_cons_zero])
  intro ca22 Hca22
  refine L_take (v := ?_) rfl (by rfl) ?_ ?_
  rotate_left; (focus (first | (go_simp; done) | (go_simp; with_reducible rfl) | (go_simp; rfl))); all_goals skip; (try simp only [List.set_cons_succ, List.set_cons_zero])
  refine L_maybe ca22 (v := ?_) rfl (by cases ca22 <;> rfl) ?_ ?_
  rotate_left; (focus (intro hb; (try simp only [Bool.and_eq_true, Bool.not_eq_true'] at hb); have hb0 := hb; (try simp only [hb0, Bool.not_false, Bool.not_true, Bool.and_true, Bool.true_and, Bool.and_self, cond_true, cond_false]); first | (go_simp; done) | (go_simp; with_reducible rfl) | (go_simp; rfl))); all_goals skip; (try simp only [List.set_cons_succ, List.set_cons_zero])
  refine L_maybe ca22 (v := ?_) rfl (by cases ca22 <;> rfl) ?_ ?_
  rotate_left; (focus (intro hb; (try simp only [Bool.and_eq_true, Bool.not_eq_true'] at hb); have hb0 := hb; (try simp only [hb0, Bool.not_false, Bool.not_true, Bool.and_true, Bool.true_and, Bool.and_self, cond_true, cond_false]); first | (refine R_load1 (ty := 3) (x := Operand.tmp 27) rfl H 0 rfl rfl ?_ Tryz.isAgg3; rfl))); all_goals skip; (try simp only [List.set_cons_succ, List.set_cons_zero, List.getElem_toArray, List.getElem_cons_succ, List.getElem_cons_zero])
  refine L_maybeB ca22 (q := ?_) rfl (by cases ca22 <;> rfl) ?_ ?_
  rotate_left; (focus (intro hb; (try simp only [Bool.and_eq_true, Bool.not_eq_true'] at hb); have hb0 := hb; (try simp only [hb0, Bool.not_false, Bool.not_true, Bool.and_true, Bool.true_and, Bool.and_self, cond_true, cond_false]); first | (go_simp; done) | (go_simp; with_reducible rfl) | (go_simp; rfl))); all_goals skip; (try simp only [List.set_cons_succ, List.set_cons_zero])
  intro ca26 Hca26
  refine L_takeB (q := (ca22 && ca26)) rfl (by rfl) ?_ ?_
  (focus (cases ca22 <;> cases ca26 <;> (first | (go_simp; done) | (go_simp; with_reducible rfl) | (go_simp; rfl)))); all_goals skip; (try simp only [List.set_cons_succ, List.set_cons_zero])
  intro ca27 Hca27
  refine L_take (v := ?_) rfl (by rfl) ?_ ?_
  rotate_left; (focus (first | (go_simp; done) | (go_simp; with_reducible rfl) | (go_simp; rfl))); all_goals skip; (try simp only [List.set_cons_succ, List.set_cons_zero])
  refine L_maybe ca27 (v := ?_) rfl (by cases ca27 <;> rfl) ?_ ?_
  rotate_left; (focus (intro hb; (try simp only [Bool.and_eq_true, Bool.not_eq_true'] at hb); have hb0 := hb; (try simp only [hb0, Bool.not_false, Bool.not_true, Bool.and_true, Bool.true_and, Bool.and_self, cond_true, cond_false]); first | (go_simp; done) | (go_simp; with_reducible rfl) | (go_simp; rfl))); all_goals skip; (try simp only [List.set_cons_succ, List.set_cons_zero])
  refine L_maybe ca27 (v := ?_) rfl (by cases ca27 <;> rfl) ?_ ?_
  rotate_left; (focus (intro hb; (try simp only [Bool.and_eq_true, Bool.not_eq_true'] at hb); have hb0 := hb; (try simp only [hb0, Bool.not_false, Bool.not_true, Bool.and_true, Bool.true_and, Bool.and_self, cond_true, cond_false]); first | (refine R_load1 (ty := 3) (x := Operand.tmp 32) rfl H 0 rfl rfl ?_ Tryz.isAgg3; rfl))); all_goals skip; (try simp only [List.set_cons_succ, List.set_cons_zero, List.getElem_toArray, List.getElem_cons_succ, List.getElem_cons_zero])
  refine L_maybe ca27 (v := ?_) rfl (by cases ca27 <;> rfl) ?_ ?_
  rotate_left; (focus (intro hb; (try simp only [Bool.and_eq_true, Bool.not_eq_true'] at hb); have hb0 := hb; (try simp only [hb0, Bool.not_false, Bool.not_true, Bool.and_true, Bool.true_and, Bool.and_self, cond_true, cond_false]); first | (go_simp; done) | (go_simp; with_reducible rfl) | (go_simp; rfl))); all_goals skip; (try simp only [List.set_cons_succ, List.set_cons_zero])
  refine L_maybe ca27 (v := ?_) rfl (by cases ca27 <;> rfl) ?_ ?_
  rotate_left; (focus (intro hb; (try simp only [Bool.and_eq_true, Bool.not_eq_true'] at hb); have hb0 := hb; (try simp only [hb0, Bool.not_false, Bool.not_true, Bool.and_true, Bool.true_and, Bool.and_self, cond_true, cond_false]); first | (refine R_load1 (ty := 3) (x := Operand.tmp 34) rfl H 0 rfl rfl ?_ Tryz.isAgg3; rfl))); all_goals skip; (try simp only [List.set_cons_succ, List.set_cons_zero, List.getElem_toArray, List.getElem_cons_succ, List.getElem_cons_zero])
  refine L_maybe ca27 (v := ?_) rfl (by cases ca27 <;> rfl) ?_ ?_
  rotate_left; (focus (intro hb; (try simp only [Bool.and_eq_true, Bool.not_eq_true'] at hb); have hb0 := hb; (try simp only [hb0, Bool.not_false, Bool.not_true, Bool.and_true, Bool.true_and, Bool.and_self, cond_true, cond_false]); first | (go_simp; done) | (go_simp; with_reducible rfl) | (go_simp; rfl))); all_goals skip; (try simp only [List.set_cons_succ, List.set_cons_zero])
  refine L_maybeB ca27 (q := ?_) rfl (by cases ca27 <;> rfl) ?_ ?_
  rotate_left; (focus (intro hb; (try simp only [Bool.and_eq_true, Bool.not_eq_true'] at hb); have hb0 := hb; (try simp only [hb0, Bool.not_false, Bool.not_true, Bool.and_true, Bool.true_and, Bool.and_self, cond_true, cond_false]); first | (go_simp; done) | (go_simp; with_reducible rfl) | (go_simp; rfl))); all_goals skip; (try simp only [List.set_cons_succ, List.set_cons_zero])
  intro ca34 Hca34
  refine L_takeB (q := (ca27 && ca34)) rfl (by rfl) ?_ ?_
  (focus (cases ca27 <;> cases ca34 <;> (first | (go_simp; done) | (go_simp; with_reducible rfl) | (go_simp; rfl)))); all_goals skip; (try simp only [List.set_cons_succ, List.set_cons_zero])
  intro ca35 Hca35
  refine L_take (v := ?_) rfl (by rfl) ?_ ?_
  rotate_left; (focus (first | (go_simp; done) | (go_simp; with_reducible rfl) | (go_simp; rfl))); all_goals skip; (try simp only [List.set_cons_succ, List.set_cons_zero])
  refine L_maybe ca35 (v := ?_) rfl (by cases ca35 <;> rfl) ?_ ?_
  rotate_left; (focus (intro hb; (try simp only [Bool.and_eq_true, Bool.not_eq_true'] at hb); have hb0 := hb; (try simp only [hb0, Bool.not_false, Bool.not_true, Bool.and_true, Bool.true_and, Bool.and_self, cond_true, cond_false]); first | (go_simp; done) | (go_simp; with_reducible rfl) | (go_simp; rfl))); all_goals skip; (try simp only [List.set_cons_succ, List.set_cons_zero])
  refine L_maybe ca35 (v := ?_) rfl (by cases ca35 <;> rfl) ?_ ?_
  rotate_left; (focus (intro hb; (try simp only [Bool.and_eq_true, Bool.not_eq_true'] at hb); have hb0 := hb; (try simp only [hb0, Bool.not_false, Bool.not_true, Bool.and_true, Bool.true_and, Bool.and_self, cond_true, cond_false]); first | (refine R_load1 (ty := 3) (x := Operand.tmp 40) rfl H 0 rfl rfl ?_ Tryz.isAgg3; rfl))); all_goals skip; (try simp only [List.set_cons_succ, List.set_cons_zero, List.getElem_toArray, List.getElem_cons_succ, List.getElem_cons_zero])
  refine L_maybeB ca35 (q := ?_) rfl (by cases ca35 <;> rfl) ?_ ?_
  rotate_left; (focus (intro hb; (try simp only [Bool.and_eq_true, Bool.not_eq_true'] at hb); have hb0 := hb; (try simp only [hb0, Bool.not_false, Bool.not_true, Bool.and_true, Bool.true_and, Bool.and_self, cond_true, cond_false]); first | (go_simp; done) | (go_simp; with_reducible rfl) | (go_simp; rfl))); all_goals skip; (try simp only [List.set_cons_succ, List.set_cons_zero])
  intro ca39 Hca39
  refine L_takeB (q := (ca35 && ca39)) rfl (by rfl) ?_ ?_
  (focus (cases ca35 <;> cases ca39 <;> (first | (go_simp; done) | (go_simp; with_reducible rfl) | (go_simp; rfl)))); all_goals skip; (try simp only [List.set_cons_succ, List.set_cons_zero])
  intro ca40 Hca40
  refine L_take (v := ?_) rfl (by rfl) ?_ ?_
  rotate_left; (focus (first | (go_simp; done) | (go_simp; with_reducible rfl) | (go_simp; rfl))); all_goals skip; (try simp only [List.set_cons_succ, List.set_cons_zero])
  refine L_maybe ca40 (v := ?_) rfl (by cases ca40 <;> rfl) ?_ ?_
  rotate_left; (focus (intro hb; (try simp only [Bool.and_eq_true, Bool.not_eq_true'] at hb); have hb0 := hb; (try simp only [hb0, Bool.not_false, Bool.not_true, Bool.and_true, Bool.true_and, Bool.and_self, cond_true, cond_false]); first | (go_simp; done) | (go_simp; with_reducible rfl) | (go_simp; rfl))); all_goals skip; (try simp only [List.set_cons_succ, List.set_cons_zero])
  refine L_maybe ca40 (v := ?_) rfl (by cases ca40 <;> rfl) ?_ ?_
  rotate_left; (focus (intro hb; (try simp only [Bool.and_eq_true, Bool.not_eq_true'] at hb); have hb0 := hb; (try simp only [hb0, Bool.not_false, Bool.not_true, Bool.and_true, Bool.true_and, Bool.and_self, cond_true, cond_false]); first | (refine R_load1 (ty := 3) (x := Operand.tmp 45) rfl H 0 rfl rfl ?_ Tryz.isAgg3; rfl))); all_goals skip; (try simp only [List.set_cons_succ, List.set_cons_zero, List.getElem_toArray, List.getElem_cons_succ, List.getElem_cons_zero])
  refine L_maybe ca40 (v := ?_) rfl (by cases ca40 <;> rfl) ?_ ?_
  rotate_left; (focus (intro hb; (try simp only [Bool.and_eq_true, Bool.not_eq_true'] at hb); have hb0 := hb; (try simp only [hb0, Bool.not_false, Bool.not_true, Bool.and_true, Bool.true_and, Bool.and_self, cond_true, cond_false]); first | (go_simp; done) | (go_simp; with_reducible rfl) | (go_simp; rfl))); all_goals skip; (try simp only [List.set_cons_succ, List.set_cons_zero])
  refine L_maybe ca40 (v := ?_) rfl (by cases ca40 <;> rfl) ?_ ?_
  rotate_left; (focus (intro hb; (try simp only [Bool.and_eq_true, Bool.not_eq_true'] at hb); have hb0 := hb; (try simp only [hb0, Bool.not_false, Bool.not_true, Bool.and_true, Bool.true_and, Bool.and_self, cond_true, cond_false]); first | (refine R_load1 (ty := 3) (x := Operand.tmp 47) rfl H 0 rfl rfl ?_ Tryz.isAgg3; rfl))); all_goals skip; (try simp only [List.set_cons_succ, List.set_cons_zero, List.getElem_toArray, List.getElem_cons_succ, List.getElem_cons_zero])
  refine L_maybe ca40 (v := ?_) rfl (by cases ca40 <;> rfl) ?_ ?_
  rotate_left; (focus (intro hb; (try simp only [Bool.and_eq_true, Bool.not_eq_true'] at hb); have hb0 := hb; (try simp only [hb0, Bool.not_false, Bool.not_true, Bool.and_true, Bool.true_and, Bool.and_self, cond_true, cond_false]); first | (go_simp; done) | (go_simp; with_reducible rfl) | (go_simp; rfl))); all_goals skip; (try simp only [List.set_cons_succ, List.set_cons_zero])
  refine L_maybeB ca40 (q := ?_) rfl (by cases ca40 <;> rfl) ?_ ?_
  rotate_left; (focus (intro hb; (try simp only [Bool.and_eq_true, Bool.not_eq_true'] at hb); have hb0 := hb; (try simp only [hb0, Bool.not_false, Bool.not_true, Bool.and_true, Bool.true_and, Bool.and_self, cond_true, cond_false]); first | (go_simp; done) | (go_simp; with_reducible rfl) | (go_simp; rfl))); all_goals skip; (try simp only [List.set_cons_succ, List.set_cons_zero])
  intro ca47 Hca47
  refine L_takeB (q := (ca40 && ca47)) rfl (by rfl) ?_ ?_
  (focus (cases ca40 <;> cases ca47 <;> (first | (go_simp; done) | (go_simp; with_reducible rfl) | (go_simp; rfl)))); all_goals skip; (try simp only [List.set_cons_succ, List.set_cons_zero])
  intro ca48 Hca48
  refine L_take (v := ?_) rfl (by rfl) ?_ ?_
  rotate_left; (focus (first | (go_simp; done) | (go_simp; with_reducible rfl) | (go_simp; rfl))); all_goals skip; (try simp only [List.set_cons_succ, List.set_cons_zero])
  have hfin := Hca48.out
  simp only [Hca7.out, Hca12.out, Hca17.out, Hca22.out, Hca27.out, Hca35.out, Hca40.out, Hca2.out, Hca6.out, Hca11.out, Hca16.out, Hca21.out, Hca26.out, Hca34.out, Hca39.out, Hca47.out] at hfin
  replace hfin := Lib.hid hfin
  clear Hca7 Hca12 Hca17 Hca22 Hca27 Hca35 Hca40 Hca48 Hca2 Hca6 Hca11 Hca16 Hca21 Hca26 Hca34 Hca39 Hca47
  have hq : ca48 = res := by
    rw [hfin.out, ← HRES.out, IntKind.wrap_i64, Bool.eq_iff_iff]
    cases gp
    · simp
    · simp only [Bool.true_and, Bool.and_eq_true, decide_eq_true_eq]
      omega
  subst hq
  clear hfin
  go_wp2_with fail
  go_ret
  exact ⟨rfl, H.ext⟩
set_option maxRecDepth 100000 in
set_option maxHeartbeats 2000000 in
theorem refAlone_any (x : Ent) (w0 : World) (hp : x.path.size < 4294967281) (hn : x.Num) : Calls Tryz.prog 32 #[entV x] w0 fun e w' => e = .returned (.bool (aloneP x)) ∧ Ext0 w0 w' := by
  have H : SH (fun _ => False) w0 w0 [] := SH.nil _ _
  obtain ⟨p, mode, time, block, at_, size⟩ := x
  have hg := fun {W : World} => Pth.refGood_any p W hp
  obtain ⟨res, hres⟩ : ∃ q, aloneP ⟨p, mode, time, block, at_, size⟩ = q := ⟨_, rfl⟩
  rw [hres]
  unfold aloneP at hres
  simp only at hg hres
  generalize Pth.goodL (Pth.lst p) = gp at hg hres
  have HRES := Lib.hid hres
  have HN := Lib.hid hn
  clear hres hn
  simp only [entV]
  go_enter Tryz.func32, Tryz.ntmps32
  go_upto_region 1 with (first | (refine L_box rfl rfl H rfl rfl ?_; clear H; intro g w H; (try simp only [Act.eval, Array.getD_eq_getD_getElem?, List.getElem?_toArray, List.getElem?_cons_succ, List.getElem?_cons_zero, Option.getD_some, Value.cells] at H); (try simp only [Act.put, List.setIfInBounds_toArray, List.set_cons_succ, List.set_cons_zero, List.getElem_toArray, List.getElem_cons_succ, List.getElem_cons_zero])))
  go_step
  refine L_take (v := ?_) rfl (by rfl) ?_ ?_
  rotate_left; (focus (first | (go_simp; done) | (go_simp; with_reducible rfl) | (go_simp; rfl))); all_goals skip; (try simp only [List.set_cons_succ, List.set_cons_zero])
  refine L_take (v := ?_) rfl (by rfl) ?_ ?_
  rotate_left; (focus (first | (refine R_load1 (ty := 9) (x := Operand.tmp 3) rfl H 0 rfl rfl ?_ Tryz.isAgg9; rfl))); all_goals skip; (try simp only [List.set_cons_succ, List.set_cons_zero, List.getElem_toArray, List.getElem_cons_succ, List.getElem_cons_zero])
  refine L_callB true gp rfl (by rfl) H ?_ ?_
  (focus (intro hb K hK; refine R_call (f := 55) (args := #[.string p]) (by first | (go_simp; done) | (go_simp; rfl)) hg ?_; rintro e w' ⟨rfl, hE⟩; exact ⟨_, rfl, hK _ hE⟩))
  clear H; intro ca2 w Hca2 H
  (try simp only [List.set_cons_succ, List.set_cons_zero])
  refine L_take (v := ?_) rfl (by rfl) ?_ ?_
  rotate_left; (focus (first | (go_simp; done) | (go_simp; with_reducible rfl) | (go_simp; rfl))); all_goals skip; (try simp only [List.set_cons_succ, List.set_cons_zero])
  refine L_maybe ca2 (v := ?_) rfl (by cases ca2 <;> rfl) ?_ ?_
  rotate_left; (focus (intro hb; (try simp only [Bool.and_eq_true, Bool.not_eq_true'] at hb); have hb0 := hb; (try simp only [hb0, Bool.not_false, Bool.not_true, Bool.and_true, Bool.true_and, Bool.and_self, cond_true, cond_false]); first | (go_simp; done) | (go_simp; with_reducible rfl) | (go_simp; rfl))); all_goals skip; (try simp only [List.set_cons_succ, List.set_cons_zero])
  refine L_maybe ca2 (v := ?_) rfl (by cases ca2 <;> rfl) ?_ ?_
  rotate_left; (focus (intro hb; (try simp only [Bool.and_eq_true, Bool.not_eq_true'] at hb); have hb0 := hb; (try simp only [hb0, Bool.not_false, Bool.not_true, Bool.and_true, Bool.true_and, Bool.and_self, cond_true, cond_false]); first | (refine R_load1 (ty := 3) (x := Operand.tmp 7) rfl H 0 rfl rfl ?_ Tryz.isAgg3; rfl))); all_goals skip; (try simp only [List.set_cons_succ, List.set_cons_zero, List.getElem_toArray, List.getElem_cons_succ, List.getElem_cons_zero])
  refine L_maybeB ca2 (q := ?_) rfl (by cases ca2 <;> rfl) ?_ ?_
  rotate_left; (focus (intro hb; (try simp only [Bool.and_eq_true, Bool.not_eq_true'] at hb); have hb0 := hb; (try simp only [hb0, Bool.not_false, Bool.not_true, Bool.and_true, Bool.true_and, Bool.and_self, cond_true, cond_false]); first | (go_simp; done) | (go_simp; with_reducible rfl) | (go_simp; rfl))); all_goals skip; (try simp only [List.set_cons_succ, List.set_cons_zero])
  intro ca6 Hca6
  refine L_takeB (q := (ca2 && ca6)) rfl (by rfl) ?_ ?_
  (focus (cases ca2 <;> cases ca6 <;> (first | (go_simp; done) | (go_simp; with_reducible rfl) | (go_simp; rfl)))); all_goals skip; (try simp only [List.set_cons_succ, List.set_cons_zero])
  intro ca7 Hca7
  refine L_take (v := ?_) rfl (by rfl) ?_ ?_
  rotate_left; (focus (first | (go_simp; done) | (go_simp; with_reducible rfl) | (go_simp; rfl))); all_goals skip; (try simp only [List.set_cons_succ, List.set_cons_zero])
  refine L_maybe ca7 (v := ?_) rfl (by cases ca7 <;> rfl) ?_ ?_
  rotate_left; (focus (intro hb; (try simp only [Bool.and_eq_true, Bool.not_eq_true'] at hb); have hb0 := hb; (try simp only [hb0, Bool.not_false, Bool.not_true, Bool.and_true, Bool.true_and, Bool.and_self, cond_true, cond_false]); first | (go_simp; done) | (go_simp; with_reducible rfl) | (go_simp; rfl))); all_goals skip; (try simp only [List.set_cons_succ, List.set_cons_zero])
  refine L_maybe ca7 (v := ?_) rfl (by cases ca7 <;> rfl) ?_ ?_
  rotate_left; (focus (intro hb; (try simp only [Bool.and_eq_true, Bool.not_eq_true'] at hb); have hb0 := hb; (try simp only [hb0, Bool.not_false, Bool.not_true, Bool.and_true, Bool.true_and, Bool.and_self, cond_true, cond_false]); first | (refine R_load1 (ty := 3) (x := Operand.tmp 12) rfl H 0 rfl rfl ?_ Tryz.isAgg3; rfl))); all_goals skip; (try simp only [List.set_cons_succ, List.set_cons_zero, List.getElem_toArray, List.getElem_cons_succ, List.getElem_cons_zero])
  refine L_maybeB ca7 (q := ?_) rfl (by cases ca7 <;> rfl) ?_ ?_
  rotate_left; (focus (intro hb; (try simp only [Bool.and_eq_true, Bool.not_eq_true'] at hb); have hb0 := hb; (try simp only [hb0, Bool.not_false, Bool.not_true, Bool.and_true, Bool.true_and, Bool.and_self, cond_true, cond_false]); first | (go_simp; done) | (go_simp; with_reducible rfl) | (go_simp; rfl))); all_goals skip; (try simp only [List.set_cons_succ, List.set_cons_zero])
  intro ca11 Hca11
  refine L_takeB (q := (ca7 && ca11)) rfl (by rfl) ?_ ?_
  (focus (cases ca11 <;> cases ca7 <;> (first | (go_simp; done) | (go_simp; with_reducible rfl) | (go_simp; rfl)))); all_goals skip; (try simp only [List.set_cons_succ, List.set_cons_zero])
  intro ca12 Hca12
  refine L_take (v := ?_) rfl (by rfl) ?_ ?_
  rotate_left; (focus (first | (go_simp; done) | (go_simp; with_reducible rfl) | (go_simp; rfl))); all_goals skip; (try simp only [List.set_cons_succ, List.set_cons_zero])
  refine L_maybe ca12 (v := ?_) rfl (by cases ca12 <;> rfl) ?_ ?_
  rotate_left; (focus (intro hb; (try simp only [Bool.and_eq_true, Bool.not_eq_true'] at hb); have hb0 := hb; (try simp only [hb0, Bool.not_false, Bool.not_true, Bool.and_true, Bool.true_and, Bool.and_self, cond_true, cond_false]); first | (go_simp; done) | (go_simp; with_reducible rfl) | (go_simp; rfl))); all_goals skip; (try simp only [List.set_cons_succ, List.set_cons_zero])
  refine L_maybe ca12 (v := ?_) rfl (by cases ca12 <;> rfl) ?_ ?_
  rotate_left; (focus (intro hb; (try simp only [Bool.and_eq_true, Bool.not_eq_true'] at hb); have hb0 := hb; (try simp only [hb0, Bool.not_false, Bool.not_true, Bool.and_true, Bool.true_and, Bool.and_self, cond_true, cond_false]); first | (refine R_load1 (ty := 3) (x := Operand.tmp 17) rfl H 0 rfl rfl ?_ Tryz.isAgg3; rfl))); all_goals skip; (try simp only [List.set_cons_succ, List.set_cons_zero, List.getElem_toArray, List.getElem_cons_succ, List.getElem_cons_zero])
  refine L_maybeB ca12 (q := ?_) rfl (by cases ca12 <;> rfl) ?_ ?_
  rotate_left; (focus (intro hb; (try simp only [Bool.and_eq_true, Bool.not_eq_true'] at hb); have hb0 := hb; (try simp only [hb0, Bool.not_false, Bool.not_true, Bool.and_true, Bool.true_and, Bool.and_self, cond_true, cond_false]); first | (go_simp; done) | (go_simp; with_reducible rfl) | (go_simp; rfl))); all_goals skip; (try simp only [List.set_cons_succ, List.set_cons_zero])
  intro ca16 Hca16
  refine L_takeB (q := (ca12 && ca16)) rfl (by rfl) ?_ ?_
  (focus (cases ca12 <;> cases ca16 <;> (first | (go_simp; done) | (go_simp; with_reducible rfl) | (go_simp; rfl)))); all_goals skip; (try simp only [List.set_cons_succ, List.set_cons_zero])
  intro ca17 Hca17
  refine L_take (v := ?_) rfl (by rfl) ?_ ?_
  rotate_left; (focus (first | (go_simp; done) | (go_simp; with_reducible rfl) | (go_simp; rfl))); all_goals skip; (try simp only [List.set_cons_succ, List.set_cons_zero])
  refine L_maybe ca17 (v := ?_) rfl (by cases ca17 <;> rfl) ?_ ?_
  rotate_left; (focus (intro hb; (try simp only [Bool.and_eq_true, Bool.not_eq_true'] at hb); have hb0 := hb; (try simp only [hb0, Bool.not_false, Bool.not_true, Bool.and_true, Bool.true_and, Bool.and_self, cond_true, cond_false]); first | (go_simp; done) | (go_simp; with_reducible rfl) | (go_simp; rfl))); all_goals skip; (try simp only [List.set_cons_succ, List.set_cons_zero])
  refine L_maybe ca17 (v := ?_) rfl (by cases ca17 <;> rfl) ?_ ?_
  rotate_left; (focus (intro hb; (try simp only [Bool.and_eq_true, Bool.not_eq_true'] at hb); have hb0 := hb; (try simp only [hb0, Bool.not_false, Bool.not_true, Bool.and_true, Bool.true_and, Bool.and_self, cond_true, cond_false]); first | (refine R_load1 (ty := 3) (x := Operand.tmp 22) rfl H 0 rfl rfl ?_ Tryz.isAgg3; rfl))); all_goals skip; (try simp only [List.set_cons_succ, List.set_cons_zero, List.getElem_toArray, List.getElem_cons_succ, List.getElem_cons_zero])
  refine L_maybeB ca17 (q := ?_) rfl (by cases ca17 <;> rfl) ?_ ?_
  rotate_left; (focus (intro hb; (try simp only [Bool.and_eq_true, Bool.not_eq_true'] at hb); have hb0 := hb; (try simp only [hb0, Bool.not_false, Bool.not_true, Bool.and_true, Bool.true_and, Bool.and_self, cond_true, cond_false]); first | (go_simp; done) | (go_simp; with_reducible rfl) | (go_simp; rfl))); all_goals skip; (try simp only [List.set_cons_succ, List.set_cons_zero])
  intro ca21 Hca21
  refine L_takeB (q := (ca17 && ca21)) rfl (by rfl) ?_ ?_
  (focus (cases ca17 <;> cases ca21 <;> (first | (go_simp; done) | (go_simp; with_reducible rfl) | (go_simp; rfl)))); all_goals skip; (try simp only [List.set_cons_succ, List.set_cons_zero])
  intro ca22 Hca22
  refine L_take (v := ?_) rfl (by rfl) ?_ ?_
  rotate_left; (focus (first | (go_simp; done) | (go_simp; with_reducible rfl) | (go_simp; rfl))); all_goals skip; (try simp only [List.set_cons_succ, List.set_cons_zero])
  refine L_maybe ca22 (v := ?_) rfl (by cases ca22 <;> rfl) ?_ ?_
  rotate_left; (focus (intro hb; (try simp only [Bool.and_eq_true, Bool.not_eq_true'] at hb); have hb0 := hb; (try simp only [hb0, Bool.not_false, Bool.not_true, Bool.and_true, Bool.true_and, Bool.and_self, cond_true, cond_false]); first | (go_simp; done) | (go_simp; with_reducible rfl) | (go_simp; rfl))); all_goals skip; (try simp only [List.set_cons_succ, List.set_cons_zero])
  refine L_maybe ca22 (v := ?_) rfl (by cases ca22 <;> rfl) ?_ ?_
  rotate_left; (focus (intro hb; (try simp only [Bool.and_eq_true, Bool.not_eq_true'] at hb); have hb0 := hb; (try simp only [hb0, Bool.not_false, Bool.not_true, Bool.and_true, Bool.true_and, Bool.and_self, cond_true, cond_false]); first | (refine R_load1 (ty := 3) (x := Operand.tmp 27) rfl H 0 rfl rfl ?_ Tryz.isAgg3; rfl))); all_goals skip; (try simp only [List.set_cons_succ, List.set_cons_zero, List.getElem_toArray, List.getElem_cons_succ, List.getElem_cons_zero])
  refine L_maybeB ca22 (q := ?_) rfl (by cases ca22 <;> rfl) ?_ ?_
  rotate_left; (focus (intro hb; (try simp only [Bool.and_eq_true, Bool.not_eq_true'] at hb); have hb0 := hb; (try simp only [hb0, Bool.not_false, Bool.not_true, Bool.and_true, Bool.true_and, Bool.and_self, cond_true, cond_false]); first | (go_simp; done) | (go_simp; with_reducible rfl) | (go_simp; rfl))); all_goals skip; (try simp only [List.set_cons_succ, List.set_cons_zero])
  intro ca26 Hca26
  refine L_takeB (q := (ca22 && ca26)) rfl (by rfl) ?_ ?_
  (focus (cases ca22 <;> cases ca26 <;> (first | (go_simp; done) | (go_simp; with_reducible rfl) | (go_simp; rfl)))); all_goals skip; (try simp only [List.set_cons_succ, List.set_cons_zero])
  intro ca27 Hca27
  refine L_take (v := ?_) rfl (by rfl) ?_ ?_
  rotate_left; (focus (first | (go_simp; done) | (go_simp; with_reducible rfl) | (go_simp; rfl))); all_goals skip; (try simp only [List.set_cons_succ, List.set_cons_zero])
  refine L_maybe ca27 (v := ?_) rfl (by cases ca27 <;> rfl) ?_ ?_
  rotate_left; (focus (intro hb; (try simp only [Bool.and_eq_true, Bool.not_eq_true'] at hb); have hb0 := hb; (try simp only [hb0, Bool.not_false, Bool.not_true, Bool.and_true, Bool.true_and, Bool.and_self, cond_true, cond_false]); first | (go_simp; done) | (go_simp; with_reducible rfl) | (go_simp; rfl))); all_goals skip; (try simp only [List.set_cons_succ, List.set_cons_zero])
  refine L_maybe ca27 (v := ?_) rfl (by cases ca27 <;> rfl) ?_ ?_
  rotate_left; (focus (intro hb; (try simp only [Bool.and_eq_true, Bool.not_eq_true'] at hb); have hb0 := hb; (try simp only [hb0, Bool.not_false, Bool.not_true, Bool.and_true, Bool.true_and, Bool.and_self, cond_true, cond_false]); first | (refine R_load1 (ty := 3) (x := Operand.tmp 32) rfl H 0 rfl rfl ?_ Tryz.isAgg3; rfl))); all_goals skip; (try simp only [List.set_cons_succ, List.set_cons_zero, List.getElem_toArray, List.getElem_cons_succ, List.getElem_cons_zero])
  refine L_maybeB ca27 (q := ?_) rfl (by cases ca27 <;> rfl) ?_ ?_
  rotate_left; (focus (intro hb; (try simp only [Bool.and_eq_true, Bool.not_eq_true'] at hb); have hb0 := hb; (try simp only [hb0, Bool.not_false, Bool.not_true, Bool.and_true, Bool.true_and, Bool.and_self, cond_true, cond_false]); first | (go_simp; done) | (go_simp; with_reducible rfl) | (go_simp; rfl))); all_goals skip; (try simp only [List.set_cons_succ, List.set_cons_zero])
  intro ca31 Hca31
  refine L_takeB (q := (ca27 && ca31)) rfl (by rfl) ?_ ?_
  (focus (cases ca27 <;> cases ca31 <;> (first | (go_simp; done) | (go_simp; with_reducible rfl) | (go_simp; rfl)))); all_goals skip; (try simp only [List.set_cons_succ, List.set_cons_zero])
  intro ca32 Hca32
  refine L_take (v := ?_) rfl (by rfl) ?_ ?_
  rotate_left; (focus (first | (go_simp; done) | (go_simp; with_reducible rfl) | (go_simp; rfl))); all_goals skip; (try simp only [List.set_cons_succ, List.set_cons_zero])
  refine L_maybe ca32 (v := ?_) rfl (by cases ca32 <;> rfl) ?_ ?_
  rotate_left; (focus (intro hb; (try simp only [Bool.and_eq_true, Bool.not_eq_true'] at hb); have hb0 := hb; (try simp only [hb0, Bool.not_false, Bool.not_true, Bool.and_true, Bool.true_and, Bool.and_self, cond_true, cond_false]); first | (go_simp; done) | (go_simp; with_reducible rfl) | (go_simp; rfl))); all_goals skip; (try simp only [List.set_cons_succ, List.set_cons_zero])
  refine L_maybe ca32 (v := ?_) rfl (by cases ca32 <;> rfl) ?_ ?_
  rotate_left; (focus (intro hb; (try simp only [Bool.and_eq_true, Bool.not_eq_true'] at hb); have hb0 := hb; (try simp only [hb0, Bool.not_false, Bool.not_true, Bool.and_true, Bool.true_and, Bool.and_self, cond_true, cond_false]); first | (refine R_load1 (ty := 3) (x := Operand.tmp 37) rfl H 0 rfl rfl ?_ Tryz.isAgg3; rfl))); all_goals skip; (try simp only [List.set_cons_succ, List.set_cons_zero, List.getElem_toArray, List.getElem_cons_succ, List.getElem_cons_zero])
  refine L_maybeB ca32 (q := ?_) rfl (by cases ca32 <;> rfl) ?_ ?_
  rotate_left; (focus (intro hb; (try simp only [Bool.and_eq_true, Bool.not_eq_true'] at hb); have hb0 := hb; (try simp only [hb0, Bool.not_false, Bool.not_true, Bool.and_true, Bool.true_and, Bool.and_self, cond_true, cond_false]); first | (go_simp; done) | (go_simp; with_reducible rfl) | (go_simp; rfl))); all_goals skip; (try simp only [List.set_cons_succ, List.set_cons_zero])
  intro ca36 Hca36
  refine L_takeB (q := (ca32 && ca36)) rfl (by rfl) ?_ ?_
  (focus (cases ca32 <;> cases ca36 <;> (first | (go_simp; done) | (go_simp; with_reducible rfl) | (go_simp; rfl)))); all_goals skip; (try simp only [List.set_cons_succ, List.set_cons_zero])
  intro ca37 Hca37
  refine L_take (v := ?_) rfl (by rfl) ?_ ?_
  rotate_left; (focus (first | (go_simp; done) | (go_simp; with_reducible rfl) | (go_simp; rfl))); all_goals skip; (try simp only [List.set_cons_succ, List.set_cons_zero])
  refine L_maybe ca37 (v := ?_) rfl (by cases ca37 <;> rfl) ?_ ?_
  rotate_left; (focus (intro hb; (try simp only [Bool.and_eq_true, Bool.not_eq_true'] at hb); have hb0 := hb; (try simp only [hb0, Bool.not_false, Bool.not_true, Bool.and_true, Bool.true_and, Bool.and_self, cond_true, cond_false]); first | (go_simp; done) | (go_simp; with_reducible rfl) | (go_simp; rfl))); all_goals skip; (try simp only [List.set_cons_succ, List.set_cons_zero])
  refine L_maybe ca37 (v := ?_) rfl (by cases ca37 <;> rfl) ?_ ?_
  rotate_left; (focus (intro hb; (try simp only [Bool.and_eq_true, Bool.not_eq_true'] at hb); have hb0 := hb; (try simp only [hb0, Bool.not_false, Bool.not_true, Bool.and_true, Bool.true_and, Bool.and_self, cond_true, cond_false]); first | (refine R_load1 (ty := 3) (x := Operand.tmp 42) rfl H 0 rfl rfl ?_ Tryz.isAgg3; rfl))); all_goals skip; (try simp only [List.set_cons_succ, List.set_cons_zero, List.getElem_toArray, List.getElem_cons_succ, List.getElem_cons_zero])
  refine L_maybeB ca37 (q := ?_) rfl (by cases ca37 <;> rfl) ?_ ?_
  rotate_left; (focus (intro hb; (try simp only [Bool.and_eq_true, Bool.not_eq_true'] at hb); have hb0 := hb; (try simp only [hb0, Bool.not_false, Bool.not_true, Bool.and_true, Bool.true_and, Bool.and_self, cond_true, cond_false]); first | (go_simp; done) | (go_simp; with_reducible rfl) | (go_simp; rfl))); all_goals skip; (try simp only [List.set_cons_succ, List.set_cons_zero])
  intro ca41 Hca41
  refine L_takeB (q := (ca37 && ca41)) rfl (by rfl) ?_ ?_
  (focus (cases ca37 <;> cases ca41 <;> (first | (go_simp; done) | (go_simp; with_reducible rfl) | (go_simp; rfl)))); all_goals skip; (try simp only [List.set_cons_succ, List.set_cons_zero])
  intro ca42 Hca42
  refine L_take (v := ?_) rfl (by rfl) ?_ ?_
  rotate_left; (focus (first | (go_simp; done) | (go_simp; with_reducible rfl) | (go_simp; rfl))); all_goals skip; (try simp only [List.set_cons_succ, List.set_cons_zero])
  refine L_maybe ca42 (v := ?_) rfl (by cases ca42 <;> rfl) ?_ ?_
  rotate_left; (focus (intro hb; (try simp only [Bool.and_eq_true, Bool.not_eq_true'] at hb); have hb0 := hb; (try simp only [hb0, Bool.not_false, Bool.not_true, Bool.and_true, Bool.true_and, Bool.and_self, cond_true, cond_false]); first | (go_simp; done) | (go_simp; with_reducible rfl) | (go_simp; rfl))); all_goals skip; (try simp only [List.set_cons_succ, List.set_cons_zero])
  refine L_maybe ca42 (v := ?_) rfl (by cases ca42 <;> rfl) ?_ ?_
  rotate_left; (focus (intro hb; (try simp only [Bool.and_eq_true, Bool.not_eq_true'] at hb); have hb0 := hb; (try simp only [hb0, Bool.not_false, Bool.not_true, Bool.and_true, Bool.true_and, Bool.and_self, cond_true, cond_false]); first | (refine R_load1 (ty := 3) (x := Operand.tmp 47) rfl H 0 rfl rfl ?_ Tryz.isAgg3; rfl))); all_goals skip; (try simp only [List.set_cons_succ, List.set_cons_zero, List.getElem_toArray, List.getElem_cons_succ, List.getElem_cons_zero])
  refine L_maybeB ca42 (q := ?_) rfl (by cases ca42 <;> rfl) ?_ ?_
  rotate_left; (focus (intro hb; (try simp only [Bool.and_eq_true, Bool.not_eq_true'] at hb); have hb0 := hb; (try simp only [hb0, Bool.not_false, Bool.not_true, Bool.and_true, Bool.true_and, Bool.and_self, cond_true, cond_false]); first | (go_simp; done) | (go_simp; with_reducible rfl) | (go_simp; rfl))); all_goals skip; (try simp only [List.set_cons_succ, List.set_cons_zero])
  intro ca46 Hca46
  refine L_takeB (q := (ca42 && ca46)) rfl (by rfl) ?_ ?_
  (focus (cases ca42 <;> cases ca46 <;> (first | (go_simp; done) | (go_simp; with_reducible rfl) | (go_simp; rfl)))); all_goals skip; (try simp only [List.set_cons_succ, List.set_cons_zero])
  intro ca47 Hca47
  refine L_take (v := ?_) rfl (by rfl) ?_ ?_
  rotate_left; (focus (first | (go_simp; done) | (go_simp; with_reducible rfl) | (go_simp; rfl))); all_goals skip; (try simp only [List.set_cons_succ, List.set_cons_zero])
  refine L_maybe ca47 (v := ?_) rfl (by cases ca47 <;> rfl) ?_ ?_
  rotate_left; (focus (intro hb; (try simp only [Bool.and_eq_true, Bool.not_eq_true'] at hb); have hb0 := hb; (try simp only [hb0, Bool.not_false, Bool.not_true, Bool.and_true, Bool.true_and, Bool.and_self, cond_true, cond_false]); first | (go_simp; done) | (go_simp; with_reducible rfl) | (go_simp; rfl))); all_goals skip; (try simp only [List.set_cons_succ, List.set_cons_zero])
  refine L_maybe ca47 (v := ?_) rfl (by cases ca47 <;> rfl) ?_ ?_
  rotate_left; (focus (intro hb; (try simp only [Bool.and_eq_true, Bool.not_eq_true'] at hb); have hb0 := hb; (try simp only [hb0, Bool.not_false, Bool.not_true, Bool.and_true, Bool.true_and, Bool.and_self, cond_true, cond_false]); first | (refine R_load1 (ty := 3) (x := Operand.tmp 52) rfl H 0 rfl rfl ?_ Tryz.isAgg3; rfl))); all_goals skip; (try simp only [List.set_cons_succ, List.set_cons_zero, List.getElem_toArray, List.getElem_cons_succ, List.getElem_cons_zero])
  refine L_maybe ca47 (v := ?_) rfl (by cases ca47 <;> rfl) ?_ ?_
  rotate_left; (focus (intro hb; (try simp only [Bool.and_eq_true, Bool.not_eq_true'] at hb); have hb0 := hb; (try simp only [hb0, Bool.not_false, Bool.not_true, Bool.and_true, Bool.true_and, Bool.and_self, cond_true, cond_false]); first | (go_simp; done) | (go_simp; with_reducible rfl) | (go_simp; rfl))); all_goals skip; (try simp only [List.set_cons_succ, List.set_cons_zero])
  refine L_maybe ca47 (v := ?_) rfl (by cases ca47 <;> rfl) ?_ ?_
  rotate_left; (focus (intro hb; (try simp only [Bool.and_eq_true, Bool.not_eq_true'] at hb); have hb0 := hb; (try simp only [hb0, Bool.not_false, Bool.not_true, Bool.and_true, Bool.true_and, Bool.and_self, cond_true, cond_false]); first | (refine R_load1 (ty := 3) (x := Operand.tmp 54) rfl H 0 rfl rfl ?_ Tryz.isAgg3; rfl))); all_goals skip; (try simp only [List.set_cons_succ, List.set_cons_zero, List.getElem_toArray, List.getElem_cons_succ, List.getElem_cons_zero])
  refine L_maybe ca47 (v := ?_) rfl (by cases ca47 <;> rfl) ?_ ?_
  rotate_left; (focus (intro hb; (try simp only [Bool.and_eq_true, Bool.not_eq_true'] at hb); have hb0 := hb; (try simp only [hb0, Bool.not_false, Bool.not_true, Bool.and_true, Bool.true_and, Bool.and_self, cond_true, cond_false]); first | (go_simp; done) | (go_simp; with_reducible rfl) | (go_simp; rfl))); all_goals skip; (try simp only [List.set_cons_succ, List.set_cons_zero])
  refine L_maybeB ca47 (q := ?_) rfl (by cases ca47 <;> rfl) ?_ ?_
  rotate_left; (focus (intro hb; (try simp only [Bool.and_eq_true, Bool.not_eq_true'] at hb); have hb0 := hb; (try simp only [hb0, Bool.not_false, Bool.not_true, Bool.and_true, Bool.true_and, Bool.and_self, cond_true, cond_false]); first | (go_simp; done) | (go_simp; with_reducible rfl) | (go_simp; rfl))); all_goals skip; (try simp only [List.set_cons_succ, List.set_cons_zero])
  intro ca54 Hca54
  refine L_takeB (q := (ca47 && ca54)) rfl (by rfl) ?_ ?_
  (focus (cases ca47 <;> cases ca54 <;> (first | (go_simp; done) | (go_simp; with_reducible rfl) | (go_simp; rfl)))); all_goals skip; (try simp only [List.set_cons_succ, List.set_cons_zero])
  intro ca55 Hca55
  refine L_take (v := ?_) rfl (by rfl) ?_ ?_
  rotate_left; (focus (first | (go_simp; done) | (go_simp; with_reducible rfl) | (go_simp; rfl))); all_goals skip; (try simp only [List.set_cons_succ, List.set_cons_zero])
  have hfin := Hca55.out
  simp only [Hca7.out, Hca12.out, Hca17.out, Hca22.out, Hca27.out, Hca32.out, Hca37.out, Hca42.out, Hca47.out, Hca2.out, Hca6.out, Hca11.out, Hca16.out, Hca21.out, Hca26.out, Hca31.out, Hca36.out, Hca41.out, Hca46.out, Hca54.out] at hfin
  replace hfin := Lib.hid hfin
  clear Hca7 Hca12 Hca17 Hca22 Hca27 Hca32 Hca37 Hca42 Hca47 Hca55 Hca2 Hca6 Hca11 Hca16 Hca21 Hca26 Hca31 Hca36 Hca41 Hca46 Hca54
  have hq : ca55 = res := by
    rw [hfin.out, ← HRES.out, IntKind.wrap_i64, Bool.eq_iff_iff]
    cases gp
    · simp
    · simp only [Bool.true_and, Bool.and_eq_true, decide_eq_true_eq]
      omega
  subst hq
  clear hfin
  go_wp2_with fail
  go_ret
  exact ⟨rfl, H.ext⟩
/-- Have two files a byte in common? -/
def commonP (a b : Ent) : Bool := decide (a.block = b.block ∧ 0 < a.size ∧ 0 < b.size ∧ a.at_ < b.at_ + b.size ∧ b.at_ < a.at_ + a.size)
set_option maxRecDepth 100000 in
set_option maxHeartbeats 2000000 in
theorem refCommon_any (x y : Ent) (w0 : World) (hx : aloneP x = true) (hy : aloneP y = true) : Calls Tryz.prog 34 #[entV x, entV y] w0 fun e w' => e = .returned (.bool (commonP x y)) ∧ Ext0 w0 w' := by
  have H : SH (fun _ => False) w0 w0 [] := SH.nil _ _
  obtain ⟨p, mode, time, block, at_, size⟩ := x
  obtain ⟨p', mode', time', block', at', size'⟩ := y
  unfold aloneP at hx hy
  simp only [Bool.and_eq_true, decide_eq_true_eq] at hx hy
  obtain ⟨res, hres⟩ : ∃ q, commonP ⟨p, mode, time, block, at_, size⟩ ⟨p', mode', time', block', at', size'⟩ = q := ⟨_, rfl⟩
  rw [hres]
  unfold commonP at hres
  simp only at hres
  have HRES := Lib.hid hres
  have HX := Lib.hid (And.intro hx.2 hy.2)
  clear hres hx hy
  simp only [entV]
  go_enter Tryz.func34, Tryz.ntmps34
  go_upto_region 1 with (first | (refine L_box rfl rfl H rfl rfl ?_; clear H; intro g w H; (try simp only [Act.eval, Array.getD_eq_getD_getElem?, List.getElem?_toArray, List.getElem?_cons_succ, List.getElem?_cons_zero, Option.getD_some, Value.cells] at H); (try simp only [Act.put, List.setIfInBounds_toArray, List.set_cons_succ, List.set_cons_zero, List.getElem_toArray, List.getElem_cons_succ, List.getElem_cons_zero])))
  go_step
  refine L_take (v := ?_) rfl (by rfl) ?_ ?_
  rotate_left; (focus (first | (go_simp; done) | (go_simp; with_reducible rfl) | (go_simp; rfl))); all_goals skip; (try simp only [List.set_cons_succ, List.set_cons_zero])
  refine L_take (v := ?_) rfl (by rfl) ?_ ?_
  rotate_left; (focus (first | (refine R_load1 (ty := 3) (x := Operand.tmp 5) rfl H 0 rfl rfl ?_ Tryz.isAgg3; rfl) | (refine R_load1 (ty := 3) (x := Operand.tmp 5) rfl H 1 rfl rfl ?_ Tryz.isAgg3; rfl))); all_goals skip; (try simp only [List.set_cons_succ, List.set_cons_zero, List.getElem_toArray, List.getElem_cons_succ, List.getElem_cons_zero])
  refine L_take (v := ?_) rfl (by rfl) ?_ ?_
  rotate_left; (focus (first | (go_simp; done) | (go_simp; with_reducible rfl) | (go_simp; rfl))); all_goals skip; (try simp only [List.set_cons_succ, List.set_cons_zero])
  refine L_take (v := ?_) rfl (by rfl) ?_ ?_
  rotate_left; (focus (first | (refine R_load1 (ty := 3) (x := Operand.tmp 7) rfl H 0 rfl rfl ?_ Tryz.isAgg3; rfl) | (refine R_load1 (ty := 3) (x := Operand.tmp 7) rfl H 1 rfl rfl ?_ Tryz.isAgg3; rfl))); all_goals skip; (try simp only [List.set_cons_succ, List.set_cons_zero, List.getElem_toArray, List.getElem_cons_succ, List.getElem_cons_zero])
  refine L_takeB (q := ?_) rfl (by rfl) ?_ ?_
  rotate_left; (focus (first | (go_simp; done) | (go_simp; with_reducible rfl) | (go_simp; rfl))); all_goals skip; (try simp only [List.set_cons_succ, List.set_cons_zero])
  intro ca4 Hca4
  refine L_take (v := ?_) rfl (by rfl) ?_ ?_
  rotate_left; (focus (first | (go_simp; done) | (go_simp; with_reducible rfl) | (go_simp; rfl))); all_goals skip; (try simp only [List.set_cons_succ, List.set_cons_zero])
  refine L_maybe ca4 (v := ?_) rfl (by cases ca4 <;> rfl) ?_ ?_
  rotate_left; (focus (intro hb; (try simp only [Bool.and_eq_true, Bool.not_eq_true'] at hb); have hb0 := hb; (try simp only [hb0, Bool.not_false, Bool.not_true, Bool.and_true, Bool.true_and, Bool.and_self, cond_true, cond_false]); first | (go_simp; done) | (go_simp; with_reducible rfl) | (go_simp; rfl))); all_goals skip; (try simp only [List.set_cons_succ, List.set_cons_zero])
  refine L_maybe ca4 (v := ?_) rfl (by cases ca4 <;> rfl) ?_ ?_
  rotate_left; (focus (intro hb; (try simp only [Bool.and_eq_true, Bool.not_eq_true'] at hb); have hb0 := hb; (try simp only [hb0, Bool.not_false, Bool.not_true, Bool.and_true, Bool.true_and, Bool.and_self, cond_true, cond_false]); first | (refine R_load1 (ty := 3) (x := Operand.tmp 11) rfl H 0 rfl rfl ?_ Tryz.isAgg3; rfl) | (refine R_load1 (ty := 3) (x := Operand.tmp 11) rfl H 1 rfl rfl ?_ Tryz.isAgg3; rfl))); all_goals skip; (try simp only [List.set_cons_succ, List.set_cons_zero, List.getElem_toArray, List.getElem_cons_succ, List.getElem_cons_zero])
  refine L_maybeB ca4 (q := ?_) rfl (by cases ca4 <;> rfl) ?_ ?_
  rotate_left; (focus (intro hb; (try simp only [Bool.and_eq_true, Bool.not_eq_true'] at hb); have hb0 := hb; (try simp only [hb0, Bool.not_false, Bool.not_true, Bool.and_true, Bool.true_and, Bool.and_self, cond_true, cond_false]); first | (go_simp; done) | (go_simp; with_reducible rfl) | (go_simp; rfl))); all_goals skip; (try simp only [List.set_cons_succ, List.set_cons_zero])
  intro ca8 Hca8
  refine L_takeB (q := (ca4 && ca8)) rfl (by rfl) ?_ ?_
  (focus (cases ca4 <;> cases ca8 <;> (first | (go_simp; done) | (go_simp; with_reducible rfl) | (go_simp; rfl)))); all_goals skip; (try simp only [List.set_cons_succ, List.set_cons_zero])
  intro ca9 Hca9
  refine L_take (v := ?_) rfl (by rfl) ?_ ?_
  rotate_left; (focus (first | (go_simp; done) | (go_simp; with_reducible rfl) | (go_simp; rfl))); all_goals skip; (try simp only [List.set_cons_succ, List.set_cons_zero])
  refine L_maybe ca9 (v := ?_) rfl (by cases ca9 <;> rfl) ?_ ?_
  rotate_left; (focus (intro hb; (try simp only [Bool.and_eq_true, Bool.not_eq_true'] at hb); have hb0 := hb; (try simp only [hb0, Bool.not_false, Bool.not_true, Bool.and_true, Bool.true_and, Bool.and_self, cond_true, cond_false]); first | (go_simp; done) | (go_simp; with_reducible rfl) | (go_simp; rfl))); all_goals skip; (try simp only [List.set_cons_succ, List.set_cons_zero])
  refine L_maybe ca9 (v := ?_) rfl (by cases ca9 <;> rfl) ?_ ?_
  rotate_left; (focus (intro hb; (try simp only [Bool.and_eq_true, Bool.not_eq_true'] at hb); have hb0 := hb; (try simp only [hb0, Bool.not_false, Bool.not_true, Bool.and_true, Bool.true_and, Bool.and_self, cond_true, cond_false]); first | (refine R_load1 (ty := 3) (x := Operand.tmp 16) rfl H 0 rfl rfl ?_ Tryz.isAgg3; rfl) | (refine R_load1 (ty := 3) (x := Operand.tmp 16) rfl H 1 rfl rfl ?_ Tryz.isAgg3; rfl))); all_goals skip; (try simp only [List.set_cons_succ, List.set_cons_zero, List.getElem_toArray, List.getElem_cons_succ, List.getElem_cons_zero])
  refine L_maybeB ca9 (q := ?_) rfl (by cases ca9 <;> rfl) ?_ ?_
  rotate_left; (focus (intro hb; (try simp only [Bool.and_eq_true, Bool.not_eq_true'] at hb); have hb0 := hb; (try simp only [hb0, Bool.not_false, Bool.not_true, Bool.and_true, Bool.true_and, Bool.and_self, cond_true, cond_false]); first | (go_simp; done) | (go_simp; with_reducible rfl) | (go_simp; rfl))); all_goals skip; (try simp only [List.set_cons_succ, List.set_cons_zero])
  intro ca13 Hca13
  refine L_takeB (q := (ca9 && ca13)) rfl (by rfl) ?_ ?_
  (focus (cases ca13 <;> cases ca9 <;> (first | (go_simp; done) | (go_simp; with_reducible rfl) | (go_simp; rfl)))); all_goals skip; (try simp only [List.set_cons_succ, List.set_cons_zero])
  intro ca14 Hca14
  refine L_take (v := ?_) rfl (by rfl) ?_ ?_
  rotate_left; (focus (first | (go_simp; done) | (go_simp; with_reducible rfl) | (go_simp; rfl))); all_goals skip; (try simp only [List.set_cons_succ, List.set_cons_zero])
  refine L_maybe ca14 (v := ?_) rfl (by cases ca14 <;> rfl) ?_ ?_
  rotate_left; (focus (intro hb; (try simp only [Bool.and_eq_true, Bool.not_eq_true'] at hb); have hb0 := hb; (try simp only [hb0, Bool.not_false, Bool.not_true, Bool.and_true, Bool.true_and, Bool.and_self, cond_true, cond_false]); first | (go_simp; done) | (go_simp; with_reducible rfl) | (go_simp; rfl))); all_goals skip; (try simp only [List.set_cons_succ, List.set_cons_zero])
  refine L_maybe ca14 (v := ?_) rfl (by cases ca14 <;> rfl) ?_ ?_
  rotate_left; (focus (intro hb; (try simp only [Bool.and_eq_true, Bool.not_eq_true'] at hb); have hb0 := hb; (try simp only [hb0, Bool.not_false, Bool.not_true, Bool.and_true, Bool.true_and, Bool.and_self, cond_true, cond_false]); first | (refine R_load1 (ty := 3) (x := Operand.tmp 21) rfl H 0 rfl rfl ?_ Tryz.isAgg3; rfl) | (refine R_load1 (ty := 3) (x := Operand.tmp 21) rfl H 1 rfl rfl ?_ Tryz.isAgg3; rfl))); all_goals skip; (try simp only [List.set_cons_succ, List.set_cons_zero, List.getElem_toArray, List.getElem_cons_succ, List.getElem_cons_zero])
  refine L_maybe ca14 (v := ?_) rfl (by cases ca14 <;> rfl) ?_ ?_
  rotate_left; (focus (intro hb; (try simp only [Bool.and_eq_true, Bool.not_eq_true'] at hb); have hb0 := hb; (try simp only [hb0, Bool.not_false, Bool.not_true, Bool.and_true, Bool.true_and, Bool.and_self, cond_true, cond_false]); first | (go_simp; done) | (go_simp; with_reducible rfl) | (go_simp; rfl))); all_goals skip; (try simp only [List.set_cons_succ, List.set_cons_zero])
  refine L_maybe ca14 (v := ?_) rfl (by cases ca14 <;> rfl) ?_ ?_
  rotate_left; (focus (intro hb; (try simp only [Bool.and_eq_true, Bool.not_eq_true'] at hb); have hb0 := hb; (try simp only [hb0, Bool.not_false, Bool.not_true, Bool.and_true, Bool.true_and, Bool.and_self, cond_true, cond_false]); first | (refine R_load1 (ty := 3) (x := Operand.tmp 23) rfl H 0 rfl rfl ?_ Tryz.isAgg3; rfl) | (refine R_load1 (ty := 3) (x := Operand.tmp 23) rfl H 1 rfl rfl ?_ Tryz.isAgg3; rfl))); all_goals skip; (try simp only [List.set_cons_succ, List.set_cons_zero, List.getElem_toArray, List.getElem_cons_succ, List.getElem_cons_zero])
  refine L_maybe ca14 (v := ?_) rfl (by cases ca14 <;> rfl) ?_ ?_
  rotate_left; (focus (intro hb; (try simp only [Bool.and_eq_true, Bool.not_eq_true'] at hb); have hb0 := hb; (try simp only [hb0, Bool.not_false, Bool.not_true, Bool.and_true, Bool.true_and, Bool.and_self, cond_true, cond_false]); first | (go_simp; done) | (go_simp; with_reducible rfl) | (go_simp; rfl))); all_goals skip; (try simp only [List.set_cons_succ, List.set_cons_zero])
  refine L_maybe ca14 (v := ?_) rfl (by cases ca14 <;> rfl) ?_ ?_
  rotate_left; (focus (intro hb; (try simp only [Bool.and_eq_true, Bool.not_eq_true'] at hb); have hb0 := hb; (try simp only [hb0, Bool.not_false, Bool.not_true, Bool.and_true, Bool.true_and, Bool.and_self, cond_true, cond_false]); first | (refine R_load1 (ty := 3) (x := Operand.tmp 25) rfl H 0 rfl rfl ?_ Tryz.isAgg3; rfl) | (refine R_load1 (ty := 3) (x := Operand.tmp 25) rfl H 1 rfl rfl ?_ Tryz.isAgg3; rfl))); all_goals skip; (try simp only [List.set_cons_succ, List.set_cons_zero, List.getElem_toArray, List.getElem_cons_succ, List.getElem_cons_zero])
  refine L_maybe ca14 (v := ?_) rfl (by cases ca14 <;> rfl) ?_ ?_
  rotate_left; (focus (intro hb; (try simp only [Bool.and_eq_true, Bool.not_eq_true'] at hb); have hb0 := hb; (try simp only [hb0, Bool.not_false, Bool.not_true, Bool.and_true, Bool.true_and, Bool.and_self, cond_true, cond_false]); first | (go_simp; done) | (go_simp; with_reducible rfl) | (go_simp; rfl))); all_goals skip; (try simp only [List.set_cons_succ, List.set_cons_zero])
  refine L_maybeB ca14 (q := ?_) rfl (by cases ca14 <;> rfl) ?_ ?_
  rotate_left; (focus (intro hb; (try simp only [Bool.and_eq_true, Bool.not_eq_true'] at hb); have hb0 := hb; (try simp only [hb0, Bool.not_false, Bool.not_true, Bool.and_true, Bool.true_and, Bool.and_self, cond_true, cond_false]); first | (go_simp; done) | (go_simp; with_reducible rfl) | (go_simp; rfl))); all_goals skip; (try simp only [List.set_cons_succ, List.set_cons_zero])
  intro ca23 Hca23
  refine L_takeB (q := (ca14 && ca23)) rfl (by rfl) ?_ ?_
  (focus (cases ca14 <;> cases ca23 <;> (first | (go_simp; done) | (go_simp; with_reducible rfl) | (go_simp; rfl)))); all_goals skip; (try simp only [List.set_cons_succ, List.set_cons_zero])
  intro ca24 Hca24
  refine L_take (v := ?_) rfl (by rfl) ?_ ?_
  rotate_left; (focus (first | (go_simp; done) | (go_simp; with_reducible rfl) | (go_simp; rfl))); all_goals skip; (try simp only [List.set_cons_succ, List.set_cons_zero])
  refine L_maybe ca24 (v := ?_) rfl (by cases ca24 <;> rfl) ?_ ?_
  rotate_left; (focus (intro hb; (try simp only [Bool.and_eq_true, Bool.not_eq_true'] at hb); have hb0 := hb; (try simp only [hb0, Bool.not_false, Bool.not_true, Bool.and_true, Bool.true_and, Bool.and_self, cond_true, cond_false]); first | (go_simp; done) | (go_simp; with_reducible rfl) | (go_simp; rfl))); all_goals skip; (try simp only [List.set_cons_succ, List.set_cons_zero])
  refine L_maybe ca24 (v := ?_) rfl (by cases ca24 <;> rfl) ?_ ?_
  rotate_left; (focus (intro hb; (try simp only [Bool.and_eq_true, Bool.not_eq_true'] at hb); have hb0 := hb; (try simp only [hb0, Bool.not_false, Bool.not_true, Bool.and_true, Bool.true_and, Bool.and_self, cond_true, cond_false]); first | (refine R_load1 (ty := 3) (x := Operand.tmp 31) rfl H 0 rfl rfl ?_ Tryz.isAgg3; rfl) | (refine R_load1 (ty := 3) (x := Operand.tmp 31) rfl H 1 rfl rfl ?_ Tryz.isAgg3; rfl))); all_goals skip; (try simp only [List.set_cons_succ, List.set_cons_zero, List.getElem_toArray, List.getElem_cons_succ, List.getElem_cons_zero])
  refine L_maybe ca24 (v := ?_) rfl (by cases ca24 <;> rfl) ?_ ?_
  rotate_left; (focus (intro hb; (try simp only [Bool.and_eq_true, Bool.not_eq_true'] at hb); have hb0 := hb; (try simp only [hb0, Bool.not_false, Bool.not_true, Bool.and_true, Bool.true_and, Bool.and_self, cond_true, cond_false]); first | (go_simp; done) | (go_simp; with_reducible rfl) | (go_simp; rfl))); all_goals skip; (try simp only [List.set_cons_succ, List.set_cons_zero])
  refine L_maybe ca24 (v := ?_) rfl (by cases ca24 <;> rfl) ?_ ?_
  rotate_left; (focus (intro hb; (try simp only [Bool.and_eq_true, Bool.not_eq_true'] at hb); have hb0 := hb; (try simp only [hb0, Bool.not_false, Bool.not_true, Bool.and_true, Bool.true_and, Bool.and_self, cond_true, cond_false]); first | (refine R_load1 (ty := 3) (x := Operand.tmp 33) rfl H 0 rfl rfl ?_ Tryz.isAgg3; rfl) | (refine R_load1 (ty := 3) (x := Operand.tmp 33) rfl H 1 rfl rfl ?_ Tryz.isAgg3; rfl))); all_goals skip; (try simp only [List.set_cons_succ, List.set_cons_zero, List.getElem_toArray, List.getElem_cons_succ, List.getElem_cons_zero])
  refine L_maybe ca24 (v := ?_) rfl (by cases ca24 <;> rfl) ?_ ?_
  rotate_left; (focus (intro hb; (try simp only [Bool.and_eq_true, Bool.not_eq_true'] at hb); have hb0 := hb; (try simp only [hb0, Bool.not_false, Bool.not_true, Bool.and_true, Bool.true_and, Bool.and_self, cond_true, cond_false]); first | (go_simp; done) | (go_simp; with_reducible rfl) | (go_simp; rfl))); all_goals skip; (try simp only [List.set_cons_succ, List.set_cons_zero])
  refine L_maybe ca24 (v := ?_) rfl (by cases ca24 <;> rfl) ?_ ?_
  rotate_left; (focus (intro hb; (try simp only [Bool.and_eq_true, Bool.not_eq_true'] at hb); have hb0 := hb; (try simp only [hb0, Bool.not_false, Bool.not_true, Bool.and_true, Bool.true_and, Bool.and_self, cond_true, cond_false]); first | (refine R_load1 (ty := 3) (x := Operand.tmp 35) rfl H 0 rfl rfl ?_ Tryz.isAgg3; rfl) | (refine R_load1 (ty := 3) (x := Operand.tmp 35) rfl H 1 rfl rfl ?_ Tryz.isAgg3; rfl))); all_goals skip; (try simp only [List.set_cons_succ, List.set_cons_zero, List.getElem_toArray, List.getElem_cons_succ, List.getElem_cons_zero])
  refine L_maybe ca24 (v := ?_) rfl (by cases ca24 <;> rfl) ?_ ?_
  rotate_left; (focus (intro hb; (try simp only [Bool.and_eq_true, Bool.not_eq_true'] at hb); have hb0 := hb; (try simp only [hb0, Bool.not_false, Bool.not_true, Bool.and_true, Bool.true_and, Bool.and_self, cond_true, cond_false]); first | (go_simp; done) | (go_simp; with_reducible rfl) | (go_simp; rfl))); all_goals skip; (try simp only [List.set_cons_succ, List.set_cons_zero])
  refine L_maybeB ca24 (q := ?_) rfl (by cases ca24 <;> rfl) ?_ ?_
  rotate_left; (focus (intro hb; (try simp only [Bool.and_eq_true, Bool.not_eq_true'] at hb); have hb0 := hb; (try simp only [hb0, Bool.not_false, Bool.not_true, Bool.and_true, Bool.true_and, Bool.and_self, cond_true, cond_false]); first | (go_simp; done) | (go_simp; with_reducible rfl) | (go_simp; rfl))); all_goals skip; (try simp only [List.set_cons_succ, List.set_cons_zero])
  intro ca33 Hca33
  refine L_takeB (q := (ca24 && ca33)) rfl (by rfl) ?_ ?_
  (focus (cases ca24 <;> cases ca33 <;> (first | (go_simp; done) | (go_simp; with_reducible rfl) | (go_simp; rfl)))); all_goals skip; (try simp only [List.set_cons_succ, List.set_cons_zero])
  intro ca34 Hca34
  refine L_take (v := ?_) rfl (by rfl) ?_ ?_
  rotate_left; (focus (first | (go_simp; done) | (go_simp; with_reducible rfl) | (go_simp; rfl))); all_goals skip; (try simp only [List.set_cons_succ, List.set_cons_zero])
  have hfin := Hca34.out
  simp only [Hca9.out, Hca14.out, Hca24.out, Hca4.out, Hca8.out, Hca13.out, Hca23.out, Hca33.out] at hfin
  replace hfin := Lib.hid hfin
  clear Hca9 Hca14 Hca24 Hca34 Hca4 Hca8 Hca13 Hca23 Hca33

  have hq : ca34 = res := by
    have := HX.out
    rw [hfin.out, ← HRES.out, IntKind.wrap_i64, IntKind.wrap_i64, Bool.eq_iff_iff]
    simp only [Bool.true_and, Bool.and_eq_true, decide_eq_true_eq, beq_iff_eq]
    omega
  subst hq
  clear hfin
  go_wp2_with fail
  go_ret
  exact ⟨rfl, H.ext⟩
end Go.Proofs.YtmfcccflohpjiaaGreatDoor
