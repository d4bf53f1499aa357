/- Journals: their block and their disk as one assertion; the small methods. -/
import Derived.Test.YtgmeahogdjhejaaGreatDoorWalT
namespace Go.Proofs.YtgmeahogdjhejaaGreatDoor
set_option linter.unusedVariables false
set_option linter.unusedSimpArgs false
open Go.RowKit Go.Shelf

/-- A journal and its disk. -/
def JD (b bs bm jb : Nat) (d : DS) (j : JS) : Asr where
  fp := fun i => (DiskA b bs bm d).fp i ∨ i = jb
  says := fun w => (DiskA b bs bm d).says w ∧ w.heap[jb]? = some (.cells (jCells b j) 76 (0, 0)) ∧ ¬ (DiskA b bs bm d).fp jb
  keep := fun w w' h hs => ⟨(DiskA b bs bm d).keep w w' (fun i hi => h i (.inl hi)) hs.1, (h jb (.inr rfl)).trans hs.2.1, hs.2.2⟩
section
variable {M : Nat → Prop} {w0 w : World} {L : List Asr} {b bs bm jb : Nat} {d : DS} {j : JS}
theorem JD.lt (h : (JD b bs bm jb d j).says w) {i : Nat} (hi : (JD b bs bm jb d j).fp i) : i < w.heap.size := by
  rcases hi with hi | rfl
  · exact DiskA.fp_lt h.1 hi
  · exact blk_lt' h.2.1
theorem JD.open_ (h : (JD b bs bm jb d j).says w) : SH (JD b bs bm jb d j).fp w w [pt jb (.cells (jCells b j) 76 (0, 0)), DiskA b bs bm d] := by
  refine ⟨Ext.refl _ _, fun A hA => ?_, fun A hA i hi => ?_, fun A hA i hi => ?_, ?_⟩
  · rcases List.mem_cons.1 hA with rfl | hA
    · exact h.2.1
    · rw [List.mem_singleton.1 hA]; exact h.1
  · rcases List.mem_cons.1 hA with rfl | hA
    · exact JD.lt h (.inr hi)
    · rw [List.mem_singleton.1 hA] at hi; exact JD.lt h (.inl hi)
  · rcases List.mem_cons.1 hA with rfl | hA
    · exact .inl (.inr hi)
    · rw [List.mem_singleton.1 hA] at hi; exact .inl (.inl hi)
  · refine List.pairwise_cons.2 ⟨fun A hA i hi hi' => ?_, List.pairwise_singleton _ _⟩
    rw [List.mem_singleton.1 hA] at hi'
    simp only [pt_fp] at hi
    subst hi
    exact h.2.2 hi'
theorem JD.shut (H : SH M w0 w (pt jb (.cells (jCells b j) 76 (0, 0)) :: DiskA b bs bm d :: L)) : (JD b bs bm jb d j).says w :=
  ⟨H.get 1 rfl, H.get 0 rfl, fun hfp => (List.pairwise_cons.1 H.apart).1 _ List.mem_cons_self jb rfl hfp⟩
theorem SH.jd (H : SH M w0 w L) (k : Nat) (hk : L[k]? = some (JD b bs bm jb d j)) {w' : World} {d' : DS} {j' : JS} (he : Ext (JD b bs bm jb d j).fp w w') (hs : (JD b bs bm jb d' j').says w') : SH M w0 w' (L.set k (JD b bs bm jb d' j')) :=
  H.upd k hk he hs (fun i hi => ⟨.inl hi, JD.lt hs hi⟩)
theorem SH.blk (H : SH M w0 w L) (k : Nat) {o o' : Obj} (hk : L[k]? = some (pt jb o)) {w' : World} (he : Ext (fun i => i = jb) w w') (hs : w'.heap[jb]? = some o') : SH M w0 w' (L.set k (pt jb o')) :=
  H.upd k hk he hs (fun i hi => by simp only [pt_fp] at hi; subst hi; exact ⟨.inl rfl, blk_lt' hs⟩)
end
/-- A journal's numbers are within their bounds. -/
structure JS.Ok (j : JS) (N : Nat) : Prop where
  may : mayP N j.slot j.log
  epoch : U32 j.epoch
  seq : U32 j.seq
  place : j.place ≤ 1
  used : j.used ≤ j.log
def JS.bar (j : JS) : Int := if j.refused then 10 else if j.fresh = false then 9 else 0
set_option maxRecDepth 100000 in
theorem ready_any {b jb : Nat} {j : JS} (w : World) (h : w.heap[jb]? = some (.cells (jCells b j) 76 (0, 0))) :
    Calls Tryz.prog 50 #[.pointer (some ⟨jb, 0, none⟩)] w fun e w' => e = .returned (.int .i64 (if j.refused then 10 else 0)) ∧ Ext0 w w' := by
  have hc : w.cell? ⟨jb, 8, none⟩ = some (.bool j.refused) := cell_of_row w jb 8 _ _ _ h
  obtain ⟨slot, log, ep, sq, pl, us, fr, re⟩ := j
  cases re
  all_goals
    go_enter Tryz.func50, Tryz.ntmps50
    go_wp2
    go_ret
    exact ⟨rfl, Ext.refl _ _⟩
set_option maxRecDepth 100000 in
theorem ready_nil (w : World) : Calls Tryz.prog 50 #[.pointer none] w fun e w' => e = .returned (.int .i64 1) ∧ Ext0 w w' := by
  go_enter Tryz.func50, Tryz.ntmps50
  go_wp2
  go_ret
  exact ⟨rfl, Ext.refl _ _⟩
set_option maxRecDepth 100000 in
theorem jopen_any {b jb : Nat} {j : JS} (w : World) (h : w.heap[jb]? = some (.cells (jCells b j) 76 (0, 0))) :
    Calls Tryz.prog 47 #[.pointer (some ⟨jb, 0, none⟩)] w fun e w' => e = .returned (.int .i64 j.bar) ∧ Ext0 w w' := by
  have hc := fun {w' : World} (hE : Ext0 w w') => cell_of_row w' jb 7 _ _ _ (hE.block0 h)
  have hr := ready_any w h
  clear h
  obtain ⟨slot, log, ep, sq, pl, us, fr, re⟩ := j
  unfold JS.bar
  simp only [jCells, List.getElem?_toArray, List.getElem?_cons_succ, List.getElem?_cons_zero] at hc
  cases re <;> cases fr
  all_goals
    simp only [Bool.false_eq_true, if_true, if_false, reduceCtorEq] at hr ⊢
    go_enter Tryz.func47, Tryz.ntmps47
    go_wp2_with (first
      | (go_at_call 50; refine hr.mono ?_; rintro e1 w1 ⟨rfl, hE⟩; have hc7 := hc hE))
    go_ret
    exact ⟨rfl, hE⟩
set_option maxRecDepth 100000 in
theorem jopen_nil (w : World) : Calls Tryz.prog 47 #[.pointer none] w fun e w' => e = .returned (.int .i64 1) ∧ Ext0 w w' := by
  go_enter Tryz.func47, Tryz.ntmps47
  go_wp2_with (first
    | (go_at_call 50; refine (ready_nil w).mono ?_; rintro e1 w1 ⟨rfl, hE⟩))
  go_ret
  exact ⟨rfl, hE⟩
set_option maxRecDepth 100000 in
theorem tried_any {b jb : Nat} {j : JS} (w : World) (x : Int) (h : w.heap[jb]? = some (.cells (jCells b j) 76 (0, 0))) :
    Calls Tryz.prog 48 #[.pointer (some ⟨jb, 0, none⟩), .int .i64 x] w fun e w' => e = .returned (.int .i64 x) ∧ Ext (fun i => i = jb) w w' ∧ w'.heap[jb]? = some (.cells (jCells b { j with refused := decide (x ≠ 0) }) 76 (0, 0)) := by
  have H : SH (fun i => i = jb) w w [pt jb (.cells (jCells b j) 76 (0, 0))] :=
    ⟨Ext.refl _ _, fun A hA => by rw [List.mem_singleton.1 hA]; exact h, fun A hA i hi => by rw [List.mem_singleton.1 hA] at hi; simp only [pt_fp] at hi; subst hi; exact blk_lt' h,
     fun A hA i hi => by rw [List.mem_singleton.1 hA] at hi; exact .inl hi, List.pairwise_singleton _ _⟩
  have hx : decide (x ≠ 0) = (x != 0) := by by_cases h0 : x = 0 <;> simp [h0]
  rw [hx]
  clear h hx
  obtain ⟨slot, log, ep, sq, pl, us, fr, re⟩ := j
  simp only [jCells] at H
  go_enter Tryz.func48, Tryz.ntmps48
  go_wp2_with (first
    | (refine L_store1 rfl rfl H 0 rfl rfl rfl rfl rfl (Nat.le_of_ble_eq_true rfl) Tryz.sizeOf4 ?_; clear H; intro w H; simp only [List.set_cons_zero, List.set_cons_succ, List.setIfInBounds_toArray, Act.eval, Array.getD_eq_getD_getElem?, List.getElem?_toArray, List.getElem?_cons_succ, List.getElem?_cons_zero, Option.getD_some] at H; (try simp only [Act.put, List.setIfInBounds_toArray, List.set_cons_succ, List.set_cons_zero, List.getElem_toArray, List.getElem_cons_succ, List.getElem_cons_zero])))
  go_ret
  exact ⟨rfl, H.ext, H.get 0 rfl⟩
section
variable {b jb : Nat} {j : JS} (w : World) (h : w.heap[jb]? = some (.cells (jCells b j) 76 (0, 0)))
include h
set_option maxRecDepth 100000 in
theorem epoch_any : Calls Tryz.prog 22 #[.pointer (some ⟨jb, 0, none⟩)] w fun e w' => e = .returned (.int .i64 j.epoch) ∧ Ext0 w w' := by
  have hc : w.cell? ⟨jb, 3, none⟩ = some (.int .i64 j.epoch) := cell_of_row w jb 3 _ _ _ h
  go_enter Tryz.func22, Tryz.ntmps22
  go_wp2
  go_ret
  exact ⟨rfl, Ext.refl _ _⟩
set_option maxRecDepth 100000 in
theorem seq_any : Calls Tryz.prog 23 #[.pointer (some ⟨jb, 0, none⟩)] w fun e w' => e = .returned (.int .i64 j.seq) ∧ Ext0 w w' := by
  have hc : w.cell? ⟨jb, 4, none⟩ = some (.int .i64 j.seq) := cell_of_row w jb 4 _ _ _ h
  go_enter Tryz.func23, Tryz.ntmps23
  go_wp2
  go_ret
  exact ⟨rfl, Ext.refl _ _⟩
set_option maxRecDepth 100000 in
theorem jplace_any : Calls Tryz.prog 25 #[.pointer (some ⟨jb, 0, none⟩)] w fun e w' => e = .returned (.int .i64 (j.place : Int)) ∧ Ext0 w w' := by
  have hc : w.cell? ⟨jb, 5, none⟩ = some (.int .i64 (j.place : Int)) := cell_of_row w jb 5 _ _ _ h
  go_enter Tryz.func25, Tryz.ntmps25
  go_wp2
  go_ret
  exact ⟨rfl, Ext.refl _ _⟩
set_option maxRecDepth 100000 in
theorem room_any (hl : j.log ≤ 1000000) (hu : j.used ≤ j.log) : Calls Tryz.prog 24 #[.pointer (some ⟨jb, 0, none⟩)] w fun e w' => e = .returned (.int .i64 ((j.log - j.used : Nat) : Int)) ∧ Ext0 w w' := by
  have hw : IntKind.i64.wrap ((j.log : Int) - (j.used : Int)) = ((j.log - j.used : Nat) : Int) := by rw [IntKind.wrap_i64]; omega
  obtain ⟨r, hr⟩ : ∃ r : Int, ((j.log - j.used : Nat) : Int) = r := ⟨_, rfl⟩
  rw [hr] at hw ⊢
  have H : SH (fun i => i = jb) w w [pt jb (.cells (jCells b j) 76 (0, 0))] :=
    ⟨Ext.refl _ _, fun A hA => by rw [List.mem_singleton.1 hA]; exact h, fun A hA i hi => by rw [List.mem_singleton.1 hA] at hi; simp only [pt_fp] at hi; subst hi; exact blk_lt' h,
     fun A hA i hi => by rw [List.mem_singleton.1 hA] at hi; exact .inl hi, List.pairwise_singleton _ _⟩
  clear h hr hl hu
  go_enter Tryz.func24, Tryz.ntmps24
  go_upto_region 3 with fail
  have K : SH (fun _ => False) w w [] := SH.nil _ _
  refine D_start H (by kernel_rfl) (fun hS => ?_)
  try simp only [Act.put, List.setIfInBounds_toArray, List.set_cons_succ, List.set_cons_zero]
  refine D_take 0 (v := ?_) rfl (by kernel_rfl) (by kernel_rfl) (by kernel_rfl) (fun _ _ _ h => h) rfl (by rfl) (fun W hS => ?_) hS ?_
  rotate_left; (focus (first | (go_simp; done) | (go_simp; with_reducible rfl) | (go_simp; rfl))); all_goals skip; (try simp only [List.set_cons_succ, List.set_cons_zero])
  refine D_take 1 (v := ?_) rfl (by kernel_rfl) (by kernel_rfl) (by kernel_rfl) (fun _ _ _ h => h) rfl (by rfl) (fun W hS => ?_) hS ?_
  rotate_left; (focus (first | (go_simp; done) | (go_simp; with_reducible rfl) | (go_simp; rfl))); all_goals skip; (try simp only [List.set_cons_succ, List.set_cons_zero])
  refine D_take 2 (v := ?_) rfl (by kernel_rfl) (by kernel_rfl) (by kernel_rfl) (fun _ _ _ h => h) rfl (by rfl) (fun W hS => ?_) hS ?_
  rotate_left; (focus (first | (go_simp; done) | (go_simp; with_reducible rfl) | (go_simp; rfl))); all_goals skip; (try simp only [List.set_cons_succ, List.set_cons_zero])
  refine D_take 3 (v := ?_) rfl (by kernel_rfl) (by kernel_rfl) (by kernel_rfl) (fun _ _ _ h => h) rfl (by rfl) (fun W hS => ?_) hS ?_
  rotate_left; (focus (first | (go_simp; done) | (go_simp; with_reducible rfl) | (go_simp; rfl))); all_goals skip; (try simp only [List.set_cons_succ, List.set_cons_zero])
  refine D_take 4 (v := ?_) rfl (by kernel_rfl) (by kernel_rfl) (by kernel_rfl) (fun _ _ _ h => h) rfl (by rfl) (fun W hS => ?_) hS ?_
  rotate_left; (focus (first | (refine R_load1 (ty := 3) (x := Operand.tmp 8) rfl hS 0 rfl rfl ?_ Tryz.isAgg3; rfl))); all_goals skip; (try simp only [List.set_cons_succ, List.set_cons_zero, List.getElem_toArray, List.getElem_cons_succ, List.getElem_cons_zero])
  refine D_take 5 (v := ?_) rfl (by kernel_rfl) (by kernel_rfl) (by kernel_rfl) (fun _ _ _ h => h) rfl (by rfl) (fun W hS => ?_) hS ?_
  rotate_left; (focus (first | (go_simp; done) | (go_simp; with_reducible rfl) | (go_simp; rfl))); all_goals skip; (try simp only [List.set_cons_succ, List.set_cons_zero])
  refine D_take 6 (v := ?_) rfl (by kernel_rfl) (by kernel_rfl) (by kernel_rfl) (fun _ _ _ h => h) rfl (by rfl) (fun W hS => ?_) hS ?_
  rotate_left; (focus (first | (go_simp; done) | (go_simp; with_reducible rfl) | (go_simp; rfl))); all_goals skip; (try simp only [List.set_cons_succ, List.set_cons_zero])
  refine D_take 7 (v := ?_) rfl (by kernel_rfl) (by kernel_rfl) (by kernel_rfl) (fun _ _ _ h => h) rfl (by rfl) (fun W hS => ?_) hS ?_
  rotate_left; (focus (first | (go_simp; done) | (go_simp; with_reducible rfl) | (go_simp; rfl))); all_goals skip; (try simp only [List.set_cons_succ, List.set_cons_zero])
  refine D_take 8 (v := ?_) rfl (by kernel_rfl) (by kernel_rfl) (by kernel_rfl) (fun _ _ _ h => h) rfl (by rfl) (fun W hS => ?_) hS ?_
  rotate_left; (focus (first | (refine R_load1 (ty := 3) (x := Operand.tmp 12) rfl hS 0 rfl rfl ?_ Tryz.isAgg3; rfl))); all_goals skip; (try simp only [List.set_cons_succ, List.set_cons_zero, List.getElem_toArray, List.getElem_cons_succ, List.getElem_cons_zero])
  refine D_take 9 (v := ?_) rfl (by kernel_rfl) (by kernel_rfl) (by kernel_rfl) (fun _ _ _ h => h) rfl (by rfl) (fun W hS => ?_) hS ?_
  rotate_left; (focus (first | (go_simp; done) | (go_simp; with_reducible rfl) | (go_simp; rfl))); all_goals skip; (try simp only [List.set_cons_succ, List.set_cons_zero])
  refine D_take 10 (v := ?_) rfl (by kernel_rfl) (by kernel_rfl) (by kernel_rfl) (fun _ _ _ h => h) rfl (by rfl) (fun W hS => ?_) hS ?_
  rotate_left; (focus (first | (go_simp; done) | (go_simp; with_reducible rfl) | (go_simp; rfl))); all_goals skip; (try simp only [List.set_cons_succ, List.set_cons_zero])
  refine wpAnyH_done (by kernel_rfl) ?_ _
  go_wp2_with fail
  go_ret
  exact ⟨rfl, Ext.drew _ _⟩
end
set_option maxRecDepth 100000 in
theorem nil_epoch (w : World) : Calls Tryz.prog 22 #[.pointer none] w fun e w' => e = .returned (.int .i64 0) ∧ Ext0 w w' := by
  go_enter Tryz.func22, Tryz.ntmps22
  go_wp2
  go_ret
  exact ⟨rfl, Ext.refl _ _⟩
set_option maxRecDepth 100000 in
theorem nil_seq (w : World) : Calls Tryz.prog 23 #[.pointer none] w fun e w' => e = .returned (.int .i64 0) ∧ Ext0 w w' := by
  go_enter Tryz.func23, Tryz.ntmps23
  go_wp2
  go_ret
  exact ⟨rfl, Ext.refl _ _⟩
set_option maxRecDepth 100000 in
theorem nil_place (w : World) : Calls Tryz.prog 25 #[.pointer none] w fun e w' => e = .returned (.int .i64 0) ∧ Ext0 w w' := by
  go_enter Tryz.func25, Tryz.ntmps25
  go_wp2
  go_ret
  exact ⟨rfl, Ext.refl _ _⟩
set_option maxRecDepth 100000 in
theorem nil_room (w : World) : Calls Tryz.prog 24 #[.pointer none] w fun e w' => e = .returned (.int .i64 0) ∧ Ext0 w w' := by
  go_enter Tryz.func24, Tryz.ntmps24
  go_wp2
  go_ret
  exact ⟨rfl, Ext.refl _ _⟩
set_option maxRecDepth 100000 in
theorem nil_commit (w : World) : Calls Tryz.prog 16 #[.pointer none] w fun e w' => e = .returned (.int .i64 1) ∧ Ext0 w w' := by
  go_enter Tryz.func16, Tryz.ntmps16
  go_wp2_with (first
    | (go_at_call 47; refine (jopen_nil w).mono ?_; rintro e1 w1 ⟨rfl, hE⟩))
  go_ret
  exact ⟨rfl, hE⟩
set_option maxRecDepth 100000 in
theorem nil_append (w : World) (v : Value) : Calls Tryz.prog 20 #[.pointer none, v] w fun e w' => e = .returned (.int .i64 1) ∧ Ext0 w w' := by
  go_enter Tryz.func20, Tryz.ntmps20
  go_wp2_with (first
    | (go_at_call 47; refine (jopen_nil w).mono ?_; rintro e1 w1 ⟨rfl, hE⟩))
  go_ret
  exact ⟨rfl, hE⟩
set_option maxRecDepth 100000 in
theorem nil_checkpoint (w : World) (v : Value) : Calls Tryz.prog 18 #[.pointer none, v] w fun e w' => e = .returned (.int .i64 1) ∧ Ext0 w w' := by
  go_enter Tryz.func18, Tryz.ntmps18
  go_wp2_with (first
    | (go_at_call 50; refine (ready_nil w).mono ?_; rintro e1 w1 ⟨rfl, hE⟩))
  go_ret
  exact ⟨rfl, hE⟩
end Go.Proofs.YtgmeahogdjhejaaGreatDoor
