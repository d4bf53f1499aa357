/- layout.place, layout.logs, layout.record. -/
import Derived.Test.YtgmeahogdjhejaaDoorWalQ
namespace Go.Proofs.YtgmeahogdjhejaaDoor
set_option linter.unusedVariables false
set_option linter.unusedSimpArgs false
open Go.RowKit Go.Shelf

theorem info64 : (Tryd.prog.info? 64).map (·.size) = some 3 := by kernel_rfl
theorem info60 : (Tryd.prog.info? 60).map (·.size) = some 3 := by kernel_rfl
theorem one3 (a b c : Value) (ha : a.oneCell' = true) (hb : b.oneCell' = true) (hc : c.oneCell' = true) : (#[a, b, c] : Array Value).all (·.oneCell') = true := by simp [ha, hb, hc]
set_option maxRecDepth 100000 in
set_option maxHeartbeats 1000000 in
theorem place_any (b : Nat) (slot log n m p q : Int) (w : World) (hp : IntKind.i64.wrap (n * slot) = p) (hm : IntKind.i64.wrap (n + 1) = m) (hq : IntKind.i64.wrap (m * slot) = q) :
    Calls Tryd.prog 29 #[layV b slot log, .int .i64 n] w fun e w' => e = .returned (extV b p q) ∧ Ext0 w w' := by
  have H : SH (fun _ => False) w w [] := SH.nil _ _
  unfold layV extV
  go_enter Tryd.func29, Tryd.ntmps29
  go_wp2_with (first
    | (refine L_box rfl rfl H rfl rfl ?_; clear H; intro g1 w H; (try simp only [Act.eval, Array.getD_eq_getD_getElem?, List.getElem?_toArray, List.getElem?_cons_succ, List.getElem?_cons_zero, Option.getD_some, Value.cells] at H); (try simp only [Act.put, List.setIfInBounds_toArray, List.set_cons_succ, List.set_cons_zero, List.getElem_toArray, List.getElem_cons_succ, List.getElem_cons_zero]))
    | (refine L_alloc rfl rfl H Tryd.zeroValue64 ?_; clear H; intro g3 w H; simp only [Value.cells] at H; (try simp only [Act.put, List.setIfInBounds_toArray, List.set_cons_succ, List.set_cons_zero, List.getElem_toArray, List.getElem_cons_succ, List.getElem_cons_zero]))
    | (refine L_storerow rfl rfl H 0 rfl rfl rfl info64 rfl rfl (one3 _ _ _ rfl rfl rfl) ?_; clear H; intro w H; simp only [List.set_cons_zero, List.set_cons_succ, List.setIfInBounds_toArray, Act.eval, Array.getD_eq_getD_getElem?, List.getElem?_toArray, List.getElem?_cons_succ, List.getElem?_cons_zero, Option.getD_some] at H; (try simp only [Act.put, List.setIfInBounds_toArray, List.set_cons_succ, List.set_cons_zero, List.getElem_toArray, List.getElem_cons_succ, List.getElem_cons_zero]))
    | (refine L_load1 rfl rfl H 0 rfl rfl rfl Tryd.isAgg24 ?_; (try simp only [Act.put, List.setIfInBounds_toArray, List.set_cons_succ, List.set_cons_zero, List.getElem_toArray, List.getElem_cons_succ, List.getElem_cons_zero])) | (refine L_load1 rfl rfl H 1 rfl rfl rfl Tryd.isAgg24 ?_; (try simp only [Act.put, List.setIfInBounds_toArray, List.set_cons_succ, List.set_cons_zero, List.getElem_toArray, List.getElem_cons_succ, List.getElem_cons_zero])) | (refine L_load1 rfl rfl H 0 rfl rfl rfl Tryd.isAgg3 ?_; (try simp only [Act.put, List.setIfInBounds_toArray, List.set_cons_succ, List.set_cons_zero, List.getElem_toArray, List.getElem_cons_succ, List.getElem_cons_zero])) | (refine L_load1 rfl rfl H 1 rfl rfl rfl Tryd.isAgg3 ?_; (try simp only [Act.put, List.setIfInBounds_toArray, List.set_cons_succ, List.set_cons_zero, List.getElem_toArray, List.getElem_cons_succ, List.getElem_cons_zero])))
  (try simp only [Exit.inBlock, Exit.then])
  exact L_retrow rfl H 0 rfl rfl Tryd.underlying64 rfl info64 rfl rfl ⟨rfl, H.ext⟩
set_option maxRecDepth 100000 in
set_option maxHeartbeats 1000000 in
theorem logs_any (b : Nat) (slot log n m p q : Int) (w : World) (hm : IntKind.i64.wrap (2 * slot) = m) (hp : IntKind.i64.wrap (m + n) = p) (hq : IntKind.i64.wrap (m + log) = q) :
    Calls Tryd.prog 34 #[layV b slot log, .int .i64 n] w fun e w' => e = .returned (extV b p q) ∧ Ext0 w w' := by
  have H : SH (fun _ => False) w w [] := SH.nil _ _
  unfold layV extV
  go_enter Tryd.func34, Tryd.ntmps34
  go_wp2_with (first
    | (refine L_box rfl rfl H rfl rfl ?_; clear H; intro g1 w H; (try simp only [Act.eval, Array.getD_eq_getD_getElem?, List.getElem?_toArray, List.getElem?_cons_succ, List.getElem?_cons_zero, Option.getD_some, Value.cells] at H); (try simp only [Act.put, List.setIfInBounds_toArray, List.set_cons_succ, List.set_cons_zero, List.getElem_toArray, List.getElem_cons_succ, List.getElem_cons_zero]))
    | (refine L_alloc rfl rfl H Tryd.zeroValue64 ?_; clear H; intro g3 w H; simp only [Value.cells] at H; (try simp only [Act.put, List.setIfInBounds_toArray, List.set_cons_succ, List.set_cons_zero, List.getElem_toArray, List.getElem_cons_succ, List.getElem_cons_zero]))
    | (refine L_storerow rfl rfl H 0 rfl rfl rfl info64 rfl rfl (one3 _ _ _ rfl rfl rfl) ?_; clear H; intro w H; simp only [List.set_cons_zero, List.set_cons_succ, List.setIfInBounds_toArray, Act.eval, Array.getD_eq_getD_getElem?, List.getElem?_toArray, List.getElem?_cons_succ, List.getElem?_cons_zero, Option.getD_some] at H; (try simp only [Act.put, List.setIfInBounds_toArray, List.set_cons_succ, List.set_cons_zero, List.getElem_toArray, List.getElem_cons_succ, List.getElem_cons_zero]))
    | (refine L_load1 rfl rfl H 0 rfl rfl rfl Tryd.isAgg24 ?_; (try simp only [Act.put, List.setIfInBounds_toArray, List.set_cons_succ, List.set_cons_zero, List.getElem_toArray, List.getElem_cons_succ, List.getElem_cons_zero])) | (refine L_load1 rfl rfl H 1 rfl rfl rfl Tryd.isAgg24 ?_; (try simp only [Act.put, List.setIfInBounds_toArray, List.set_cons_succ, List.set_cons_zero, List.getElem_toArray, List.getElem_cons_succ, List.getElem_cons_zero])) | (refine L_load1 rfl rfl H 0 rfl rfl rfl Tryd.isAgg3 ?_; (try simp only [Act.put, List.setIfInBounds_toArray, List.set_cons_succ, List.set_cons_zero, List.getElem_toArray, List.getElem_cons_succ, List.getElem_cons_zero])) | (refine L_load1 rfl rfl H 1 rfl rfl rfl Tryd.isAgg3 ?_; (try simp only [Act.put, List.setIfInBounds_toArray, List.set_cons_succ, List.set_cons_zero, List.getElem_toArray, List.getElem_cons_succ, List.getElem_cons_zero])))
  (try simp only [Exit.inBlock, Exit.then])
  exact L_retrow rfl H 0 rfl rfl Tryd.underlying64 rfl info64 rfl rfl ⟨rfl, H.ext⟩
def RecE (slot : Nat) (ep sq : Int) (xs : List Int) (w : World) (e : Ending) (w' : World) : Prop :=
  (recErr slot ep xs.length ≠ 0 ∧ e = .returned (.tuple #[.slice none 0 0, .int .i64 (recErr slot ep xs.length)]) ∧ Ext0 w w') ∨ (recErr slot ep xs.length = 0 ∧ LayE (layP ep sq xs) w e w')
set_option maxRecDepth 100000 in
set_option maxHeartbeats 4000000 in
theorem record_any (b slot : Nat) (log ep sq : Int) (v : Value) (xs : List Int) (w0 : World) (he : 0 ≤ ep) (hq : U32 sq) (hr : RdS (encInt .u8) 1 w0 v xs) (hb : ∀ x ∈ xs, 0 ≤ x ∧ x ≤ 255) :
    Calls Tryd.prog 28 #[layV b slot log, .int .i64 ep, .int .i64 sq, v] w0 (RecE slot ep sq xs w0) := by
  obtain ⟨A, cap, rfl, hcap⟩ := hr.len
  have H0 : SH (fun _ => False) w0 w0 [] := SH.nil _ _
  have HR := Lib.hid (And.intro hr (And.intro hb (And.intro he hq)))
  obtain ⟨n, hn⟩ : ∃ n, xs.length = n := ⟨_, rfl⟩
  have HN := Lib.hid hn
  unfold RecE
  rw [hn] at hcap ⊢
  clear hr hb he hq hn
  unfold layV
  go_enter Tryd.func28, Tryd.ntmps28
  go_upto_region 1 with (first
    | (refine L_box rfl rfl H0 rfl rfl ?_; clear H0; intro g1 w H; (try simp only [Act.eval, Array.getD_eq_getD_getElem?, List.getElem?_toArray, List.getElem?_cons_succ, List.getElem?_cons_zero, Option.getD_some, Value.cells] at H); (try simp only [Act.put, List.setIfInBounds_toArray, List.set_cons_succ, List.set_cons_zero, List.getElem_toArray, List.getElem_cons_succ, List.getElem_cons_zero])))
  by_cases h1 : 65535 < n
  · have h1i : (65535 : Int) < (n : Int) := by omega
    have hre : recErr slot ep n = 2 := by unfold recErr; rw [if_pos (.inl h1)]
    have HRE := Lib.hid hre
    clear hre
    go_wp2
    go_ret2
    rw [HRE.out]
    exact .inl ⟨by decide, rfl, H.ext⟩
  · have h1i : ¬ (65535 : Int) < (n : Int) := by omega
    by_cases h2 : 4294967295 < ep
    · have hre : recErr slot ep n = 2 := by unfold recErr; rw [if_pos (.inr h2)]
      have HRE := Lib.hid hre
      clear hre
      go_wp2
      go_ret2
      rw [HRE.out]
      exact .inl ⟨by decide, rfl, H.ext⟩
    · go_upto_region 3 with fail
      have hcnt := fun {W : World} => count_any n (by omega) W
      obtain ⟨c, hc⟩ : ∃ c, countP n = c := ⟨_, rfl⟩
      rw [hc] at hcnt
      have HC := Lib.hid hc
      clear hc
      refine D_start H (by kernel_rfl) (fun hS => ?_)
      try simp only [Act.put, List.setIfInBounds_toArray, List.set_cons_succ, List.set_cons_zero]
      refine D_take 0 (v := ?_) rfl (by kernel_rfl) (by kernel_rfl) (by kernel_rfl) (fun _ _ _ h => h) rfl (by rfl) (fun W hS => ?_) hS ?_
      rotate_left; (focus (first | (go_simp; done) | (go_simp; with_reducible rfl) | (go_simp; rfl))); all_goals skip; (try simp only [List.set_cons_succ, List.set_cons_zero])
      refine D_take 1 (v := ?_) rfl (by kernel_rfl) (by kernel_rfl) (by kernel_rfl) (fun _ _ _ h => h) rfl (by rfl) (fun W hS => ?_) hS ?_
      rotate_left; (focus (first | (go_simp; done) | (go_simp; with_reducible rfl) | (go_simp; rfl))); all_goals skip; (try simp only [List.set_cons_succ, List.set_cons_zero])
      refine D_take 3 (v := ?_) rfl (by kernel_rfl) (by kernel_rfl) (by kernel_rfl) (fun _ _ _ h => h) rfl (by rfl) (fun W hS => ?_) hS ?_
      rotate_left; (focus (first | (go_simp; done) | (go_simp; with_reducible rfl) | (go_simp; rfl))); all_goals skip; (try simp only [List.set_cons_succ, List.set_cons_zero])
      refine D_take 4 (v := ?_) rfl (by kernel_rfl) (by kernel_rfl) (by kernel_rfl) (fun _ _ _ h => h) rfl (by rfl) (fun W hS => ?_) hS ?_
      rotate_left; (focus (first | (refine R_load1 (ty := 3) (x := Operand.tmp 22) rfl hS 0 rfl rfl ?_ Tryd.isAgg3; rfl))); all_goals skip; (try simp only [List.set_cons_succ, List.set_cons_zero, List.getElem_toArray, List.getElem_cons_succ, List.getElem_cons_zero])
      refine D_one 2 rfl (by kernel_rfl) (by rfl) ?_
      refine R_call (f := 39) (args := #[.int .i64 (n : Int)]) (by first | (go_simp; done) | (go_simp; rfl)) hcnt ?_
      rintro e w9 ⟨rfl, hw9⟩
      replace hw9 := hw9.symm
      subst hw9
      refine ⟨_, rfl, hS, ?_⟩
      try simp only [Act.put, List.getElem_toArray, List.getElem_cons_succ, List.getElem_cons_zero, List.setIfInBounds_toArray, List.set_cons_succ, List.set_cons_zero]
      refine D_take 5 (v := ?_) rfl (by kernel_rfl) (by kernel_rfl) (by kernel_rfl) (fun _ _ _ h => h) rfl (by rfl) (fun W hS => ?_) hS ?_
      rotate_left; (focus (first | (go_simp; done) | (go_simp; with_reducible rfl) | (go_simp; rfl))); all_goals skip; (try simp only [List.set_cons_succ, List.set_cons_zero])
      refine D_take 6 (v := ?_) rfl (by kernel_rfl) (by kernel_rfl) (by kernel_rfl) (fun _ _ _ h => h) rfl (by rfl) (fun W hS => ?_) hS ?_
      rotate_left; (focus (first | (go_simp; done) | (go_simp; with_reducible rfl) | (go_simp; rfl))); all_goals skip; (try simp only [List.set_cons_succ, List.set_cons_zero])
      refine wpAnyH_done (by kernel_rfl) ?_ _
      clear hcnt
      have H5 := hS
      clear hS
      by_cases h3 : slot < c
      · have h3i : (slot : Int) < (c : Int) := by omega
        have hre : recErr slot ep n = 5 := by unfold recErr; rw [if_neg (by omega), HC.out, if_pos h3]
        have HRE := Lib.hid hre
        clear hre
        go_wp2
        go_ret2
        rw [HRE.out]
        exact .inl ⟨by decide, rfl, H5.ext⟩
      · have h3i : ¬ (slot : Int) < (c : Int) := by omega
        have hre : recErr slot ep n = 0 := by unfold recErr; rw [if_neg (by omega), HC.out, if_neg h3]
        have HRE := Lib.hid hre
        clear hre
        have hlay := lay_any ep sq (.slice A xs.length cap) xs _ ⟨HR.out.2.2.1, by omega⟩ HR.out.2.2.2 (HR.out.1.keep H5.ext) HR.out.2.1 (by rw [HN.out]; omega)
        rw [HN.out] at hlay
        go_wp2_with (first
          | (go_at_call 40; refine hlay.mono ?_; rintro e1 w2 ⟨va, rfl, hra, hE, hfr⟩))
        go_ret2
        rw [HRE.out]
        exact .inr ⟨rfl, va, rfl, hra, H5.ext.trans0 hE, fun j hj => Nat.le_trans H5.ext.size (hfr j hj)⟩
end Go.Proofs.YtgmeahogdjhejaaDoor
