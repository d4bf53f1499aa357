/- Catalogues: the document's With. -/
import Derived.Test.YtmfcccflohpjiaaGreatDoorCatZ
import Derived.Test.YtmfcccflohpjiaaGreatDoorCatV
import Derived.Test.YtmfcccflohpjiaaGreatDoorCatS
import Derived.Test.YtmfcccflohpjiaaGreatDoorCatX
namespace Go.Proofs.YtmfcccflohpjiaaGreatDoor
set_option linter.unusedVariables false
set_option linter.unusedSimpArgs false
open Go.RowKit

theorem wp_here {P : Program} {o : Oper} {a : Act} {w : World} {K : Act → World → Prop} {Q : Exit → Act → World → Prop} {v : Value} (hr : (execOp a.eval o).run P w = .ok (.value v) w) (k : K (a.put o.dst v) w) : o.wp P a w K Q := wp_of_value hr k
theorem find_none {s : ByteArray} {xs : List Ent} (hf : findE s xs = -1) (j : Nat) (hj : j < xs.length) : xs[j].path.toList ≠ s.toList := by
  have h := idxE_any (eqP s) xs
  rw [show idxE (eqP s) xs = -1 from hf] at h
  have h2 : xs.any (eqP s) = false := by rw [← h]; rfl
  rw [List.any_eq_false] at h2
  intro he
  exact h2 _ (List.getElem_mem hj) (by unfold eqP; simp [he])
theorem ins_prefixE {s : ByteArray} {xs : List Ent} (hf : findE s xs = -1) {n : Nat} (hn : n ≤ xs.length) (hlt : ∀ j (hj : j < n) (hj2 : j < xs.length), Op.bytesLess xs[j].path.toList s.toList = true) (hge : ∀ h : n < xs.length, Op.bytesLess xs[n].path.toList s.toList = false) : insAtE s xs = n := by
  have hlo : ∀ j (hj : j < n) (hj2 : j < xs.length), gtP s xs[j] = false := fun j hj hj2 => by
    cases h : gtP s xs[j]
    · rfl
    · exact (bl_asymm (hlt j hj hj2) h).elim
  unfold insAtE
  by_cases h : n < xs.length
  · rw [idxE_hit (pr := gtP s) h (bl_total (hge h) (find_none hf n h)) (fun j hj => hlo j hj (by omega)), if_neg (by omega), Int.toNat_natCast]
  · rw [idxE_none (pr := gtP s) (fun j hj => hlo j (by omega) hj), if_pos (by omega)]
    omega
def RestRelE (ps : List Ent) (x : Ent) (w0 : World) (L : List Asr) (s5 s6 : Value) (wc : World) : Prop :=
  ∃ N M : Nat, s5 = .int .i64 (N : Int) ∧ N ≤ ps.length ∧ M ≤ ps.length ∧ RdS eCells 6 w0 s6 (ps.drop M) ∧ Hid (ps.take N ++ x :: ps.drop M = withE ps x) ∧ SH (fun _ => False) w0 wc L
def RwRelE (s : ByteArray) (xs : List Ent) (L : List Asr) (w0 : World) (vi : Value) (wr : World) : Prop :=
  ∃ k : Nat, vi = .int .i64 (k : Int) ∧ k ≤ xs.length ∧ SH (fun _ => False) w0 wr L ∧ Hid (∀ j (hj : j < k) (hj2 : j < xs.length), Op.bytesLess xs[j].path.toList s.toList = true)
theorem rw_endE {w0 w : World} {ps tk dr : List Ent} {x : Ent} {v : Value} (hwl : tk ++ x :: dr = withE ps x)
    (h : w.ownsRow 0 39 6 v (tk.length + 1 + dr.length) ([] ++ cellsOf eCells tk ++ cellsOf eCells [x] ++ cellsOf eCells dr)) (hE : Ext0 w0 w) : GivesE w0 (withE ps x) (.returned v) w := by
  rw [← hwl]
  have hlen : tk.length + 1 + dr.length = (tk ++ x :: dr).length := by rw [List.length_append, List.length_cons]; omega
  refine ⟨v, rfl, RdS.own (base := 0) (T := 39) eLen hlen ?_, hE⟩
  have : [] ++ cellsOf eCells tk ++ cellsOf eCells [x] ++ cellsOf eCells dr = cellsOf eCells (tk ++ x :: dr) := by
    rw [cellsOf_append, List.nil_append, List.append_assoc]
    rfl
  rw [this] at h
  exact h
set_option maxRecDepth 100000 in
set_option maxHeartbeats 4000000 in
theorem refWithC_any (v : Value) (ps : List Ent) (x : Ent) (w0 : World) (hr : RdS eCells 6 w0 v ps) (hn : ps.length ≤ 1000) :
    Calls Tryz.prog 19 #[v, entV x] w0 (GivesE w0 (withE ps x)) := by
  have hfind := fun {W : World} (hE : Ext0 w0 W) => refFindC_any v ps x.path W (hr.keep hE) (by omega)
  obtain ⟨A, cap, rfl, hcap⟩ := hr.len
  obtain ⟨p, mode, time, block, at_, size⟩ := x
  simp only [entV] at hfind ⊢
  have H : SH (fun _ => False) w0 w0 [] := SH.nil _ _
  have HB := Lib.hid hr
  clear hr
  go_enter Tryz.func19, Tryz.ntmps19
  go_upto_region 1 with (first
    | (refine L_box (L := []) rfl rfl H rfl rfl ?_; clear H; intro gx w H; (try simp only [Act.eval, Array.getD_eq_getD_getElem?, List.getElem?_toArray, List.getElem?_cons_succ, List.getElem?_cons_zero, Option.getD_some, Value.cells] at H); (try simp only [Act.put, List.setIfInBounds_toArray, List.set_cons_succ, List.set_cons_zero, List.getElem_toArray, List.getElem_cons_succ, List.getElem_cons_zero])))
  go_upto_if 13 with (first
    | (refine L_load1 rfl rfl H 0 rfl rfl rfl Tryz.isAgg9 ?_; (try simp only [Act.put, List.setIfInBounds_toArray, List.set_cons_succ, List.set_cons_zero, List.getElem_toArray, List.getElem_cons_succ, List.getElem_cons_zero]))
    | (go_at_call 17; refine (hfind H.ext).mono ?_; rintro e w2 ⟨rfl, hE⟩; replace H := H.calls hE; clear hE)
    | (refine L_lit (e := 39) (cs := #[]) rfl rfl H (by intro _; first | (go_simp; done) | (go_simp; rfl)) ?_; clear H; intro ge w H; replace H := H.drop (List.sublist_cons_self _ _)))
  clear hfind
  go_cut [5, 6] from 7 to 36 (fun s5 s6 wc => RestRelE ps ⟨p, mode, time, block, at_, size⟩ w0 [pt gx (.cells #[.string p, .int .i64 mode, .int .i64 time, .int .i64 block, .int .i64 at_, .int .i64 size] 39 (0, 0))] s5 s6 wc)
  case first =>
    rcases idxE_cases (eqP p) ps with hf | ⟨k, hf, hk⟩
    case inr =>
      have hfp : findE p ps = (k : Int) := hf
      clear hf
      have hwl : ps.take k ++ ⟨p, mode, time, block, at_, size⟩ :: ps.drop (k + 1) = withE ps ⟨p, mode, time, block, at_, size⟩ := by
        unfold withE
        simp only
        rw [hfp, if_neg (by omega), Int.toNat_natCast, List.set_eq_take_append_cons_drop, if_pos hk]
      have HW := Lib.hid hwl
      rw [hfp]
      clear hwl hfp
      have hk1 : IntKind.i64.wrap ((k : Int) + 1) = (k : Int) + 1 := by rw [IntKind.wrap_i64]; omega
      have hk2 : ((k : Int) + 1).toNat = k + 1 := by omega
      have hk3 : 0 ≤ (k : Int) + 1 := by omega
      have hk4 : (k : Int) + 1 ≤ (ps.length : Int) := by omega
      obtain ⟨bb, off, cs, T, fr, rfl, _, _⟩ := ent_cells HB.out hk rfl
      have hd := HB.out.dropG (k + 1) (by omega)
      have hz : RdS eCells 6 w0 (.slice (some ⟨bb, off, none⟩) 0 0) (ps.drop ps.length) := by rw [List.drop_length]; exact RdS.nilG _ _
      have HD := Lib.hid (And.intro hd hz)
      clear hd hz
      by_cases hce : cap = k + 1
      · have hpl : ps.length = k + 1 := by omega
        have HPL := Lib.hid hpl
        subst hce
        clear hpl
        go_wp2_with fail
        go_meet
        case rel => exact ⟨k, ps.length, rfl, by omega, Nat.le_refl _, by
          have := HD.out.2
          have h9 := HPL.out
          first | exact this | (rw [h9] at this ⊢; simpa using this), by have h9 := HPL.out; rw [h9]; exact HW, H⟩
      · go_wp2_with fail
        go_meet
        case rel => exact ⟨k, k + 1, rfl, by omega, by omega, HD.out.1, HW, H⟩
    case inl =>
      have hfp : findE p ps = -1 := hf
      have HF := Lib.hid hfp
      rw [hfp]
      clear hf hfp
      go_wp2_with fail
      go_loopw [5] (fun vi wr => RwRelE p ps [pt gx (.cells #[.string p, .int .i64 mode, .int .i64 time, .int .i64 block, .int .i64 at_, .int .i64 size] 39 (0, 0))] w0 vi wr) (fun vi _ => ps.length - (intOf vi).toNat)
      case atStart => exact ⟨0, rfl, Nat.zero_le _, H, Lib.hid (fun j hj => absurd hj (Nat.not_lt_zero _))⟩
      case round =>
        clear H
        obtain ⟨k, rfl, hk, H, HA⟩ := hrel
        by_cases hkn : k < ps.length
        · have hki : (k : Int) < (ps.length : Int) := by omega
          obtain ⟨y, hy⟩ : ∃ y, ps[k] = y := ⟨_, rfl⟩
          obtain ⟨bb, off, cs, T, fr, rfl, hbb, hcs⟩ := ent_cells HB.out hkn hy
          have hpid : cs[off + k * 6]? = some (.string y.path) := by have := hcs k hkn 0 (by omega); rw [hy] at this; exact this
          have HP := Lib.hid hy
          clear hcs hy
          obtain ⟨yp, hpe⟩ : ∃ yp, y.path = yp := ⟨_, rfl⟩
          rw [hpe] at hpid
          have HPE := Lib.hid hpe
          clear hpe
          go_upto_region 6 with fail
          refine D_start H (by kernel_rfl) (fun hS => ?_)
          try simp only [Act.put, List.setIfInBounds_toArray, List.set_cons_succ, List.set_cons_zero]
          refine D_take 0 rfl (by kernel_rfl) (by kernel_rfl) (by kernel_rfl) (v := ?_) (fun _ _ _ h => h) rfl (by rfl) ?_ hS ?_
          rotate_left; (focus (intro W hS; first | (go_simp; done) | (go_simp; with_reducible rfl) | (go_simp; rfl))); all_goals skip; (try simp only [List.set_cons_succ, List.set_cons_zero])
          refine D_take 1 rfl (by kernel_rfl) (by kernel_rfl) (by kernel_rfl) (v := ?_) (fun _ _ _ h => h) rfl (by rfl) ?_ hS ?_
          rotate_left; (focus (intro W hS; first | (go_simp; done) | (go_simp; with_reducible rfl) | (go_simp; rfl))); all_goals skip; (try simp only [List.set_cons_succ, List.set_cons_zero])
          refine D_take 2 rfl (by kernel_rfl) (by kernel_rfl) (by kernel_rfl) (v := ?_) (fun _ _ _ h => h) rfl (by rfl) ?_ hS ?_
          rotate_left; (focus (intro W hS; first | (go_simp; done) | (go_simp; with_reducible rfl) | (go_simp; rfl))); all_goals skip; (try simp only [List.set_cons_succ, List.set_cons_zero])
          refine D_takeB 3 rfl (by kernel_rfl) (by kernel_rfl) (by kernel_rfl) (q := ?_) (fun _ _ _ h => h) rfl (by rfl) hS ?_ ?_
          rotate_left; (focus (intro W hS; first | (go_simp; done) | (go_simp; with_reducible rfl) | (go_simp; rfl))); all_goals skip; (try simp only [List.set_cons_succ, List.set_cons_zero])
          intro cw3 Hcw3
          refine D_take 4 rfl (by kernel_rfl) (by kernel_rfl) (by kernel_rfl) (v := ?_) (fun _ _ _ h => h) rfl (by rfl) ?_ hS ?_
          rotate_left; (focus (intro W hS; first | (go_simp; done) | (go_simp; with_reducible rfl) | (go_simp; rfl))); all_goals skip; (try simp only [List.set_cons_succ, List.set_cons_zero])
          refine D_maybe 5 cw3 rfl (by kernel_rfl) (by kernel_rfl) (by kernel_rfl) (v := ?_) (fun _ _ _ _ h => h) rfl (by cases cw3 <;> rfl) hS ?_ ?_
          rotate_left; (focus (intro hb; intro W hS; (try simp only [Bool.and_eq_true, Bool.not_eq_true'] at hb); have hb0 := hb; (try simp only [hb0, Bool.not_false, Bool.not_true, Bool.and_true, Bool.true_and, Bool.and_self, cond_true, cond_false]); first | (go_simp; done) | (go_simp; with_reducible rfl) | (go_simp; rfl))); all_goals skip; (try simp only [List.set_cons_succ, List.set_cons_zero])
          refine D_maybe 6 cw3 rfl (by kernel_rfl) (by kernel_rfl) (by kernel_rfl) (v := ?_) (fun _ _ _ _ h => h) rfl (by cases cw3 <;> rfl) hS ?_ ?_
          rotate_left; (focus (intro hb; intro W hS; (try simp only [Bool.and_eq_true, Bool.not_eq_true'] at hb); have hb0 := hb; (try simp only [hb0, Bool.not_false, Bool.not_true, Bool.and_true, Bool.true_and, Bool.and_self, cond_true, cond_false]); first | (go_simp; done) | (go_simp; with_reducible rfl) | (go_simp; rfl))); all_goals skip; (try simp only [List.set_cons_succ, List.set_cons_zero])
          refine D_maybe 7 cw3 rfl (by kernel_rfl) (by kernel_rfl) (by kernel_rfl) (v := ?_) (fun _ _ _ _ h => h) rfl (by cases cw3 <;> rfl) hS ?_ ?_
          rotate_left; (focus (intro hb; intro W hS; (try simp only [Bool.and_eq_true, Bool.not_eq_true'] at hb); have hb0 := hb; (try simp only [hb0, Bool.not_false, Bool.not_true, Bool.and_true, Bool.true_and, Bool.and_self, cond_true, cond_false]); first | (go_simp; done) | (go_simp; with_reducible rfl) | (go_simp; rfl))); all_goals skip; (try simp only [List.set_cons_succ, List.set_cons_zero])
          refine D_maybe 8 cw3 rfl (by kernel_rfl) (by kernel_rfl) (by kernel_rfl) (v := ?_) (fun _ _ _ _ h => h) rfl (by cases cw3 <;> rfl) hS ?_ ?_
          rotate_left; (focus (intro hb; intro W hS; (try simp only [Bool.and_eq_true, Bool.not_eq_true'] at hb); have hb0 := hb; (try simp only [hb0, Bool.not_false, Bool.not_true, Bool.and_true, Bool.true_and, Bool.and_self, cond_true, cond_false]); first | (go_simp; done) | (go_simp; with_reducible rfl) | (go_simp; rfl))); all_goals skip; (try simp only [List.set_cons_succ, List.set_cons_zero])
          refine D_maybe 9 cw3 rfl (by kernel_rfl) (by kernel_rfl) (by kernel_rfl) (v := (.string yp)) (fun _ _ _ _ h => h) rfl (by cases cw3 <;> rfl) hS ?_ ?_
          (focus (intro hb; intro W hS; (try simp only [Bool.and_eq_true, Bool.not_eq_true'] at hb); have hb0 := hb; (try simp only [hb0, Bool.not_false, Bool.not_true, Bool.and_true, Bool.true_and, Bool.and_self, cond_true, cond_false]); exact R_load1r (ty := 9) (x := .tmp 26) (off := off + k * 6) rfl hS rfl hbb (fun e => e) hpid Tryz.isAgg9)); all_goals skip; (try simp only [List.set_cons_succ, List.set_cons_zero, List.getElem_toArray, List.getElem_cons_succ, List.getElem_cons_zero])
          refine D_maybe 10 cw3 rfl (by kernel_rfl) (by kernel_rfl) (by kernel_rfl) (v := ?_) (fun _ _ _ _ h => h) rfl (by cases cw3 <;> rfl) hS ?_ ?_
          rotate_left; (focus (intro hb; intro W hS; (try simp only [Bool.and_eq_true, Bool.not_eq_true'] at hb); have hb0 := hb; (try simp only [hb0, Bool.not_false, Bool.not_true, Bool.and_true, Bool.true_and, Bool.and_self, cond_true, cond_false]); first | (go_simp; done) | (go_simp; with_reducible rfl) | (go_simp; rfl))); all_goals skip; (try simp only [List.set_cons_succ, List.set_cons_zero])
          refine D_maybe 11 cw3 rfl (by kernel_rfl) (by kernel_rfl) (by kernel_rfl) (v := ?_) (fun _ _ _ _ h => h) rfl (by cases cw3 <;> rfl) hS ?_ ?_
          rotate_left; (focus (intro hb; intro W hS; (try simp only [Bool.and_eq_true, Bool.not_eq_true'] at hb); have hb0 := hb; (try simp only [hb0, Bool.not_false, Bool.not_true, Bool.and_true, Bool.true_and, Bool.and_self, cond_true, cond_false]); first | (refine R_load1 (ty := 9) (x := Operand.tmp 28) rfl hS 0 rfl rfl ?_ Tryz.isAgg9; rfl))); all_goals skip; (try simp only [List.set_cons_succ, List.set_cons_zero, List.getElem_toArray, List.getElem_cons_succ, List.getElem_cons_zero])
          refine D_maybeB 12 cw3 rfl (by kernel_rfl) (by kernel_rfl) (by kernel_rfl) (q := (Op.bytesLess yp.toList p.toList)) (fun _ _ _ _ h => h) rfl (by cases cw3 <;> rfl) hS ?_ ?_
          (focus (intro hb; intro W hS; (try simp only [Bool.and_eq_true, Bool.not_eq_true'] at hb); have hb0 := hb; (try simp only [hb0, Bool.not_false, Bool.not_true, Bool.and_true, Bool.true_and, Bool.and_self, cond_true, cond_false]); first | (go_simp; done) | (go_simp; rfl))); all_goals skip; (try simp only [List.set_cons_succ, List.set_cons_zero])
          intro cw12 Hcw12
          refine D_takeB 13 rfl (by kernel_rfl) (by kernel_rfl) (by kernel_rfl) (q := (cw3 && cw12)) (fun _ _ _ h => h) rfl (by rfl) hS ?_ ?_
          (focus (intro W hS; cases cw12 <;> cases cw3 <;> (first | (go_simp; done) | (go_simp; with_reducible rfl) | (go_simp; rfl)))); all_goals skip; (try simp only [List.set_cons_succ, List.set_cons_zero])
          intro cw13 Hcw13
          have hcnd := Hcw13.out
          simp only [Hcw3.out, Hcw12.out] at hcnd
          replace hcnd := Lib.hid hcnd
          clear Hcw13 Hcw3 Hcw12
          refine wpAnyH_done (by kernel_rfl) ?_ _
          clear H
          have H := hS
          clear hS
          have hcc : cw13 = Op.bytesLess yp.toList p.toList := by rw [hcnd.out]; simp
          have HCC := Lib.hid hcc
          clear hcnd hcc
          have hbk : ps[k].path.toList = yp.toList := by rw [HP.out, HPE.out]
          have HBK := Lib.hid hbk
          clear hbk
          cases cw13
          · have HGE := Lib.hid (show ∀ h : k < ps.length, Op.bytesLess ps[k].path.toList p.toList = false from fun h => by rw [HBK.out]; exact HCC.out.symm)
            have hins := ins_prefixE HF.out (n := k) (by omega) HA.out HGE.out
            have hwl : ps.take k ++ ⟨p, mode, time, block, at_, size⟩ :: ps.drop k = withE ps ⟨p, mode, time, block, at_, size⟩ := by
              unfold withE
              simp only
              rw [HF.out, if_pos (by omega), hins]
            have HW := Lib.hid hwl
            clear hwl hins
            have hd := HB.out.dropG k (by omega)
            have HD := Lib.hid hd
            have hcne : ¬ (cap = k) := by omega
            have hki2 : (k : Int) ≤ (ps.length : Int) := by omega
            clear hd
            go_wp2_with fail
            go_meet
            case rel => exact ⟨k, k, rfl, by omega, by omega, HD.out, HW, H⟩
          · go_wp2_with fail
            go_roundw
            case rel => exact ⟨k + 1, by go_num, by omega, H, Lib.hid (fun j hj hj2 => by
              by_cases hjk : j < k
              · exact HA.out j hjk hj2
              · obtain rfl : j = k := by omega
                rw [HBK.out]
                exact HCC.out.symm)⟩
            case measure => simp [intOf]; omega
        · obtain rfl : k = ps.length := by omega
          have hjn2 : ¬ ((ps.length : Int) < (ps.length : Int)) := by omega
          have HGE := Lib.hid (show ∀ h : ps.length < ps.length, Op.bytesLess ps[ps.length].path.toList p.toList = false from fun h => by omega)
          have hins := ins_prefixE HF.out (n := ps.length) (by omega) HA.out HGE.out
          have hwl : ps.take ps.length ++ ⟨p, mode, time, block, at_, size⟩ :: ps.drop ps.length = withE ps ⟨p, mode, time, block, at_, size⟩ := by
            unfold withE
            simp only
            rw [HF.out, if_pos (by omega), hins]
          have HW := Lib.hid hwl
          clear hwl hins
          go_upto_region 6 with fail
          refine D_start H (by kernel_rfl) (fun hS => ?_)
          try simp only [Act.put, List.setIfInBounds_toArray, List.set_cons_succ, List.set_cons_zero]
          refine D_take 0 rfl (by kernel_rfl) (by kernel_rfl) (by kernel_rfl) (v := ?_) (fun _ _ _ h => h) rfl (by rfl) ?_ hS ?_
          rotate_left; (focus (intro W hS; first | (go_simp; done) | (go_simp; with_reducible rfl) | (go_simp; rfl))); all_goals skip; (try simp only [List.set_cons_succ, List.set_cons_zero])
          refine D_take 1 rfl (by kernel_rfl) (by kernel_rfl) (by kernel_rfl) (v := ?_) (fun _ _ _ h => h) rfl (by rfl) ?_ hS ?_
          rotate_left; (focus (intro W hS; first | (go_simp; done) | (go_simp; with_reducible rfl) | (go_simp; rfl))); all_goals skip; (try simp only [List.set_cons_succ, List.set_cons_zero])
          refine D_take 2 rfl (by kernel_rfl) (by kernel_rfl) (by kernel_rfl) (v := ?_) (fun _ _ _ h => h) rfl (by rfl) ?_ hS ?_
          rotate_left; (focus (intro W hS; first | (go_simp; done) | (go_simp; with_reducible rfl) | (go_simp; rfl))); all_goals skip; (try simp only [List.set_cons_succ, List.set_cons_zero])
          refine D_takeB 3 rfl (by kernel_rfl) (by kernel_rfl) (by kernel_rfl) (q := ?_) (fun _ _ _ h => h) rfl (by rfl) hS ?_ ?_
          rotate_left; (focus (intro W hS; first | (go_simp; done) | (go_simp; with_reducible rfl) | (go_simp; rfl))); all_goals skip; (try simp only [List.set_cons_succ, List.set_cons_zero])
          intro cw3 Hcw3
          refine D_take 4 rfl (by kernel_rfl) (by kernel_rfl) (by kernel_rfl) (v := ?_) (fun _ _ _ h => h) rfl (by rfl) ?_ hS ?_
          rotate_left; (focus (intro W hS; first | (go_simp; done) | (go_simp; with_reducible rfl) | (go_simp; rfl))); all_goals skip; (try simp only [List.set_cons_succ, List.set_cons_zero])
          refine D_maybe 5 cw3 rfl (by kernel_rfl) (by kernel_rfl) (by kernel_rfl) (v := ?_) (fun _ _ _ _ h => h) rfl (by cases cw3 <;> rfl) hS ?_ ?_
          rotate_left; (focus (intro hb; intro W hS; (try simp only [Bool.and_eq_true, Bool.not_eq_true'] at hb); have hb0 := hb; (try simp only [hb0, Bool.not_false, Bool.not_true, Bool.and_true, Bool.true_and, Bool.and_self, cond_true, cond_false]); first | (go_simp; done) | (go_simp; with_reducible rfl) | (go_simp; rfl))); all_goals skip; (try simp only [List.set_cons_succ, List.set_cons_zero])
          refine D_maybe 6 cw3 rfl (by kernel_rfl) (by kernel_rfl) (by kernel_rfl) (v := ?_) (fun _ _ _ _ h => h) rfl (by cases cw3 <;> rfl) hS ?_ ?_
          rotate_left; (focus (intro hb; intro W hS; (try simp only [Bool.and_eq_true, Bool.not_eq_true'] at hb); have hb0 := hb; (try simp only [hb0, Bool.not_false, Bool.not_true, Bool.and_true, Bool.true_and, Bool.and_self, cond_true, cond_false]); first | (go_simp; done) | (go_simp; with_reducible rfl) | (go_simp; rfl))); all_goals skip; (try simp only [List.set_cons_succ, List.set_cons_zero])
          refine D_maybe 7 cw3 rfl (by kernel_rfl) (by kernel_rfl) (by kernel_rfl) (v := undef) (fun _ _ _ _ h => h) rfl (by cases cw3 <;> rfl) hS ?_ ?_
          (focus (intro hb; intro W hS; (try simp only [Bool.and_eq_true, Bool.not_eq_true'] at hb); have hb0 := hb; (try simp only [hb0, Bool.not_false, Bool.not_true, Bool.and_true, Bool.true_and, Bool.and_self, cond_true, cond_false]); exfalso; exact absurd (hb0.symm.trans Hcw3.out) (by decide))); all_goals skip; (try simp only [List.set_cons_succ, List.set_cons_zero])
          refine D_maybe 8 cw3 rfl (by kernel_rfl) (by kernel_rfl) (by kernel_rfl) (v := undef) (fun _ _ _ _ h => h) rfl (by cases cw3 <;> rfl) hS ?_ ?_
          (focus (intro hb; intro W hS; (try simp only [Bool.and_eq_true, Bool.not_eq_true'] at hb); have hb0 := hb; (try simp only [hb0, Bool.not_false, Bool.not_true, Bool.and_true, Bool.true_and, Bool.and_self, cond_true, cond_false]); exfalso; exact absurd (hb0.symm.trans Hcw3.out) (by decide))); all_goals skip; (try simp only [List.set_cons_succ, List.set_cons_zero])
          refine D_maybe 9 cw3 rfl (by kernel_rfl) (by kernel_rfl) (by kernel_rfl) (v := undef) (fun _ _ _ _ h => h) rfl (by cases cw3 <;> rfl) hS ?_ ?_
          (focus (intro hb; intro W hS; (try simp only [Bool.and_eq_true, Bool.not_eq_true'] at hb); have hb0 := hb; (try simp only [hb0, Bool.not_false, Bool.not_true, Bool.and_true, Bool.true_and, Bool.and_self, cond_true, cond_false]); exfalso; exact absurd (hb0.symm.trans Hcw3.out) (by decide))); all_goals skip; (try simp only [List.set_cons_succ, List.set_cons_zero, List.getElem_toArray, List.getElem_cons_succ, List.getElem_cons_zero])
          refine D_maybe 10 cw3 rfl (by kernel_rfl) (by kernel_rfl) (by kernel_rfl) (v := ?_) (fun _ _ _ _ h => h) rfl (by cases cw3 <;> rfl) hS ?_ ?_
          rotate_left; (focus (intro hb; intro W hS; (try simp only [Bool.and_eq_true, Bool.not_eq_true'] at hb); have hb0 := hb; (try simp only [hb0, Bool.not_false, Bool.not_true, Bool.and_true, Bool.true_and, Bool.and_self, cond_true, cond_false]); first | (go_simp; done) | (go_simp; with_reducible rfl) | (go_simp; rfl))); all_goals skip; (try simp only [List.set_cons_succ, List.set_cons_zero])
          refine D_maybe 11 cw3 rfl (by kernel_rfl) (by kernel_rfl) (by kernel_rfl) (v := ?_) (fun _ _ _ _ h => h) rfl (by cases cw3 <;> rfl) hS ?_ ?_
          rotate_left; (focus (intro hb; intro W hS; (try simp only [Bool.and_eq_true, Bool.not_eq_true'] at hb); have hb0 := hb; (try simp only [hb0, Bool.not_false, Bool.not_true, Bool.and_true, Bool.true_and, Bool.and_self, cond_true, cond_false]); first | (refine R_load1 (ty := 9) (x := Operand.tmp 28) rfl hS 0 rfl rfl ?_ Tryz.isAgg9; rfl))); all_goals skip; (try simp only [List.set_cons_succ, List.set_cons_zero, List.getElem_toArray, List.getElem_cons_succ, List.getElem_cons_zero])
          refine D_maybeB 12 cw3 rfl (by kernel_rfl) (by kernel_rfl) (by kernel_rfl) (q := false) (fun _ _ _ _ h => h) rfl (by cases cw3 <;> rfl) hS ?_ ?_
          (focus (intro hb; intro W hS; (try simp only [Bool.and_eq_true, Bool.not_eq_true'] at hb); have hb0 := hb; (try simp only [hb0, Bool.not_false, Bool.not_true, Bool.and_true, Bool.true_and, Bool.and_self, cond_true, cond_false]); exfalso; exact absurd (hb0.symm.trans Hcw3.out) (by decide))); all_goals skip; (try simp only [List.set_cons_succ, List.set_cons_zero])
          intro cw12 Hcw12
          refine D_takeB 13 rfl (by kernel_rfl) (by kernel_rfl) (by kernel_rfl) (q := (cw3 && cw12)) (fun _ _ _ h => h) rfl (by rfl) hS ?_ ?_
          (focus (intro W hS; cases cw12 <;> cases cw3 <;> (first | (go_simp; done) | (go_simp; with_reducible rfl) | (go_simp; rfl)))); all_goals skip; (try simp only [List.set_cons_succ, List.set_cons_zero])
          intro cw13 Hcw13
          have hcnd := Hcw13.out
          simp only [Hcw3.out, Hcw12.out] at hcnd
          replace hcnd := Lib.hid hcnd
          clear Hcw13 Hcw3 Hcw12
          refine wpAnyH_done (by kernel_rfl) ?_ _
          clear H
          have H := hS
          clear hS
          have hcc : cw13 = false := by rw [hcnd.out]; simp
          subst hcc
          clear hcnd
          have hz : ∀ A c, RdS eCells 6 w0 (.slice A 0 c) (ps.drop ps.length) := fun A c => by rw [List.drop_length]; exact RdS.nilG _ _
          have HZ := Lib.hid hz
          clear hz
          have hpl : ∃ np, ps.length = np := ⟨_, rfl⟩
          cases A with
          | none =>
            have hp0 : ps = [] := by
              obtain ⟨A', c', he, hc, h | ⟨b, off, cs, T, fr, h, _⟩⟩ := HB.out
              · exact h
              · cases he; cases h
            subst hp0
            go_wp2_with fail
            all_goals (go_meet; exact ⟨0, 0, rfl, Nat.le_refl _, Nat.le_refl _, HZ.out _ _, HW, H⟩)
          | some ad =>
            by_cases hce : cap = ps.length
            · subst hce
              go_wp2_with fail
              go_meet
              case rel => exact ⟨ps.length, ps.length, rfl, Nat.le_refl _, Nat.le_refl _, HZ.out _ _, HW, H⟩
            · go_wp2_with fail
              go_meet
              case rel => exact ⟨ps.length, ps.length, rfl, Nat.le_refl _, Nat.le_refl _, by first | exact HZ.out _ _ | (rw [Nat.sub_self]; exact HZ.out _ _), HW, H⟩
  case rest =>
    obtain ⟨N, M, rfl, hN, hM, hrest, HWL, H⟩ := hcut
    have hNi : (N : Int) ≤ (ps.length : Int) := by omega
    have hNc : N ≤ cap := by omega
    have hNci : (N : Int) ≤ (cap : Int) := by omega
    have htake := HB.out.takeG N hN
    obtain ⟨Ar, cr, hre, hrc⟩ := hrest.len
    subst hre
    have HR := Lib.hid (And.intro htake hrest)
    clear htake hrest
    have hb1 : (0 + (ps.take N).length) * 56 ≤ 140737488355328 := by rw [List.length_take]; omega
    have hm1 : 0 + (ps.take N).length ≤ maxLen := by rw [List.length_take]; simp only [maxLen]; omega
    have hb2 : (0 + (ps.take N).length + 1) * 56 ≤ 140737488355328 := by rw [List.length_take]; omega
    have hm2 : 0 + (ps.take N).length + 1 ≤ maxLen := by rw [List.length_take]; simp only [maxLen]; omega
    have hb3 : ((ps.take N).length + 1 + (ps.drop M).length) * 56 ≤ 140737488355328 := by rw [List.length_take, List.length_drop]; omega
    have hm3 : (ps.take N).length + 1 + (ps.drop M).length ≤ maxLen := by rw [List.length_take, List.length_drop]; simp only [maxLen]; omega
    have HT : Hid (∀ tk dr, ps.take N = tk → ps.drop M = dr → tk ++ ⟨p, mode, time, block, at_, size⟩ :: dr = withE ps ⟨p, mode, time, block, at_, size⟩) := Lib.hid (fun tk dr h1 h2 => by rw [← h1, ← h2]; exact HWL.out)
    clear HWL
    generalize hT : ps.take N = tk at *
    generalize hD : ps.drop M = dr at *
    replace HT := Lib.hid (HT.out tk dr rfl rfl)
    go_upto_region 9 with fail
    have HX9 := H
    have HW := H.drew
    clear H
    refine D_startX 10 #[false, false, false, false, false, false, false, false, false, false, false] (by kernel_rfl) HX9 (by kernel_rfl) (fun hS => ?_)
    try simp only [Act.put, List.setIfInBounds_toArray, List.set_cons_succ, List.set_cons_zero]
    refine D_freeX 1 #[false, true, false, false, false, false, false, false, false, false, false] (by kernel_rfl) (v := ?_) rfl (by kernel_rfl) (by kernel_rfl) (by kernel_rfl) (by kernel_rfl) (fun _ _ _ h => h) rfl (by rfl) (fun W => ?_) hS ?_
    rotate_left; (focus (first | (go_simp; done) | (go_simp; with_reducible rfl) | (go_simp; rfl))); all_goals skip; (try simp only [List.set_cons_succ, List.set_cons_zero])
    refine D_freeX 2 #[false, true, true, false, false, false, false, false, false, false, false] (by kernel_rfl) (v := ?_) rfl (by kernel_rfl) (by kernel_rfl) (by kernel_rfl) (by kernel_rfl) (fun _ _ _ h => h) rfl (by rfl) (fun W => ?_) hS ?_
    rotate_left; (focus (first | (go_simp; done) | (go_simp; with_reducible rfl) | (go_simp; rfl))); all_goals skip; (try simp only [List.set_cons_succ, List.set_cons_zero])
    refine D_freeX 3 #[false, true, true, true, false, false, false, false, false, false, false] (by kernel_rfl) (v := ?_) rfl (by kernel_rfl) (by kernel_rfl) (by kernel_rfl) (by kernel_rfl) (fun _ _ _ h => h) rfl (by rfl) (fun W => ?_) hS ?_
    rotate_left; (focus (first | (go_simp; done) | (go_simp; with_reducible rfl) | (go_simp; rfl))); all_goals skip; (try simp only [List.set_cons_succ, List.set_cons_zero])
    refine D_takeX 5 #[false, true, true, true, false, true, false, false, false, false, false] (by kernel_rfl) (v := (.agg #[.string p, .int .i64 mode, .int .i64 time, .int .i64 block, .int .i64 at_, .int .i64 size])) rfl (by kernel_rfl) (by kernel_rfl) (by kernel_rfl) (by kernel_rfl) (by kernel_rfl) (fun _ _ _ h => h) rfl (by rfl) (fun W hS => R_loadrow (ty := 39) (x := .tmp 3) rfl hS 0 rfl rfl Tryz.underlying39 rfl info39 rfl) hS ?_; (try simp only [List.set_cons_succ, List.set_cons_zero])
    refine D_freeX 8 #[false, true, true, true, false, true, false, false, true, false, false] (by kernel_rfl) (v := ?_) rfl (by kernel_rfl) (by kernel_rfl) (by kernel_rfl) (by kernel_rfl) (fun _ _ _ h => h) rfl (by rfl) (fun W => ?_) hS ?_
    rotate_left; (focus (first | (go_simp; done) | (go_simp; with_reducible rfl) | (go_simp; rfl))); all_goals skip; (try simp only [List.set_cons_succ, List.set_cons_zero])
    refine D_twoX 0 6 #[true, true, true, true, false, true, false, false, true, false, false] #[false, true, true, true, false, true, true, false, true, false, false] (by kernel_rfl) (by kernel_rfl) rfl rfl (by kernel_rfl) (by rfl) (by rfl) ?_ ?_
    ·
      refine W_litE (e := 39) (cs := #[]) rfl HW (by intro _; first | (go_simp; done) | (go_simp; rfl)) ?_
      intro ge w' HW5 hE
      have HW6 := HW5.toOwn 0 rfl 6 0 0 (Nat.le_refl _) (Nat.zero_le _) rfl [] rfl
      simp only [List.set_cons_zero] at HW6
      clear HW HW5 hE
      have HW := HW6
      clear HW6
      clear hS
      have hS := HW.drop (L' := [_]) (List.Sublist.cons _ (List.Sublist.cons_cons _ (List.nil_sublist _)))
      refine ⟨hS, ?_⟩
      try simp only [Act.put, List.getElem_toArray, List.getElem_cons_succ, List.getElem_cons_zero, List.setIfInBounds_toArray, List.set_cons_succ, List.set_cons_zero]
      refine D_twoX 4 6 #[true, true, true, true, true, true, false, false, true, false, false] #[true, true, true, true, false, true, true, false, true, false, false] (by kernel_rfl) (by kernel_rfl) rfl rfl (by kernel_rfl) (by rfl) (by rfl) ?_ ?_
      ·
        refine W_append eLen eOne (s := .tmp 37) (x := .tmp 40) (xv := .slice A N cap) (ys := tk) rfl Tryz.underlying22 infoEZ rfl (by decide) HW 0 rfl rfl rfl (HR.out.1.keep HW.ext) hb1 hm1 ?_
        intro vn w' HW7 hnn
        simp only [List.set_cons_succ, List.set_cons_zero] at HW7
        clear HW hnn
        have HW := HW7
        clear HW7 hS
        have hS := HW.drop (L' := [_]) (List.Sublist.cons _ (List.Sublist.cons_cons _ (List.nil_sublist _)))
        refine ⟨hS, ?_⟩
        try simp only [Act.put, List.getElem_toArray, List.getElem_cons_succ, List.getElem_cons_zero, List.setIfInBounds_toArray, List.set_cons_succ, List.set_cons_zero]
        refine D_oneX 6 #[true, true, true, true, true, true, true, false, true, false, false] (by kernel_rfl) rfl (by kernel_rfl) (by rfl) ?_
        refine W_litE (e := 39) (cs := #[.string p, .int .i64 mode, .int .i64 time, .int .i64 block, .int .i64 at_, .int .i64 size]) rfl HW (by intro _; first | (go_simp; done) | (go_simp; rfl)) ?_
        intro gl w' HW6 hE
        clear HW hE
        have HW := HW6
        clear HW6
        clear hS
        have hS := HW.drop (L' := [_]) (List.Sublist.cons _ (List.Sublist.cons _ (List.Sublist.cons_cons _ (List.nil_sublist _))))
        refine ⟨hS, ?_⟩
        try simp only [Act.put, List.getElem_toArray, List.getElem_cons_succ, List.getElem_cons_zero, List.setIfInBounds_toArray, List.set_cons_succ, List.set_cons_zero]
        refine D_oneX 7 #[true, true, true, true, true, true, true, true, true, false, false] (by kernel_rfl) rfl (by kernel_rfl) (by rfl) ?_
        refine W_append eLen eOne (s := .tmp 41) (x := .tmp 43) (xv := .slice (some ⟨gl, 0, none⟩) 1 1) (ys := [⟨p, mode, time, block, at_, size⟩]) rfl Tryz.underlying22 infoEZ rfl (by decide) HW 1 rfl rfl rfl (oneEnt ⟨p, mode, time, block, at_, size⟩ (HW.at_ 0 rfl)) hb2 hm2 ?_
        intro vn2 w' HW7 hnn
        simp only [List.set_cons_succ, List.set_cons_zero, List.length_cons, List.length_nil, Nat.zero_add] at HW7
        clear HW hnn
        have HW := HW7
        clear HW7 hS
        have hS := HW.drop (L' := [_]) (List.Sublist.cons _ (List.Sublist.cons _ (List.Sublist.cons_cons _ (List.nil_sublist _))))
        refine ⟨hS, ?_⟩
        try simp only [Act.put, List.getElem_toArray, List.getElem_cons_succ, List.getElem_cons_zero, List.setIfInBounds_toArray, List.set_cons_succ, List.set_cons_zero]
        refine D_oneX 9 #[true, true, true, true, true, true, true, true, true, true, false] (by kernel_rfl) rfl (by kernel_rfl) (by rfl) ?_
        refine W_append eLen eOne (s := .tmp 44) (x := .tmp 45) (xv := .slice Ar dr.length cr) (ys := dr) rfl Tryz.underlying22 infoEZ rfl (by decide) HW 1 rfl rfl rfl (HR.out.2.keep HW.ext) hb3 hm3 ?_
        intro vn3 w' HW7 hnn
        simp only [List.set_cons_succ, List.set_cons_zero] at HW7
        clear HW hnn
        have HW := HW7
        clear HW7 hS
        have hS := HW.drop (L' := [_]) (List.Sublist.cons _ (List.Sublist.cons _ (List.Sublist.cons_cons _ (List.nil_sublist _))))
        refine ⟨hS, ?_⟩
        try simp only [Act.put, List.getElem_toArray, List.getElem_cons_succ, List.getElem_cons_zero, List.setIfInBounds_toArray, List.set_cons_succ, List.set_cons_zero]
        refine D_pX #[true, true, true, true, true, true, true, true, true, true, true] (by kernel_rfl) rfl (by kernel_rfl) (by rfl) ?_
        refine wp_here (v := ?_) ?_ ?_; rotate_left; (focus (first | (go_simp; done) | (go_simp; with_reducible rfl) | (go_simp; rfl))); all_goals skip
        try simp only [Act.put, List.getElem_toArray, List.getElem_cons_succ, List.getElem_cons_zero, List.setIfInBounds_toArray, List.set_cons_succ, List.set_cons_zero]
        refine wpAnyX_done (by kernel_rfl) ?_ _
        have H := HW.drop (L' := [_, _]) (List.Sublist.cons _ (List.Sublist.cons_cons _ (List.Sublist.cons_cons _ (List.nil_sublist _))))
        clear HW
        go_wp2_with fail
        go_ret
        exact rw_endE HT.out (H.get 0 rfl) H.ext
      ·
        refine W_litE (e := 39) (cs := #[.string p, .int .i64 mode, .int .i64 time, .int .i64 block, .int .i64 at_, .int .i64 size]) rfl HW (by intro _; first | (go_simp; done) | (go_simp; rfl)) ?_
        intro gl w' HW6 hE
        clear HW hE
        have HW := HW6
        clear HW6
        clear hS
        have hS := HW.drop (L' := [_]) (List.Sublist.cons _ (List.Sublist.cons _ (List.Sublist.cons_cons _ (List.nil_sublist _))))
        refine ⟨hS, ?_⟩
        try simp only [Act.put, List.getElem_toArray, List.getElem_cons_succ, List.getElem_cons_zero, List.setIfInBounds_toArray, List.set_cons_succ, List.set_cons_zero]
        refine D_oneX 4 #[true, true, true, true, true, true, true, false, true, false, false] (by kernel_rfl) rfl (by kernel_rfl) (by rfl) ?_
        refine W_append eLen eOne (s := .tmp 37) (x := .tmp 40) (xv := .slice A N cap) (ys := tk) rfl Tryz.underlying22 infoEZ rfl (by decide) HW 1 rfl rfl rfl (HR.out.1.keep HW.ext) hb1 hm1 ?_
        intro vn w' HW7 hnn
        simp only [List.set_cons_succ, List.set_cons_zero] at HW7
        clear HW hnn
        have HW := HW7
        clear HW7 hS
        have hS := HW.drop (L' := [_]) (List.Sublist.cons _ (List.Sublist.cons _ (List.Sublist.cons_cons _ (List.nil_sublist _))))
        refine ⟨hS, ?_⟩
        try simp only [Act.put, List.getElem_toArray, List.getElem_cons_succ, List.getElem_cons_zero, List.setIfInBounds_toArray, List.set_cons_succ, List.set_cons_zero]
        refine D_oneX 7 #[true, true, true, true, true, true, true, true, true, false, false] (by kernel_rfl) rfl (by kernel_rfl) (by rfl) ?_
        refine W_append eLen eOne (s := .tmp 41) (x := .tmp 43) (xv := .slice (some ⟨gl, 0, none⟩) 1 1) (ys := [⟨p, mode, time, block, at_, size⟩]) rfl Tryz.underlying22 infoEZ rfl (by decide) HW 1 rfl rfl rfl (oneEnt ⟨p, mode, time, block, at_, size⟩ (HW.at_ 0 rfl)) hb2 hm2 ?_
        intro vn2 w' HW7 hnn
        simp only [List.set_cons_succ, List.set_cons_zero, List.length_cons, List.length_nil, Nat.zero_add] at HW7
        clear HW hnn
        have HW := HW7
        clear HW7 hS
        have hS := HW.drop (L' := [_]) (List.Sublist.cons _ (List.Sublist.cons _ (List.Sublist.cons_cons _ (List.nil_sublist _))))
        refine ⟨hS, ?_⟩
        try simp only [Act.put, List.getElem_toArray, List.getElem_cons_succ, List.getElem_cons_zero, List.setIfInBounds_toArray, List.set_cons_succ, List.set_cons_zero]
        refine D_oneX 9 #[true, true, true, true, true, true, true, true, true, true, false] (by kernel_rfl) rfl (by kernel_rfl) (by rfl) ?_
        refine W_append eLen eOne (s := .tmp 44) (x := .tmp 45) (xv := .slice Ar dr.length cr) (ys := dr) rfl Tryz.underlying22 infoEZ rfl (by decide) HW 1 rfl rfl rfl (HR.out.2.keep HW.ext) hb3 hm3 ?_
        intro vn3 w' HW7 hnn
        simp only [List.set_cons_succ, List.set_cons_zero] at HW7
        clear HW hnn
        have HW := HW7
        clear HW7 hS
        have hS := HW.drop (L' := [_]) (List.Sublist.cons _ (List.Sublist.cons _ (List.Sublist.cons_cons _ (List.nil_sublist _))))
        refine ⟨hS, ?_⟩
        try simp only [Act.put, List.getElem_toArray, List.getElem_cons_succ, List.getElem_cons_zero, List.setIfInBounds_toArray, List.set_cons_succ, List.set_cons_zero]
        refine D_pX #[true, true, true, true, true, true, true, true, true, true, true] (by kernel_rfl) rfl (by kernel_rfl) (by rfl) ?_
        refine wp_here (v := ?_) ?_ ?_; rotate_left; (focus (first | (go_simp; done) | (go_simp; with_reducible rfl) | (go_simp; rfl))); all_goals skip
        try simp only [Act.put, List.getElem_toArray, List.getElem_cons_succ, List.getElem_cons_zero, List.setIfInBounds_toArray, List.set_cons_succ, List.set_cons_zero]
        refine wpAnyX_done (by kernel_rfl) ?_ _
        have H := HW.drop (L' := [_, _]) (List.Sublist.cons _ (List.Sublist.cons_cons _ (List.Sublist.cons_cons _ (List.nil_sublist _))))
        clear HW
        go_wp2_with fail
        go_ret
        exact rw_endE HT.out (H.get 0 rfl) H.ext
    ·
      refine W_litE (e := 39) (cs := #[.string p, .int .i64 mode, .int .i64 time, .int .i64 block, .int .i64 at_, .int .i64 size]) rfl HW (by intro _; first | (go_simp; done) | (go_simp; rfl)) ?_
      intro gl w' HW6 hE
      clear HW hE
      have HW := HW6
      clear HW6
      clear hS
      have hS := HW.drop (L' := [_]) (List.Sublist.cons _ (List.Sublist.cons_cons _ (List.nil_sublist _)))
      refine ⟨hS, ?_⟩
      try simp only [Act.put, List.getElem_toArray, List.getElem_cons_succ, List.getElem_cons_zero, List.setIfInBounds_toArray, List.set_cons_succ, List.set_cons_zero]
      refine D_oneX 0 #[true, true, true, true, false, true, true, false, true, false, false] (by kernel_rfl) rfl (by kernel_rfl) (by rfl) ?_
      refine W_litE (e := 39) (cs := #[]) rfl HW (by intro _; first | (go_simp; done) | (go_simp; rfl)) ?_
      intro ge w' HW5 hE
      have HW6 := HW5.toOwn 0 rfl 6 0 0 (Nat.le_refl _) (Nat.zero_le _) rfl [] rfl
      simp only [List.set_cons_zero] at HW6
      clear HW HW5 hE
      have HW := HW6
      clear HW6
      clear hS
      have hS := HW.drop (L' := [_]) (List.Sublist.cons _ (List.Sublist.cons _ (List.Sublist.cons_cons _ (List.nil_sublist _))))
      refine ⟨hS, ?_⟩
      try simp only [Act.put, List.getElem_toArray, List.getElem_cons_succ, List.getElem_cons_zero, List.setIfInBounds_toArray, List.set_cons_succ, List.set_cons_zero]
      refine D_oneX 4 #[true, true, true, true, true, true, true, false, true, false, false] (by kernel_rfl) rfl (by kernel_rfl) (by rfl) ?_
      refine W_append eLen eOne (s := .tmp 37) (x := .tmp 40) (xv := .slice A N cap) (ys := tk) rfl Tryz.underlying22 infoEZ rfl (by decide) HW 0 rfl rfl rfl (HR.out.1.keep HW.ext) hb1 hm1 ?_
      intro vn w' HW7 hnn
      simp only [List.set_cons_succ, List.set_cons_zero] at HW7
      clear HW hnn
      have HW := HW7
      clear HW7 hS
      have hS := HW.drop (L' := [_]) (List.Sublist.cons _ (List.Sublist.cons _ (List.Sublist.cons_cons _ (List.nil_sublist _))))
      refine ⟨hS, ?_⟩
      try simp only [Act.put, List.getElem_toArray, List.getElem_cons_succ, List.getElem_cons_zero, List.setIfInBounds_toArray, List.set_cons_succ, List.set_cons_zero]
      refine D_oneX 7 #[true, true, true, true, true, true, true, true, true, false, false] (by kernel_rfl) rfl (by kernel_rfl) (by rfl) ?_
      refine W_append eLen eOne (s := .tmp 41) (x := .tmp 43) (xv := .slice (some ⟨gl, 0, none⟩) 1 1) (ys := [⟨p, mode, time, block, at_, size⟩]) rfl Tryz.underlying22 infoEZ rfl (by decide) HW 0 rfl rfl rfl (oneEnt ⟨p, mode, time, block, at_, size⟩ (HW.at_ 1 rfl)) hb2 hm2 ?_
      intro vn2 w' HW7 hnn
      simp only [List.set_cons_succ, List.set_cons_zero, List.length_cons, List.length_nil, Nat.zero_add] at HW7
      clear HW hnn
      have HW := HW7
      clear HW7 hS
      have hS := HW.drop (L' := [_]) (List.Sublist.cons _ (List.Sublist.cons _ (List.Sublist.cons_cons _ (List.nil_sublist _))))
      refine ⟨hS, ?_⟩
      try simp only [Act.put, List.getElem_toArray, List.getElem_cons_succ, List.getElem_cons_zero, List.setIfInBounds_toArray, List.set_cons_succ, List.set_cons_zero]
      refine D_oneX 9 #[true, true, true, true, true, true, true, true, true, true, false] (by kernel_rfl) rfl (by kernel_rfl) (by rfl) ?_
      refine W_append eLen eOne (s := .tmp 44) (x := .tmp 45) (xv := .slice Ar dr.length cr) (ys := dr) rfl Tryz.underlying22 infoEZ rfl (by decide) HW 0 rfl rfl rfl (HR.out.2.keep HW.ext) hb3 hm3 ?_
      intro vn3 w' HW7 hnn
      simp only [List.set_cons_succ, List.set_cons_zero] at HW7
      clear HW hnn
      have HW := HW7
      clear HW7 hS
      have hS := HW.drop (L' := [_]) (List.Sublist.cons _ (List.Sublist.cons _ (List.Sublist.cons_cons _ (List.nil_sublist _))))
      refine ⟨hS, ?_⟩
      try simp only [Act.put, List.getElem_toArray, List.getElem_cons_succ, List.getElem_cons_zero, List.setIfInBounds_toArray, List.set_cons_succ, List.set_cons_zero]
      refine D_pX #[true, true, true, true, true, true, true, true, true, true, true] (by kernel_rfl) rfl (by kernel_rfl) (by rfl) ?_
      refine wp_here (v := ?_) ?_ ?_; rotate_left; (focus (first | (go_simp; done) | (go_simp; with_reducible rfl) | (go_simp; rfl))); all_goals skip
      try simp only [Act.put, List.getElem_toArray, List.getElem_cons_succ, List.getElem_cons_zero, List.setIfInBounds_toArray, List.set_cons_succ, List.set_cons_zero]
      refine wpAnyX_done (by kernel_rfl) ?_ _
      have H := HW.drop (L' := [_, _]) (List.Sublist.cons_cons _ (List.Sublist.cons _ (List.Sublist.cons_cons _ (List.nil_sublist _))))
      clear HW
      go_wp2_with fail
      go_ret
      exact rw_endE HT.out (H.get 0 rfl) H.ext
end Go.Proofs.YtmfcccflohpjiaaGreatDoor
