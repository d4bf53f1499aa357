/- Catalogues: the document's Encode. -/
import Derived.Test.YtmfcccflohpjiaaGreatDoorCatL
import Derived.Test.YtmfcccflohpjiaaGreatDoorCatN
namespace Go.Proofs.YtmfcccflohpjiaaGreatDoor
set_option linter.unusedVariables false
set_option linter.unusedSimpArgs false
open Go.RowKit

set_option maxRecDepth 100000 in
set_option maxHeartbeats 4000000 in
theorem refEncodeC_any (v : Value) (xs : List Ent) (w0 : World) (hr : RdS eCells 6 w0 v xs) (hn : xs.length ≤ 100000) (hp : PathOk xs) : Calls Tryz.prog 9 #[v] w0 fun e w' => EncE xs e w' ∧ Ext0 w0 w' := by
  obtain ⟨A, cap, rfl, hcap⟩ := hr.len
  have hg := refGoodC_any (.slice A xs.length cap) xs w0 hr hn hp
  have HR := Lib.hid hr
  clear hr hp
  go_enter Tryz.func9, Tryz.ntmps9
  go_upto_if 9 with (go_at_call 12; refine hg.mono ?_; rintro e w ⟨⟨q, rfl, hq⟩, hE0⟩)
  clear hg
  cases q
  · go_wp2_with fail
    go_ret2
    exact ⟨.inr ⟨fun h => Bool.false_ne_true (hq.out.2 h), rfl⟩, hE0⟩
  · have hG : CatGood xs := hq.out.1 rfl
    have hp32 := good_path hG
    have h12 := hG.1
    have HG := Lib.hid (And.intro hG hp32)
    clear hG hp32 hq
    have hhd := fun {W : World} (A : Option Addr) => r01Int_any (.slice A 0 0) [] (xs.length : Int) W (RdS.nil' _ _ _ _) (by simp)
    simp only [List.nil_append] at hhd
    obtain ⟨hd, hhd2⟩ : ∃ hd, be8 (xs.length : Int) = hd := ⟨_, rfl⟩
    have hdl : hd.length = 8 := by rw [← hhd2, be8_len]
    rw [hhd2] at hhd
    have HD := Lib.hid (And.intro hhd2 hdl)
    clear hhd2 hdl
    have H : SH (fun _ => False) w w [] := SH.nil _ _
    go_wp2_with (first
      | (refine L_litE (e := 5) (cs := #[]) rfl rfl H ?_ ?_; rotate_left; (focus (intro _; first | (go_simp; done) | (go_simp; rfl))); all_goals skip; clear H; intro g10 w H hEx; (try simp only [Act.put, List.setIfInBounds_toArray, List.set_cons_succ, List.set_cons_zero, List.getElem_toArray, List.getElem_cons_succ, List.getElem_cons_zero]))
      | (go_at_call 25; refine (hhd _).mono ?_; rintro e w1 ⟨v4, rfl, hrd, hE1⟩))
    have H0 : Ext0 w0 w1 := (hE0.trans0 (Ext.alloc _ _ _)).trans0 hE1
    clear hhd hE0 hE1 H
    go_loopw [4, 5] (fun v4 vi wr => EncRel xs hd w0 v4 vi wr) (fun _ vi _ => xs.length - (intOf vi).toNat)
    case atStart => exact ⟨0, rfl, Nat.zero_le _, by simpa using hrd, H0⟩
    case round =>
      clear H0 hrd
      obtain ⟨j, rfl, hj, hrd, hE⟩ := hrel
      have H : SH (fun _ => False) wr wr [] := SH.nil _ _
      by_cases hjn : j < xs.length
      · have hji : (j : Int) < (xs.length : Int) := by omega
        obtain ⟨x, hx⟩ : ∃ x, xs[j] = x := ⟨_, rfl⟩
        obtain ⟨bb, off, cs, T, fr, rfl, hbb, hcs⟩ := ent_cells HR.out hjn hx
        replace hbb := hE.keep hbb (fun e => e)
        have HE0 := Lib.hid hE
        clear hE
        have hci := hcs j hjn
        have hsn := encE_snoc xs j hjn
        have hps : x.path.size ≤ 32 := HG.out.2 x (by rw [← hx]; exact List.getElem_mem _)
        rw [hx] at hci hsn
        have hlenj : (hd ++ (xs.take j).flatMap encE).length ≤ 10000 := by
          have h1 := encTake_len (xs.take j) (fun y hy => HG.out.2 y (List.mem_of_mem_take hy))
          rw [List.length_take] at h1
          rw [List.length_append, HD.out.2]
          omega
        have HSN := Lib.hid hsn
        clear hsn hx
        obtain ⟨p, mode, time, block, at_, size⟩ := x
        have hci6 : ∀ j', j' < 6 → cs[off + j * 6 + j']? = [Value.string p, .int .i64 mode, .int .i64 time, .int .i64 block, .int .i64 at_, .int .i64 size][j']? := fun j hj => hci j hj
        clear hci
        obtain ⟨pre, hpr⟩ : ∃ pre, hd ++ (xs.take j).flatMap encE = pre := ⟨_, rfl⟩
        rw [hpr] at hrd hlenj
        have HPR := Lib.hid hpr
        have htx := fun {W : World} {u : Value} (h : RdS (encInt .u8) 1 W u pre) => r01Text_any u pre (pN p) W h (by omega) (by rw [pN_len]; simp only at hps; omega) (pN_bytes p)
        rw [pN_str] at htx
        obtain ⟨pr2, hpr2⟩ : ∃ pr2, pre ++ (be2 (pN p).length ++ pN p) = pr2 := ⟨_, rfl⟩
        have hlen2 : pr2.length ≤ 20000 := by rw [← hpr2, List.length_append, List.length_append, pN_len]; simp only [be2, List.length_cons, List.length_nil]; simp only at hps; omega
        rw [hpr2] at htx
        have HPR2 := Lib.hid hpr2
        clear hpr hpr2 hlenj
        go_upto_region 9 with (first
          | (refine L_loadmidr rfl rfl H rfl hbb (fun e => e) Tryz.underlying39 rfl info39 [Value.string p, .int .i64 mode, .int .i64 time, .int .i64 block, .int .i64 at_, .int .i64 size] rfl hci6 ?_; (try simp only [Act.put, List.setIfInBounds_toArray, List.set_cons_succ, List.set_cons_zero, List.getElem_toArray, List.getElem_cons_succ, List.getElem_cons_zero]))
          | (refine L_alloc rfl rfl H Tryz.zeroValue39 ?_; clear H; intro g6 w H; simp only [Value.cells] at H; (try simp only [Act.put, List.setIfInBounds_toArray, List.set_cons_succ, List.set_cons_zero, List.getElem_toArray, List.getElem_cons_succ, List.getElem_cons_zero]))
          | (refine L_storerow rfl rfl H 0 rfl rfl rfl info39 rfl rfl (oneE _ _ _ _ _ _) ?_; clear H; intro w H; simp only [List.set_cons_zero] at H; (try simp only [Act.put, List.setIfInBounds_toArray, List.set_cons_succ, List.set_cons_zero, List.getElem_toArray, List.getElem_cons_succ, List.getElem_cons_zero]))
          | (refine L_load1 rfl rfl H 0 rfl rfl rfl Tryz.isAgg3 ?_; (try simp only [Act.put, List.setIfInBounds_toArray, List.set_cons_succ, List.set_cons_zero, List.getElem_toArray, List.getElem_cons_succ, List.getElem_cons_zero])) | (refine L_load1 rfl rfl H 0 rfl rfl rfl Tryz.isAgg9 ?_; (try simp only [Act.put, List.setIfInBounds_toArray, List.set_cons_succ, List.set_cons_zero, List.getElem_toArray, List.getElem_cons_succ, List.getElem_cons_zero]))
          | (go_at_call 26; refine (htx (hrd.keep H.ext)).mono ?_; clear hrd; rintro e w ⟨v5, rfl, hrd, hE⟩; replace H := H.calls hE; clear hE))
        have hrd0 := hrd.keep (Ext.drew (fun _ => False) w)
        clear hrd
        have hrd := hrd0
        refine D_start H (by kernel_rfl) (fun hS => ?_)
        try simp only [Act.put, List.setIfInBounds_toArray, List.set_cons_succ, List.set_cons_zero]
        refine D_take 0 (v := ?_) rfl (by kernel_rfl) (by kernel_rfl) (by kernel_rfl) (fun _ _ _ h => h) rfl (by rfl) (fun W hS => ?_) hS ?_
        rotate_left; (focus (first | (go_simp; done) | (go_simp; with_reducible rfl) | (go_simp; rfl))); all_goals skip; (try simp only [List.set_cons_succ, List.set_cons_zero])
        refine D_take 1 (v := ?_) rfl (by kernel_rfl) (by kernel_rfl) (by kernel_rfl) (fun _ _ _ h => h) rfl (by rfl) (fun W hS => ?_) hS ?_
        rotate_left; (focus (first | (go_simp; done) | (go_simp; with_reducible rfl) | (go_simp; rfl))); all_goals skip; (try simp only [List.set_cons_succ, List.set_cons_zero])
        refine D_take 2 (v := ?_) rfl (by kernel_rfl) (by kernel_rfl) (by kernel_rfl) (fun _ _ _ h => h) rfl (by rfl) (fun W hS => ?_) hS ?_
        rotate_left; (focus (first | (refine R_load1 (ty := 3) (x := Operand.tmp 29) rfl hS 0 rfl rfl ?_ Tryz.isAgg3; rfl))); all_goals skip; (try simp only [List.set_cons_succ, List.set_cons_zero, List.getElem_toArray, List.getElem_cons_succ, List.getElem_cons_zero])
        refine D_take 4 (v := ?_) rfl (by kernel_rfl) (by kernel_rfl) (by kernel_rfl) (fun _ _ _ h => h) rfl (by rfl) (fun W hS => ?_) hS ?_
        rotate_left; (focus (first | (go_simp; done) | (go_simp; with_reducible rfl) | (go_simp; rfl))); all_goals skip; (try simp only [List.set_cons_succ, List.set_cons_zero])
        refine D_take 5 (v := ?_) rfl (by kernel_rfl) (by kernel_rfl) (by kernel_rfl) (fun _ _ _ h => h) rfl (by rfl) (fun W hS => ?_) hS ?_
        rotate_left; (focus (first | (refine R_load1 (ty := 3) (x := Operand.tmp 32) rfl hS 0 rfl rfl ?_ Tryz.isAgg3; rfl))); all_goals skip; (try simp only [List.set_cons_succ, List.set_cons_zero, List.getElem_toArray, List.getElem_cons_succ, List.getElem_cons_zero])
        refine D_take 7 (v := ?_) rfl (by kernel_rfl) (by kernel_rfl) (by kernel_rfl) (fun _ _ _ h => h) rfl (by rfl) (fun W hS => ?_) hS ?_
        rotate_left; (focus (first | (go_simp; done) | (go_simp; with_reducible rfl) | (go_simp; rfl))); all_goals skip; (try simp only [List.set_cons_succ, List.set_cons_zero])
        refine D_take 8 (v := ?_) rfl (by kernel_rfl) (by kernel_rfl) (by kernel_rfl) (fun _ _ _ h => h) rfl (by rfl) (fun W hS => ?_) hS ?_
        rotate_left; (focus (first | (refine R_load1 (ty := 3) (x := Operand.tmp 35) rfl hS 0 rfl rfl ?_ Tryz.isAgg3; rfl))); all_goals skip; (try simp only [List.set_cons_succ, List.set_cons_zero, List.getElem_toArray, List.getElem_cons_succ, List.getElem_cons_zero])
        refine D_take 10 (v := ?_) rfl (by kernel_rfl) (by kernel_rfl) (by kernel_rfl) (fun _ _ _ h => h) rfl (by rfl) (fun W hS => ?_) hS ?_
        rotate_left; (focus (first | (go_simp; done) | (go_simp; with_reducible rfl) | (go_simp; rfl))); all_goals skip; (try simp only [List.set_cons_succ, List.set_cons_zero])
        refine D_take 11 (v := ?_) rfl (by kernel_rfl) (by kernel_rfl) (by kernel_rfl) (fun _ _ _ h => h) rfl (by rfl) (fun W hS => ?_) hS ?_
        rotate_left; (focus (first | (refine R_load1 (ty := 3) (x := Operand.tmp 38) rfl hS 0 rfl rfl ?_ Tryz.isAgg3; rfl))); all_goals skip; (try simp only [List.set_cons_succ, List.set_cons_zero, List.getElem_toArray, List.getElem_cons_succ, List.getElem_cons_zero])
        refine D_take 13 (v := ?_) rfl (by kernel_rfl) (by kernel_rfl) (by kernel_rfl) (fun _ _ _ h => h) rfl (by rfl) (fun W hS => ?_) hS ?_
        rotate_left; (focus (first | (go_simp; done) | (go_simp; with_reducible rfl) | (go_simp; rfl))); all_goals skip; (try simp only [List.set_cons_succ, List.set_cons_zero])
        refine D_take 14 (v := ?_) rfl (by kernel_rfl) (by kernel_rfl) (by kernel_rfl) (fun _ _ _ h => h) rfl (by rfl) (fun W hS => ?_) hS ?_
        rotate_left; (focus (first | (refine R_load1 (ty := 3) (x := Operand.tmp 41) rfl hS 0 rfl rfl ?_ Tryz.isAgg3; rfl))); all_goals skip; (try simp only [List.set_cons_succ, List.set_cons_zero, List.getElem_toArray, List.getElem_cons_succ, List.getElem_cons_zero])
        refine D_one 3 rfl (by kernel_rfl) (by rfl) ?_
        refine R_call (f := 25) (args := #[v5, .int .i64 mode]) (by first | (go_simp; done) | (go_simp; rfl)) (r01Int_any _ _ mode _ hrd (by (try simp only [List.length_append, be8_len]); omega)) ?_
        rintro e w ⟨y0, rfl, hv0, hE0⟩
        have hS2 := hS.calls hE0
        clear hS
        have hS := hS2
        clear hS2 hE0
        refine ⟨_, rfl, hS, ?_⟩
        try simp only [Act.put, List.getElem_toArray, List.getElem_cons_succ, List.getElem_cons_zero, List.setIfInBounds_toArray, List.set_cons_succ, List.set_cons_zero]
        refine D_one 6 rfl (by kernel_rfl) (by rfl) ?_
        refine R_call (f := 25) (args := #[y0, .int .i64 time]) (by first | (go_simp; done) | (go_simp; rfl)) (r01Int_any _ _ time _ hv0 (by (try simp only [List.length_append, be8_len]); omega)) ?_
        rintro e w ⟨y1, rfl, hv1, hE1⟩
        have hS2 := hS.calls hE1
        clear hS
        have hS := hS2
        clear hS2 hE1
        refine ⟨_, rfl, hS, ?_⟩
        try simp only [Act.put, List.getElem_toArray, List.getElem_cons_succ, List.getElem_cons_zero, List.setIfInBounds_toArray, List.set_cons_succ, List.set_cons_zero]
        refine D_one 9 rfl (by kernel_rfl) (by rfl) ?_
        refine R_call (f := 25) (args := #[y1, .int .i64 block]) (by first | (go_simp; done) | (go_simp; rfl)) (r01Int_any _ _ block _ hv1 (by (try simp only [List.length_append, be8_len]); omega)) ?_
        rintro e w ⟨y2, rfl, hv2, hE2⟩
        have hS2 := hS.calls hE2
        clear hS
        have hS := hS2
        clear hS2 hE2
        refine ⟨_, rfl, hS, ?_⟩
        try simp only [Act.put, List.getElem_toArray, List.getElem_cons_succ, List.getElem_cons_zero, List.setIfInBounds_toArray, List.set_cons_succ, List.set_cons_zero]
        refine D_one 12 rfl (by kernel_rfl) (by rfl) ?_
        refine R_call (f := 25) (args := #[y2, .int .i64 at_]) (by first | (go_simp; done) | (go_simp; rfl)) (r01Int_any _ _ at_ _ hv2 (by (try simp only [List.length_append, be8_len]); omega)) ?_
        rintro e w ⟨y3, rfl, hv3, hE3⟩
        have hS2 := hS.calls hE3
        clear hS
        have hS := hS2
        clear hS2 hE3
        refine ⟨_, rfl, hS, ?_⟩
        try simp only [Act.put, List.getElem_toArray, List.getElem_cons_succ, List.getElem_cons_zero, List.setIfInBounds_toArray, List.set_cons_succ, List.set_cons_zero]
        refine D_one 15 rfl (by kernel_rfl) (by rfl) ?_
        refine R_call (f := 25) (args := #[y3, .int .i64 size]) (by first | (go_simp; done) | (go_simp; rfl)) (r01Int_any _ _ size _ hv3 (by (try simp only [List.length_append, be8_len]); omega)) ?_
        rintro e w ⟨y4, rfl, hv4, hE4⟩
        have hS2 := hS.calls hE4
        clear hS
        have hS := hS2
        clear hS2 hE4
        refine ⟨_, rfl, hS, ?_⟩
        try simp only [Act.put, List.getElem_toArray, List.getElem_cons_succ, List.getElem_cons_zero, List.setIfInBounds_toArray, List.set_cons_succ, List.set_cons_zero]
        refine D_take 16 (v := ?_) rfl (by kernel_rfl) (by kernel_rfl) (by kernel_rfl) (fun _ _ _ h => h) rfl (by rfl) (fun W hS => ?_) hS ?_
        rotate_left; (focus (first | (go_simp; done) | (go_simp; with_reducible rfl) | (go_simp; rfl))); all_goals skip; (try simp only [List.set_cons_succ, List.set_cons_zero])
        refine wpAnyH_done (by kernel_rfl) ?_ _
        go_wp2_with fail
        go_roundw
        case rel => exact ⟨j + 1, by go_num, by omega, by rw [HSN.out, ← List.append_assoc, HPR.out, encE, ← List.append_assoc, HPR2.out]; simpa [nums] using hv4, HE0.out.trans0 hS.ext⟩
        case measure => simp [intOf]; omega
      · have hjp : ¬ ((j : Int) < (xs.length : Int)) := by omega
        obtain rfl : j = xs.length := by omega
        rw [List.take_length] at hrd
        have he : encCat xs = hd ++ xs.flatMap encE := by rw [encCat, HD.out.1]
        have HEE := Lib.hid he
        clear he
        generalize hd ++ xs.flatMap encE = out at *
        go_wp2_with fail
        go_ret2
        exact ⟨.inl ⟨HG.out.1, _, rfl, by rw [HEE.out]; exact hrd⟩, hE⟩
end Go.Proofs.YtmfcccflohpjiaaGreatDoor
