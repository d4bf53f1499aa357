/- Journals: Append, Commit. -/
import Derived.Test.YtgmeahogdjhejaaGreatDoorWalX
namespace Go.Proofs.YtgmeahogdjhejaaGreatDoor
set_option linter.unusedVariables false
set_option linter.unusedSimpArgs false
open Go.RowKit Go.Shelf

theorem wp_here {P : Program} {o : Oper} {a : Act} {w : World} {K : Act → World → Prop} {Q : Exit → Act → World → Prop} {v : Value} (hr : (execOp a.eval o).run P w = .ok (.value v) w) (k : K (a.put o.dst v) w) : o.wp P a w K Q := wp_of_value hr k
def JE (b bs bm jb : Nat) (d : DS) (j : JS) (r : DS × JS × Int) (w : World) (e : Ending) (w' : World) : Prop :=
  e = .returned (.int .i64 r.2.2) ∧ Ext (JD b bs bm jb d j).fp w w' ∧ (JD b bs bm jb r.1 r.2.1).says w'
set_option maxRecDepth 100000 in
set_option maxHeartbeats 4000000 in
theorem append_any {b bs bm jb : Nat} {d : DS} {j : JS} {W0 : Int} (w0 : World) (h : (JD b bs bm jb d j).says w0) (hf : d.Fine W0) (hW : W0 ≤ 100000000) (hj : j.Ok d.sure.length) {v : Value} {xs : List Int} (hr : RdS (encInt .u8) 1 w0 v xs) (hb : ∀ x ∈ xs, 0 ≤ x ∧ x ≤ 255)
    (hl : xs.length ≤ 65535) : Calls Tryz.prog 20 #[.pointer (some ⟨jb, 0, none⟩), v] w0 (JE b bs bm jb d j (appendP d j xs) w0) := by
  obtain ⟨A, cap, rfl, hcap⟩ := hr.len
  have H := JD.open_ h
  have hlen := hf.len
  have hop := jopen_any w0 h.2.1
  by_cases hbar : j.bar = 0
  · have hrf : j.refused = false ∧ j.fresh = true := by
      unfold JS.bar at hbar
      cases h1 : j.refused
      · cases h2 : j.fresh
        · rw [h1, h2] at hbar; simp at hbar
        · exact ⟨rfl, rfl⟩
      · rw [h1] at hbar; simp at hbar
    rw [hbar] at hop
    obtain ⟨slot, log, ep, sq, pl, us, fr, re⟩ := j
    obtain ⟨h1, h2⟩ := hrf
    simp only at h1 h2
    subst h1 h2
    obtain ⟨hmay, hep, hsq, hpl, hus⟩ := hj
    simp only at hmay hep hsq hpl hus
    have hap : appendP d ⟨slot, log, ep, sq, pl, us, true, false⟩ xs = if 65535 < xs.length ∨ sq = 4294967295 then (d, ⟨slot, log, ep, sq, pl, us, true, false⟩, 2) else if log - us < countP xs.length then (d, ⟨slot, log, ep, sq, pl, us, true, false⟩, 5)
        else if (d.lay (2 * slot + us) (countP xs.length) (layP ep (sq + 1) xs)).2 ≠ 0 then ((d.lay (2 * slot + us) (countP xs.length) (layP ep (sq + 1) xs)).1, ⟨slot, log, ep, sq, pl, us, true, true⟩, (d.lay (2 * slot + us) (countP xs.length) (layP ep (sq + 1) xs)).2)
        else ((d.lay (2 * slot + us) (countP xs.length) (layP ep (sq + 1) xs)).1, ⟨slot, log, ep, sq + 1, pl, us + countP xs.length, true, false⟩, 0) := rfl
    have hcnt := fun {W : World} => count_any xs.length hl W
    have hlog : log ≤ 4096 := by have := hmay.2.2.2.1; omega
    have hroom := fun {W : World} (hw : W.heap[jb]? = some (.cells (jCells b ⟨slot, log, ep, sq, pl, us, true, false⟩) 76 (0, 0))) => room_any (j := ⟨slot, log, ep, sq, pl, us, true, false⟩) W hw (by show log ≤ 1000000; omega) hus
    have hwz : countP xs.length ≤ 10000 ∧ 1 ≤ countP xs.length := by unfold countP; omega
    have hlen2 := layP_len ep (sq + 1) xs
    obtain ⟨n, hn⟩ : ∃ n, xs.length = n := ⟨_, rfl⟩
    rw [hn] at hap hcnt hl hcap hwz hlen2
    obtain ⟨c, hc⟩ : ∃ c, countP n = c := ⟨_, rfl⟩
    rw [hc] at hap hcnt hwz hlen2
    obtain ⟨rm, hrm⟩ : ∃ rm, log - us = rm := ⟨_, rfl⟩
    simp only [hrm] at hap hroom
    obtain ⟨r, hre⟩ : ∃ r, appendP d ⟨slot, log, ep, sq, pl, us, true, false⟩ xs = r := ⟨_, rfl⟩
    rw [hre] at hap ⊢
    have hn2 : ¬ 65535 < (n : Int) := by omega
    rw [hn] at hr ⊢
    have hn3 : decide (65535 < (n : Int)) = false := decide_eq_false hn2
    have HF := Lib.hid (And.intro hf (And.intro hmay (And.intro hb hlen2)))
    have HU := Lib.hid (And.intro hep (And.intro hsq (And.intro hrm (And.intro hn (And.intro hwz (And.intro hus hlog))))))
    clear hf hmay hb hlen2 hep hsq hrm hn hwz hlog hbar hre hc h hpl
    simp only [jCells] at H
    by_cases hs1 : sq = 4294967295
    · subst hs1
      have hrr : r = (d, ⟨slot, log, ep, 4294967295, pl, us, true, false⟩, 2) := by rw [hap, if_pos (.inr rfl)]
      have HR := Lib.hid hrr
      clear hrr hap
      go_enter Tryz.func20, Tryz.ntmps20
      go_upto_region 5 with (first
        | (go_at_call 47; refine hop.mono ?_; rintro e1 w1 ⟨rfl, hE⟩; replace H := H.calls hE; clear hE)
        | (go_at_call 53; refine hcnt.mono ?_; rintro e1 w1 ⟨rfl, rfl⟩))
      have hc4 := cell_of_row _ jb 4 _ _ _ (H.at_ 0 rfl)
      simp only [List.getElem?_toArray, List.getElem?_cons_succ, List.getElem?_cons_zero] at hc4
      go_wp2_with fail
      go_ret
      rw [HR.out]
      exact ⟨rfl, H.ext, JD.shut H⟩
    · by_cases hs2 : rm < c
      · have hs2i : (rm : Int) < (c : Int) := by omega
        have hrr : r = (d, ⟨slot, log, ep, sq, pl, us, true, false⟩, 5) := by rw [hap, if_neg (by omega), if_pos hs2]
        have HR := Lib.hid hrr
        clear hrr hap hs2
        go_enter Tryz.func20, Tryz.ntmps20
        go_upto_region 5 with (first
          | (go_at_call 47; refine hop.mono ?_; rintro e1 w1 ⟨rfl, hE⟩; replace H := H.calls hE; clear hE)
          | (go_at_call 53; refine hcnt.mono ?_; rintro e1 w1 ⟨rfl, rfl⟩))
        have hc4 := cell_of_row _ jb 4 _ _ _ (H.at_ 0 rfl)
        simp only [List.getElem?_toArray, List.getElem?_cons_succ, List.getElem?_cons_zero] at hc4
        go_upto_region 7 with fail
        clear hc4
        go_wp2_with (first
          | (go_at_call 24; refine (hroom (H.at_ 0 rfl)).mono ?_; rintro e1 w1 ⟨rfl, hE⟩; replace H := H.calls hE; clear hE))
        go_ret
        rw [HR.out]
        exact ⟨rfl, H.ext, JD.shut H⟩
      · have hs2i : ¬ (rm : Int) < (c : Int) := by omega
        obtain ⟨hep, hsq, hrm, hn, hwz, hus, hlog⟩ := HU.out
        have hsq2 : U32 (sq + 1) := by have := hsq; unfold U32 at this ⊢; omega
        have hw1 : IntKind.i64.wrap (sq + 1) = sq + 1 := by rw [IntKind.wrap_i64]; have := hsq; unfold U32 at this; omega
        have hms : 2 * slot + log ≤ d.sure.length := by have := HF.out.2.1.2.2.2.2; omega
        have huc : us + c ≤ log := by omega
        obtain ⟨u', hu'⟩ : ∃ u', us + c = u' := ⟨_, rfl⟩
        have hw2 : IntKind.i64.wrap ((us : Int) + (c : Int)) = (u' : Int) := by rw [IntKind.wrap_i64]; omega
        have hl1 : IntKind.i64.wrap (2 * (slot : Int)) = 2 * (slot : Int) := by rw [IntKind.wrap_i64]; omega
        have hl2 : IntKind.i64.wrap (2 * (slot : Int) + (us : Int)) = ((2 * slot + us : Nat) : Int) := by rw [IntKind.wrap_i64]; omega
        have hl3 : IntKind.i64.wrap (2 * (slot : Int) + (log : Int)) = 2 * (slot : Int) + (log : Int) := by rw [IntKind.wrap_i64]; omega
        have hlogs := fun {w : World} => logs_any b (slot : Int) (log : Int) (us : Int) _ _ _ w hl1 hl2 hl3
        have hlay := fun {w : World} (hr : RdS (encInt .u8) 1 w (.slice A n cap) xs) => lay_any ep (sq + 1) (.slice A n cap) xs w hep hsq2 hr HF.out.2.2.1 (by omega)
        unfold LayE at hlay
        have hfl := HF.out.1.lay c (2 * slot + us) (lay_bytes (e := ep) (q := sq + 1) HF.out.2.2.1)
        have hwr := fun {w : World} {Aa : Option Addr} {ca : Nat} (hD : (DiskA b bs bm d).says w) (hr : RdS (encInt .u8) 1 w (.slice Aa (layP ep (sq + 1) xs).length ca) (layP ep (sq + 1) xs)) (hap2 : ∀ j, (Value.slice Aa (layP ep (sq + 1) xs).length ca).ownBlock = some j → ¬ (DiskA b bs bm d).fp j) =>
          ewrite_at w hD HF.out.1 (by omega) (2 * slot + us) c ((2 * slot + us : Nat) : Int) (2 * (slot : Int) + (log : Int)) rfl hr (lay_bytes HF.out.2.2.1) HF.out.2.2.2 (by omega) (by omega) hap2
        unfold WriteE at hwr
        obtain ⟨y, hy⟩ : ∃ y, layP ep (sq + 1) xs = y := ⟨_, rfl⟩
        rw [if_neg (by omega), if_neg hs2] at hap
        obtain ⟨p0, hp0⟩ : ∃ p0 : Int, ((2 * slot + us : Nat) : Int) = p0 := ⟨_, rfl⟩
        rw [hp0] at hlogs hwr
        rw [hy] at hap hlay hfl hwr
        obtain ⟨d1, hd1⟩ : ∃ d1, d.lay (2 * slot + us) c y = d1 := ⟨_, rfl⟩
        rw [hd1] at hap hfl hwr
        obtain ⟨e1, he1⟩ : ∃ e1, d1.2 = e1 := ⟨_, rfl⟩
        simp only [he1] at hap hwr
        rw [hu'] at hap
        have HA := Lib.hid hap
        have hs4 : (sq == 4294967295) = false := by simp [hs1]
        clear hep hsq hrm hn hwz hus hlog hsq2 hms huc hu' hl1 hl2 hl3 hy hd1 he1 hp0 hap hfl hs2 hs1
        go_enter Tryz.func20, Tryz.ntmps20
        go_upto_region 5 with (first
          | (go_at_call 47; refine hop.mono ?_; rintro e1 w1 ⟨rfl, hE⟩; replace H := H.calls hE; replace hr := hr.keep hE; clear hE)
          | (go_at_call 53; refine hcnt.mono ?_; rintro e1 w1 ⟨rfl, rfl⟩))
        have hc4 := cell_of_row _ jb 4 _ _ _ (H.at_ 0 rfl)
        simp only [List.getElem?_toArray, List.getElem?_cons_succ, List.getElem?_cons_zero] at hc4
        go_upto_region 7 with fail
        clear hc4
        go_upto_region 9 with (first
          | (go_at_call 24; refine (hroom (H.at_ 0 rfl)).mono ?_; rintro e1 w1 ⟨rfl, hE⟩; replace H := H.calls hE; replace hr := hr.keep hE; clear hE))
        replace hr := hr.keep (Ext.drew _ _)
        refine D_start H (by kernel_rfl) (fun hS => ?_)
        try simp only [Act.put, List.setIfInBounds_toArray, List.set_cons_succ, List.set_cons_zero]
        refine D_take 0 (v := ?_) rfl (by kernel_rfl) (by kernel_rfl) (by kernel_rfl) (fun _ _ _ h => h) rfl (by rfl) (fun W hS => ?_) hS ?_
        rotate_left; (focus (first | (go_simp; done) | (go_simp; with_reducible rfl) | (go_simp; rfl))); all_goals skip; (try simp only [List.set_cons_succ, List.set_cons_zero])
        refine D_take 1 (v := ?_) rfl (by kernel_rfl) (by kernel_rfl) (by kernel_rfl) (fun _ _ _ h => h) rfl (by rfl) (fun W hS => ?_) hS ?_
        rotate_left; (focus (first | (go_simp; done) | (go_simp; with_reducible rfl) | (go_simp; rfl))); all_goals skip; (try simp only [List.set_cons_succ, List.set_cons_zero])
        refine D_take 2 (v := ?_) rfl (by kernel_rfl) (by kernel_rfl) (by kernel_rfl) (fun _ _ _ h => h) rfl (by rfl) (fun W hS => ?_) hS ?_
        rotate_left; (focus (first | (go_simp; done) | (go_simp; with_reducible rfl) | (go_simp; rfl))); all_goals skip; (try simp only [List.set_cons_succ, List.set_cons_zero])
        refine D_take 3 (v := ?_) rfl (by kernel_rfl) (by kernel_rfl) (by kernel_rfl) (fun _ _ _ h => h) rfl (by rfl) (fun W hS => ?_) hS ?_
        rotate_left; (focus (first | (refine R_load1 (ty := 3) (x := Operand.tmp 37) rfl hS 0 rfl rfl ?_ Tryz.isAgg3; rfl))); all_goals skip; (try simp only [List.set_cons_succ, List.set_cons_zero, List.getElem_toArray, List.getElem_cons_succ, List.getElem_cons_zero])
        refine D_take 4 (v := ?_) rfl (by kernel_rfl) (by kernel_rfl) (by kernel_rfl) (fun _ _ _ h => h) rfl (by rfl) (fun W hS => ?_) hS ?_
        rotate_left; (focus (first | (go_simp; done) | (go_simp; with_reducible rfl) | (go_simp; rfl))); all_goals skip; (try simp only [List.set_cons_succ, List.set_cons_zero])
        refine D_take 5 (v := ?_) rfl (by kernel_rfl) (by kernel_rfl) (by kernel_rfl) (fun _ _ _ h => h) rfl (by rfl) (fun W hS => ?_) hS ?_
        rotate_left; (focus (first | (go_simp; done) | (go_simp; with_reducible rfl) | (go_simp; rfl))); all_goals skip; (try simp only [List.set_cons_succ, List.set_cons_zero])
        refine D_take 6 (v := ?_) rfl (by kernel_rfl) (by kernel_rfl) (by kernel_rfl) (fun _ _ _ h => h) rfl (by rfl) (fun W hS => ?_) hS ?_
        rotate_left; (focus (first | (go_simp; done) | (go_simp; with_reducible rfl) | (go_simp; rfl))); all_goals skip; (try simp only [List.set_cons_succ, List.set_cons_zero])
        refine D_take 7 (v := ?_) rfl (by kernel_rfl) (by kernel_rfl) (by kernel_rfl) (fun _ _ _ h => h) rfl (by rfl) (fun W hS => ?_) hS ?_
        rotate_left; (focus (first | (refine R_load1 (ty := 3) (x := Operand.tmp 41) rfl hS 0 rfl rfl ?_ Tryz.isAgg3; rfl))); all_goals skip; (try simp only [List.set_cons_succ, List.set_cons_zero, List.getElem_toArray, List.getElem_cons_succ, List.getElem_cons_zero])
        refine D_take 8 (v := ?_) rfl (by kernel_rfl) (by kernel_rfl) (by kernel_rfl) (fun _ _ _ h => h) rfl (by rfl) (fun W hS => ?_) hS ?_
        rotate_left; (focus (first | (go_simp; done) | (go_simp; with_reducible rfl) | (go_simp; rfl))); all_goals skip; (try simp only [List.set_cons_succ, List.set_cons_zero])
        refine D_take 9 (v := ?_) rfl (by kernel_rfl) (by kernel_rfl) (by kernel_rfl) (fun _ _ _ h => h) rfl (by rfl) (fun W hS => ?_) hS ?_
        rotate_left; (focus (first | (go_simp; done) | (go_simp; with_reducible rfl) | (go_simp; rfl))); all_goals skip; (try simp only [List.set_cons_succ, List.set_cons_zero])
        refine D_one 10 rfl (by kernel_rfl) (by rfl) ?_
        refine R_call (f := 54) (args := #[.int .i64 ep, .int .i64 (sq + 1), .slice A n cap]) (by first | (go_simp; done) | (go_simp; rfl)) (hlay hr) ?_
        rintro e w9 ⟨va, rfl, hra, hE, hfr⟩
        have hap2 := fun j hj (hfp : (DiskA b bs bm d).fp j) => Nat.lt_irrefl _ (Nat.lt_of_lt_of_le (DiskA.fp_lt (hS.get 1 rfl) hfp) (hfr j hj))
        obtain ⟨Aa, ca, rfl⟩ := hra.isSlice
        have hS2 := hS.calls hE
        clear hS hE hfr
        have hS := hS2
        clear hS2
        refine ⟨_, rfl, hS, ?_⟩
        try simp only [Act.put, List.getElem_toArray, List.getElem_cons_succ, List.getElem_cons_zero, List.setIfInBounds_toArray, List.set_cons_succ, List.set_cons_zero]
        refine D_take 11 (v := ?_) rfl (by kernel_rfl) (by kernel_rfl) (by kernel_rfl) (fun _ _ _ h => h) rfl (by rfl) (fun W hS => ?_) hS ?_
        rotate_left; (focus (first | (go_simp; done) | (go_simp; with_reducible rfl) | (go_simp; rfl))); all_goals skip; (try simp only [List.set_cons_succ, List.set_cons_zero])
        refine D_take 12 (v := ?_) rfl (by kernel_rfl) (by kernel_rfl) (by kernel_rfl) (fun _ _ _ h => h) rfl (by rfl) (fun W hS => ?_) hS ?_
        rotate_left; (focus (first | (go_simp; done) | (go_simp; with_reducible rfl) | (go_simp; rfl))); all_goals skip; (try simp only [List.set_cons_succ, List.set_cons_zero])
        refine D_take 13 (v := ?_) rfl (by kernel_rfl) (by kernel_rfl) (by kernel_rfl) (fun _ _ _ h => h) rfl (by rfl) (fun W hS => ?_) hS ?_
        rotate_left; (focus (first | (go_simp; done) | (go_simp; with_reducible rfl) | (go_simp; rfl))); all_goals skip; (try simp only [List.set_cons_succ, List.set_cons_zero])
        refine D_take 14 (v := ?_) rfl (by kernel_rfl) (by kernel_rfl) (by kernel_rfl) (fun _ _ _ h => h) rfl (by rfl) (fun W hS => ?_) hS ?_
        rotate_left; (focus (first | (go_simp; done) | (go_simp; with_reducible rfl) | (go_simp; rfl))); all_goals skip; (try simp only [List.set_cons_succ, List.set_cons_zero])
        refine D_take 15 (v := ?_) rfl (by kernel_rfl) (by kernel_rfl) (by kernel_rfl) (fun _ _ _ h => h) rfl (by rfl) (fun W hS => ?_) hS ?_
        rotate_left; (focus (first | (go_simp; done) | (go_simp; with_reducible rfl) | (go_simp; rfl))); all_goals skip; (try simp only [List.set_cons_succ, List.set_cons_zero])
        refine wpAnyH_done (by kernel_rfl) ?_ _
        clear hr hlay hcnt hroom hop
        have H := hS
        clear hS
        go_upto_region 10 with fail
        replace hra := hra.keep (Ext.drew _ _)
        refine D_startX 9 #[false, false, false, false, false, false, false, false, false, false, false, false, false, false] (by kernel_rfl) H (by kernel_rfl) (fun hS => ?_)
        try simp only [Act.put, List.setIfInBounds_toArray, List.set_cons_succ, List.set_cons_zero]
        refine D_freeX 0 #[true, false, false, false, false, false, false, false, false, false, false, false, false, false] (by kernel_rfl) (v := ?_) rfl (by kernel_rfl) (by kernel_rfl) (by kernel_rfl) (by kernel_rfl) (fun _ _ _ h => h) rfl (by rfl) (fun W => ?_) hS ?_
        rotate_left; (focus (first | (go_simp; done) | (go_simp; with_reducible rfl) | (go_simp; rfl))); all_goals skip; (try simp only [List.set_cons_succ, List.set_cons_zero])
        refine D_freeX 1 #[true, true, false, false, false, false, false, false, false, false, false, false, false, false] (by kernel_rfl) (v := ?_) rfl (by kernel_rfl) (by kernel_rfl) (by kernel_rfl) (by kernel_rfl) (fun _ _ _ h => h) rfl (by rfl) (fun W => ?_) hS ?_
        rotate_left; (focus (first | (go_simp; done) | (go_simp; with_reducible rfl) | (go_simp; rfl))); all_goals skip; (try simp only [List.set_cons_succ, List.set_cons_zero])
        refine D_freeX 2 #[true, true, true, false, false, false, false, false, false, false, false, false, false, false] (by kernel_rfl) (v := ?_) rfl (by kernel_rfl) (by kernel_rfl) (by kernel_rfl) (by kernel_rfl) (fun _ _ _ h => h) rfl (by rfl) (fun W => ?_) hS ?_
        rotate_left; (focus (first | (go_simp; done) | (go_simp; with_reducible rfl) | (go_simp; rfl))); all_goals skip; (try simp only [List.set_cons_succ, List.set_cons_zero])
        refine D_freeX 3 #[true, true, true, true, false, false, false, false, false, false, false, false, false, false] (by kernel_rfl) (v := ?_) rfl (by kernel_rfl) (by kernel_rfl) (by kernel_rfl) (by kernel_rfl) (fun _ _ _ h => h) rfl (by rfl) (fun W => ?_) hS ?_
        rotate_left; (focus (first | (go_simp; done) | (go_simp; with_reducible rfl) | (go_simp; rfl))); all_goals skip; (try simp only [List.set_cons_succ, List.set_cons_zero])
        refine D_takeX 4 #[true, true, true, true, true, false, false, false, false, false, false, false, false, false] (by kernel_rfl) (v := (layV b slot log)) rfl (by kernel_rfl) (by kernel_rfl) (by kernel_rfl) (by kernel_rfl) (by kernel_rfl) (fun _ _ _ h => h) rfl (by rfl) (fun W hS => R_loadmid (ty := 65) (x := .tmp 51) (b := jb) (off := 0) rfl rfl (hS.at_ 0 rfl) Tryz.underlying65 rfl info65 [.pointer (some ⟨b, 0, none⟩), .int .i64 (slot : Int), .int .i64 (log : Int)] rfl (fun j hj => by rcases (show j = 0 ∨ j = 1 ∨ j = 2 by omega) with rfl | rfl | rfl <;> rfl)) hS ?_; (try simp only [List.set_cons_succ, List.set_cons_zero])
        refine D_freeX 5 #[true, true, true, true, true, true, false, false, false, false, false, false, false, false] (by kernel_rfl) (v := ?_) rfl (by kernel_rfl) (by kernel_rfl) (by kernel_rfl) (by kernel_rfl) (fun _ _ _ h => h) rfl (by rfl) (fun W => ?_) hS ?_
        rotate_left; (focus (first | (go_simp; done) | (go_simp; with_reducible rfl) | (go_simp; rfl))); all_goals skip; (try simp only [List.set_cons_succ, List.set_cons_zero])
        refine D_freeX 6 #[true, true, true, true, true, true, true, false, false, false, false, false, false, false] (by kernel_rfl) (v := ?_) rfl (by kernel_rfl) (by kernel_rfl) (by kernel_rfl) (by kernel_rfl) (fun _ _ _ h => h) rfl (by rfl) (fun W => ?_) hS ?_
        rotate_left; (focus (first | (go_simp; done) | (go_simp; with_reducible rfl) | (go_simp; rfl))); all_goals skip; (try simp only [List.set_cons_succ, List.set_cons_zero])
        refine D_freeX 7 #[true, true, true, true, true, true, true, true, false, false, false, false, false, false] (by kernel_rfl) (v := ?_) rfl (by kernel_rfl) (by kernel_rfl) (by kernel_rfl) (by kernel_rfl) (fun _ _ _ h => h) rfl (by rfl) (fun W => ?_) hS ?_
        rotate_left; (focus (first | (go_simp; done) | (go_simp; with_reducible rfl) | (go_simp; rfl))); all_goals skip; (try simp only [List.set_cons_succ, List.set_cons_zero])
        refine D_takeX 8 #[true, true, true, true, true, true, true, true, true, false, false, false, false, false] (by kernel_rfl) (v := ?_) rfl (by kernel_rfl) (by kernel_rfl) (by kernel_rfl) (by kernel_rfl) (by kernel_rfl) (fun _ _ _ h => h) rfl (by rfl) (fun W hS => ?_) hS ?_
        rotate_left; (focus (first | (refine R_load1 (ty := 3) (x := Operand.tmp 55) rfl hS 0 rfl rfl ?_ Tryz.isAgg3; rfl))); all_goals skip; (try simp only [List.set_cons_succ, List.set_cons_zero, List.getElem_toArray, List.getElem_cons_succ, List.getElem_cons_zero])
        refine D_freeX 10 #[true, true, true, true, true, true, true, true, true, false, true, false, false, false] (by kernel_rfl) (v := ?_) rfl (by kernel_rfl) (by kernel_rfl) (by kernel_rfl) (by kernel_rfl) (fun _ _ _ h => h) rfl (by rfl) (fun W => ?_) hS ?_
        rotate_left; (focus (first | (go_simp; done) | (go_simp; with_reducible rfl) | (go_simp; rfl))); all_goals skip; (try simp only [List.set_cons_succ, List.set_cons_zero])
        refine D_pX #[true, true, true, true, true, true, true, true, true, true, true, false, false, false] (by kernel_rfl) rfl (by kernel_rfl) (by rfl) ?_
        refine R_call (f := 39) (args := #[layV b slot log, .int .i64 us]) (by first | (go_simp; done) | (go_simp; rfl)) hlogs ?_
        rintro e w5 ⟨rfl, hE⟩
        have HW := hS.calls hE
        replace hra := hra.keep hE
        clear hS hE
        refine ⟨_, rfl, ?_⟩
        try simp only [Act.put, List.getElem_toArray, List.getElem_cons_succ, List.getElem_cons_zero, List.setIfInBounds_toArray, List.set_cons_succ, List.set_cons_zero]
        refine D_afterX 11 #[true, true, true, true, true, true, true, true, true, true, true, true, false, false] (by kernel_rfl) rfl (by kernel_rfl) (by rfl) (by kernel_rfl) ?_
        refine R_call (f := 30) (args := #[extV b p0 (2 * (slot : Int) + (log : Int)), .slice Aa y.length ca]) (by first | (go_simp; done) | (go_simp; rfl)) (hwr (HW.get 1 rfl) hra hap2) ?_
        rintro e w6 ⟨rfl, hE, hsay⟩
        have HW2 := HW.disk 1 rfl hE hsay
        simp only [List.set_cons_zero, List.set_cons_succ] at HW2
        clear HW hE hsay hra
        refine ⟨_, rfl, ?_⟩
        try simp only [Act.put, List.getElem_toArray, List.getElem_cons_succ, List.getElem_cons_zero, List.setIfInBounds_toArray, List.set_cons_succ, List.set_cons_zero]
        refine D_afterX 12 #[true, true, true, true, true, true, true, true, true, true, true, true, true, false] (by kernel_rfl) rfl (by kernel_rfl) (by rfl) (by kernel_rfl) ?_
        refine R_call (f := 48) (args := #[.pointer (some ⟨jb, 0, none⟩), .int .i64 e1]) (by first | (go_simp; done) | (go_simp; rfl)) (tried_any (b := b) (j := ⟨slot, log, ep, sq, pl, us, true, false⟩) _ e1 (HW2.at_ 0 rfl)) ?_
        rintro e w7 ⟨rfl, hE, hsay⟩
        have HW3 := HW2.blk 0 rfl hE hsay
        simp only [List.set_cons_zero, List.set_cons_succ] at HW3
        clear HW2 hE hsay
        refine ⟨_, rfl, ?_⟩
        try simp only [Act.put, List.getElem_toArray, List.getElem_cons_succ, List.getElem_cons_zero, List.setIfInBounds_toArray, List.set_cons_succ, List.set_cons_zero]
        refine D_afterX 13 #[true, true, true, true, true, true, true, true, true, true, true, true, true, true] (by kernel_rfl) rfl (by kernel_rfl) (by rfl) (by kernel_rfl) ?_
        refine wp_here (v := ?_) ?_ ?_; rotate_left; (focus (first | (go_simp; done) | (go_simp; with_reducible rfl) | (go_simp; rfl))); all_goals skip
        try simp only [Act.put, List.getElem_toArray, List.getElem_cons_succ, List.getElem_cons_zero, List.setIfInBounds_toArray, List.set_cons_succ, List.set_cons_zero]
        refine wpAnyX_done (by kernel_rfl) ?_ _
        by_cases he : e1 = 0
        · subst he
          have hrr : r = (d1.1, ⟨slot, log, ep, sq + 1, pl, u', true, false⟩, 0) := by rw [HA.out, if_neg (by simp)]
          have HR := Lib.hid hrr
          clear hrr
          have H := HW3
          clear HW3
          simp only [jCells, ne_eq, not_true_eq_false, decide_false] at H
          go_wp2_with (first
            | (refine L_load1 rfl rfl H 0 rfl rfl rfl Tryz.isAgg3 ?_; (try simp only [Act.put, List.setIfInBounds_toArray, List.set_cons_succ, List.set_cons_zero, List.getElem_toArray, List.getElem_cons_succ, List.getElem_cons_zero])) | (refine L_store1 rfl rfl H 0 rfl rfl rfl rfl rfl (Nat.le_of_ble_eq_true rfl) Tryz.sizeOf3 ?_; clear H; intro w H; simp only [List.set_cons_zero, List.set_cons_succ, List.setIfInBounds_toArray, Act.eval, Array.getD_eq_getD_getElem?, List.getElem?_toArray, List.getElem?_cons_succ, List.getElem?_cons_zero, Option.getD_some] at H; (try simp only [Act.put, List.setIfInBounds_toArray, List.set_cons_succ, List.set_cons_zero, List.getElem_toArray, List.getElem_cons_succ, List.getElem_cons_zero])))
          go_ret
          rw [HR.out]
          exact ⟨rfl, H.ext, JD.shut H⟩
        · have hrr : r = (d1.1, ⟨slot, log, ep, sq, pl, us, true, true⟩, e1) := by rw [HA.out, if_pos he]
          have HR := Lib.hid hrr
          have hde : decide (e1 ≠ 0) = true := decide_eq_true he
          have H := HW3
          clear HW3 hrr
          simp only [hde] at H
          clear hde
          go_wp2_with fail
          go_ret
          rw [HR.out]
          exact ⟨rfl, H.ext, JD.shut H⟩
  · have hap : appendP d j xs = (d, j, j.bar) := by
      unfold appendP JS.bar
      unfold JS.bar at hbar
      cases h1 : j.refused
      · cases h2 : j.fresh
        · simp
        · rw [h1, h2] at hbar; simp at hbar
      · simp
    rw [hap]
    obtain ⟨q, hq⟩ : ∃ q, j.bar = q := ⟨_, rfl⟩
    rw [hq] at hop hbar ⊢
    clear hap hq h hr
    go_enter Tryz.func20, Tryz.ntmps20
    go_wp2_with (first
      | (go_at_call 47; refine hop.mono ?_; rintro e1 w1 ⟨rfl, hE⟩; replace H := H.calls hE; clear hE))
    go_ret
    exact ⟨rfl, H.ext, JD.shut H⟩
set_option maxRecDepth 100000 in
set_option maxHeartbeats 4000000 in
theorem commit_any {b bs bm jb : Nat} {d : DS} {j : JS} {W0 : Int} (w0 : World) (h : (JD b bs bm jb d j).says w0) (hf : d.Fine W0) : Calls Tryz.prog 16 #[.pointer (some ⟨jb, 0, none⟩)] w0 (JE b bs bm jb d j (commitP d j) w0) := by
  have H := JD.open_ h
  have hop := jopen_any w0 h.2.1
  by_cases hbar : j.bar = 0
  · have hrf : j.refused = false ∧ j.fresh = true := by
      unfold JS.bar at hbar
      cases h1 : j.refused
      · cases h2 : j.fresh
        · rw [h1, h2] at hbar; simp at hbar
        · exact ⟨rfl, rfl⟩
      · rw [h1] at hbar; simp at hbar
    rw [hbar] at hop
    obtain ⟨slot, log, ep, sq, pl, us, fr, re⟩ := j
    obtain ⟨h1, h2⟩ := hrf
    simp only at h1 h2
    subst h1 h2
    have hap : commitP d ⟨slot, log, ep, sq, pl, us, true, false⟩ = (d.flushR.1, ⟨slot, log, ep, sq, pl, us, true, decide (d.flushR.2 ≠ 0)⟩, d.flushR.2) := rfl
    have HF := Lib.hid (And.intro hf hap)
    obtain ⟨d1, hd1⟩ : ∃ d1, d.flushR = d1 := ⟨_, rfl⟩
    have hfl := fun {w : World} (hD : (DiskA b bs bm d).says w) => dflush hD HF.out.1
    rw [hap]
    rw [hd1] at hfl ⊢
    obtain ⟨e1, he1⟩ : ∃ e1, d1.2 = e1 := ⟨_, rfl⟩
    simp only [he1] at hfl ⊢
    clear hf hap hd1 he1 hbar h
    simp only [jCells] at H
    go_enter Tryz.func16, Tryz.ntmps16
    go_wp2_with (first
      | (go_at_call 47; refine hop.mono ?_; rintro e1 w1 ⟨rfl, hE⟩; replace H := H.calls hE; clear hE)
      | (refine L_load1 rfl rfl H 0 rfl rfl rfl Tryz.isAgg24 ?_; (try simp only [Act.put, List.setIfInBounds_toArray, List.set_cons_succ, List.set_cons_zero, List.getElem_toArray, List.getElem_cons_succ, List.getElem_cons_zero]))
      | (go_at_call 31; refine (hfl (H.get 1 rfl)).mono ?_; rintro e1 w4 ⟨rfl, hE, hsay⟩; replace H := H.disk 1 rfl hE hsay; simp only [List.set_cons_zero, List.set_cons_succ] at H; clear hE hsay)
      | (go_at_call 48; refine (tried_any (b := b) (j := ⟨slot, log, ep, sq, pl, us, true, false⟩) _ e1 (H.at_ 0 rfl)).mono ?_; rintro e1 w5 ⟨rfl, hE, hsay⟩; replace H := H.blk 0 rfl hE hsay; simp only [List.set_cons_zero, List.set_cons_succ] at H; clear hE hsay))
    go_ret
    exact ⟨rfl, H.ext, JD.shut H⟩
  · have hap : commitP d j = (d, j, j.bar) := by
      unfold commitP JS.bar
      unfold JS.bar at hbar
      cases h1 : j.refused
      · cases h2 : j.fresh
        · simp
        · rw [h1, h2] at hbar; simp at hbar
      · simp
    rw [hap]
    obtain ⟨q, hq⟩ : ∃ q, j.bar = q := ⟨_, rfl⟩
    rw [hq] at hop hbar ⊢
    clear hap hq h
    go_enter Tryz.func16, Tryz.ntmps16
    go_wp2_with (first
      | (go_at_call 47; refine hop.mono ?_; rintro e1 w1 ⟨rfl, hE⟩; replace H := H.calls hE; clear hE))
    go_ret
    exact ⟨rfl, H.ext, JD.shut H⟩
end Go.Proofs.YtgmeahogdjhejaaGreatDoor
