/- Journals: Checkpoint. -/
import Derived.Test.YtgmeahogdjhejaaGreatDoorWalW
namespace Go.Proofs.YtgmeahogdjhejaaGreatDoor
set_option linter.unusedVariables false
set_option linter.unusedSimpArgs false
open Go.RowKit Go.Shelf

theorem numB4 (s : List Int) (hl : s.length = 32) (hs : ∀ x ∈ s, 0 ≤ x ∧ x ≤ 255) : 0 ≤ epochP s ∧ epochP s ≤ 4294967295 := by
  have h := numB_lt 4 ((s.drop 24).take 4) (by rw [List.length_take, List.length_drop]; omega) (fun x hx => hs x (List.mem_of_mem_drop (List.mem_of_mem_take hx)))
  unfold epochP
  omega
theorem top_u32 {d : DS} {W : Int} (hf : d.Fine W) : ∀ n, n ≤ d.sure.length → 0 ≤ topP d n ∧ topP d n ≤ 4294967295
  | 0, _ => ⟨Int.le_refl _, by show (0 : Int) ≤ _; omega⟩
  | n + 1, hn => by
    have ih := top_u32 hf n (by omega)
    have h1 := numB4 (d.sec n) (DS.sec_len hf (by omega)) (DS.sec_bytes hf (by omega))
    unfold topP at ih ⊢
    rw [List.range_succ, List.foldl_append, List.foldl_cons, List.foldl_nil]
    omega
set_option maxRecDepth 100000 in
set_option maxHeartbeats 8000000 in
theorem checkpoint_any {b bs bm jb : Nat} {d : DS} {j : JS} {W0 : Int} (w0 : World) (h : (JD b bs bm jb d j).says w0) (hf : d.Fine W0) (hW : W0 ≤ 100000000) (hj : j.Ok d.sure.length) {v : Value} {xs : List Int} (hr : RdS (encInt .u8) 1 w0 v xs) (hb : ∀ x ∈ xs, 0 ≤ x ∧ x ≤ 255) :
    Calls Tryz.prog 18 #[.pointer (some ⟨jb, 0, none⟩), v] w0 (JE b bs bm jb d j (checkpointP d j xs) w0) := by
  obtain ⟨A, cap, rfl, hcap⟩ := hr.len
  have H := JD.open_ h
  have hlen := hf.len
  have hop := ready_any w0 h.2.1
  obtain ⟨slot, log, ep, sq, pl, us, fr, re⟩ := j
  obtain ⟨hmay, hep, hsq, hpl, hus⟩ := hj
  simp only at hmay hep hsq hpl hus hop
  clear hep hus
  cases re
  · simp only [Bool.false_eq_true, if_false] at hop
    have hms : 2 * slot + log ≤ d.sure.length := by have := hmay.2.2.2.2; omega
    have hs1 : 1 ≤ slot := by have := hmay.1; omega
    have htop := fun {w : World} (hD : (DiskA b bs bm d).says w) => top_any w hD hf slot log hs1 hms
    have htu := top_u32 hf (2 * slot + log) hms
    have hwe : IntKind.i64.wrap (topP d (2 * slot + log) + 1) = topP d (2 * slot + log) + 1 := by rw [IntKind.wrap_i64]; omega
    have hcp : checkpointP d ⟨slot, log, ep, sq, pl, us, fr, false⟩ xs =
        if recErr slot (topP d (2 * slot + log) + 1) xs.length ≠ 0 then (d, ⟨slot, log, ep, sq, pl, us, fr, false⟩, recErr slot (topP d (2 * slot + log) + 1) xs.length)
        else if (d.lay ((1 - pl) * slot) (countP xs.length) (layP (topP d (2 * slot + log) + 1) sq xs)).2 ≠ 0 then ((d.lay ((1 - pl) * slot) (countP xs.length) (layP (topP d (2 * slot + log) + 1) sq xs)).1, ⟨slot, log, ep, sq, pl, us, fr, true⟩, (d.lay ((1 - pl) * slot) (countP xs.length) (layP (topP d (2 * slot + log) + 1) sq xs)).2)
        else if (d.lay ((1 - pl) * slot) (countP xs.length) (layP (topP d (2 * slot + log) + 1) sq xs)).1.flushR.2 ≠ 0 then ((d.lay ((1 - pl) * slot) (countP xs.length) (layP (topP d (2 * slot + log) + 1) sq xs)).1.flushR.1, ⟨slot, log, ep, sq, pl, us, fr, true⟩, (d.lay ((1 - pl) * slot) (countP xs.length) (layP (topP d (2 * slot + log) + 1) sq xs)).1.flushR.2)
        else ((d.lay ((1 - pl) * slot) (countP xs.length) (layP (topP d (2 * slot + log) + 1) sq xs)).1.flushR.1, ⟨slot, log, topP d (2 * slot + log) + 1, sq, 1 - pl, 0, true, false⟩, 0) := rfl
    obtain ⟨t, ht⟩ : ∃ t, topP d (2 * slot + log) = t := ⟨_, rfl⟩
    rw [ht] at htop htu hwe hcp
    have hrec := fun {w : World} (hr : RdS (encInt .u8) 1 w (.slice A xs.length cap) xs) => record_any b slot (log : Int) (t + 1) sq (.slice A xs.length cap) xs w (by omega) hsq hr hb
    unfold RecE at hrec
    obtain ⟨n, hn⟩ : ∃ n, xs.length = n := ⟨_, rfl⟩
    have hlen2 := layP_len (t + 1) sq xs
    rw [hn] at hcp hrec hr hcap hlen2 ⊢
    have HF := Lib.hid (And.intro hf (And.intro hmay (And.intro hb hlen2)))
    have HU := Lib.hid (And.intro ht (And.intro hn (And.intro htu (And.intro hsq hpl))))
    obtain ⟨r, hre⟩ : ∃ r, checkpointP d ⟨slot, log, ep, sq, pl, us, fr, false⟩ xs = r := ⟨_, rfl⟩
    rw [hre] at hcp ⊢
    clear hf hmay hb hlen2 ht hn htu hsq hre h
    simp only [jCells] at H
    by_cases hc : recErr slot (t + 1) n = 0
    · have hrec2 := fun {w : World} (hr : RdS (encInt .u8) 1 w (.slice A n cap) xs) => (hrec hr).mono (R' := LayE (layP (t + 1) sq xs) w) (fun e w' h => h.elim (fun h => absurd hc h.1) (fun h => h.2))
      unfold LayE at hrec2
      rw [if_neg (fun h => h hc)] at hcp
      obtain ⟨htt, hn, htu, hsq, hpl⟩ := HU.out
      have hn65 : n ≤ 65535 := by unfold recErr at hc; split at hc <;> omega
      have hcz : 1 ≤ countP n ∧ countP n ≤ 10000 := by unfold countP; omega
      have hcs : countP n ≤ slot := by unfold recErr at hc; split at hc <;> (try split at hc) <;> omega
      obtain ⟨c, hcc⟩ : ∃ c, countP n = c := ⟨_, rfl⟩
      have hlen2 := HF.out.2.2.2
      rw [hcc] at hlen2
      rw [hcc] at hcp hcz hcs
      have hop1 : IntKind.i64.wrap (1 - (pl : Int)) = ((1 - pl : Nat) : Int) := by rw [IntKind.wrap_i64]; omega
      obtain ⟨o, ho⟩ : ∃ o, 1 - pl = o := ⟨_, rfl⟩
      rw [ho] at hop1 hcp
      have ho1 : o ≤ 1 := by omega
      have hos : o * slot + slot ≤ 2 * slot := by rcases (show o = 0 ∨ o = 1 by omega) with rfl | rfl <;> omega
      have hp0 : IntKind.i64.wrap ((o : Int) * (slot : Int)) = ((o * slot : Nat) : Int) := by rw [IntKind.wrap_i64]; push_cast; rcases (show o = 0 ∨ o = 1 by omega) with rfl | rfl <;> omega
      have hp1 : IntKind.i64.wrap ((o : Int) + 1) = (o : Int) + 1 := by rw [IntKind.wrap_i64]; omega
      have hp2 : IntKind.i64.wrap (((o : Int) + 1) * (slot : Int)) = ((o * slot + slot : Nat) : Int) := by rw [IntKind.wrap_i64]; push_cast; rcases (show o = 0 ∨ o = 1 by omega) with rfl | rfl <;> omega
      have hplace := fun {w : World} => place_any b (slot : Int) (log : Int) o _ _ _ w hp0 hp1 hp2
      have hfl := HF.out.1.lay c (o * slot) (lay_bytes (e := t + 1) (q := sq) HF.out.2.2.1)
      have hwr := fun {w : World} {Aa : Option Addr} {ca : Nat} (hD : (DiskA b bs bm d).says w) (hr : RdS (encInt .u8) 1 w (.slice Aa (layP (t + 1) sq xs).length ca) (layP (t + 1) sq xs)) (hap2 : ∀ j, (Value.slice Aa (layP (t + 1) sq xs).length ca).ownBlock = some j → ¬ (DiskA b bs bm d).fp j) =>
        ewrite_at w hD HF.out.1 (by omega) (o * slot) c ((o * slot : Nat) : Int) ((o * slot + slot : Nat) : Int) rfl hr (lay_bytes HF.out.2.2.1) hlen2 (by omega) (by omega) hap2
      unfold WriteE at hwr
      obtain ⟨y, hy⟩ : ∃ y, layP (t + 1) sq xs = y := ⟨_, rfl⟩
      obtain ⟨p0, hp00⟩ : ∃ p0 : Int, ((o * slot : Nat) : Int) = p0 := ⟨_, rfl⟩
      obtain ⟨q0, hq00⟩ : ∃ q0 : Int, ((o * slot + slot : Nat) : Int) = q0 := ⟨_, rfl⟩
      rw [hp00, hq00] at hplace hwr
      rw [hy] at hcp hrec2 hfl hwr
      obtain ⟨d1, hd1⟩ : ∃ d1, d.lay (o * slot) c y = d1 := ⟨_, rfl⟩
      rw [hd1] at hcp hfl hwr
      obtain ⟨e1, he1⟩ : ∃ e1, d1.2 = e1 := ⟨_, rfl⟩
      simp only [he1] at hcp hwr
      have hflu := fun {w : World} (hD : (DiskA b bs bm d1.1).says w) => dflush hD hfl
      obtain ⟨d2, hd2⟩ : ∃ d2, d1.1.flushR = d2 := ⟨_, rfl⟩
      rw [hd2] at hflu hcp
      obtain ⟨e2, he2⟩ : ∃ e2, d2.2 = e2 := ⟨_, rfl⟩
      simp only [he2] at hcp hflu
      obtain ⟨t1, ht1⟩ : ∃ t1, t + 1 = t1 := ⟨_, rfl⟩
      replace hwe := hwe.trans ht1
      rw [ht1] at hcp hrec2
      have HA := Lib.hid hcp
      clear htt hn htu hsq hpl hn65 hcz hcs hcc hlen2 ho1 hos hp0 hp1 hp2 hy hp00 hq00 hd1 he1 hd2 he2 ht1 hcp hfl hc hrec ho hms hs1
      go_enter Tryz.func18, Tryz.ntmps18
      go_upto_region 5 with (first
        | (refine L_loadmidp (off := 0) (ty := 65) rfl rfl H 0 rfl rfl Tryz.underlying65 rfl info65 [.pointer (some ⟨b, 0, none⟩), .int .i64 (slot : Int), .int .i64 (log : Int)] rfl (fun j hj => by rcases (show j = 0 ∨ j = 1 ∨ j = 2 by omega) with rfl | rfl | rfl <;> rfl) ?_; (try simp only [Act.put, List.setIfInBounds_toArray, List.set_cons_succ, List.set_cons_zero, List.getElem_toArray, List.getElem_cons_succ, List.getElem_cons_zero]))
        | (go_at_call 50; refine hop.mono ?_; rintro e1 w1 ⟨rfl, hE⟩; replace H := H.calls hE; replace hr := hr.keep hE; clear hE)
        | (go_at_call 51; refine (htop (H.get 1 rfl)).mono ?_; rintro e1 w1 ⟨rfl, hE⟩; replace H := H.calls hE; replace hr := hr.keep hE; clear hE))
      replace hr := hr.keep (Ext.drew _ _)
      refine D_start H (by kernel_rfl) (fun hS => ?_)
      try simp only [Act.put, List.setIfInBounds_toArray, List.set_cons_succ, List.set_cons_zero]
      refine D_take 0 (v := ?_) rfl (by kernel_rfl) (by kernel_rfl) (by kernel_rfl) (fun _ _ _ h => h) rfl (by rfl) (fun W hS => ?_) hS ?_
      rotate_left; (focus (first | (go_simp; done) | (go_simp; with_reducible rfl) | (go_simp; rfl))); all_goals skip; (try simp only [List.set_cons_succ, List.set_cons_zero])
      refine D_take 1 (v := ?_) rfl (by kernel_rfl) (by kernel_rfl) (by kernel_rfl) (fun _ _ _ h => h) rfl (by rfl) (fun W hS => ?_) hS ?_
      rotate_left; (focus (first | (go_simp; done) | (go_simp; with_reducible rfl) | (go_simp; rfl))); all_goals skip; (try simp only [List.set_cons_succ, List.set_cons_zero])
      refine D_take 2 (v := ?_) rfl (by kernel_rfl) (by kernel_rfl) (by kernel_rfl) (fun _ _ _ h => h) rfl (by rfl) (fun W hS => ?_) hS ?_
      rotate_left; (focus (first | (go_simp; done) | (go_simp; with_reducible rfl) | (go_simp; rfl))); all_goals skip; (try simp only [List.set_cons_succ, List.set_cons_zero])
      refine D_take 3 (v := (layV b slot log)) rfl (by kernel_rfl) (by kernel_rfl) (by kernel_rfl) (fun _ _ _ h => h) rfl (by rfl) (fun W hS => R_loadmid (ty := 65) (x := .tmp 26) (b := jb) (off := 0) rfl rfl (hS.at_ 0 rfl) Tryz.underlying65 rfl info65 [.pointer (some ⟨b, 0, none⟩), .int .i64 (slot : Int), .int .i64 (log : Int)] rfl (fun j hj => by rcases (show j = 0 ∨ j = 1 ∨ j = 2 by omega) with rfl | rfl | rfl <;> rfl)) hS ?_; (try simp only [List.set_cons_succ, List.set_cons_zero])
      refine D_take 4 (v := ?_) rfl (by kernel_rfl) (by kernel_rfl) (by kernel_rfl) (fun _ _ _ h => h) rfl (by rfl) (fun W hS => ?_) hS ?_
      rotate_left; (focus (first | (go_simp; done) | (go_simp; with_reducible rfl) | (go_simp; rfl))); all_goals skip; (try simp only [List.set_cons_succ, List.set_cons_zero])
      refine D_take 5 (v := ?_) rfl (by kernel_rfl) (by kernel_rfl) (by kernel_rfl) (fun _ _ _ h => h) rfl (by rfl) (fun W hS => ?_) hS ?_
      rotate_left; (focus (first | (go_simp; done) | (go_simp; with_reducible rfl) | (go_simp; rfl))); all_goals skip; (try simp only [List.set_cons_succ, List.set_cons_zero])
      refine D_take 6 (v := ?_) rfl (by kernel_rfl) (by kernel_rfl) (by kernel_rfl) (fun _ _ _ h => h) rfl (by rfl) (fun W hS => ?_) hS ?_
      rotate_left; (focus (first | (go_simp; done) | (go_simp; with_reducible rfl) | (go_simp; rfl))); all_goals skip; (try simp only [List.set_cons_succ, List.set_cons_zero])
      refine D_take 7 (v := ?_) rfl (by kernel_rfl) (by kernel_rfl) (by kernel_rfl) (fun _ _ _ h => h) rfl (by rfl) (fun W hS => ?_) hS ?_
      rotate_left; (focus (first | (go_simp; done) | (go_simp; with_reducible rfl) | (go_simp; rfl))); all_goals skip; (try simp only [List.set_cons_succ, List.set_cons_zero])
      refine D_take 8 (v := ?_) rfl (by kernel_rfl) (by kernel_rfl) (by kernel_rfl) (fun _ _ _ h => h) rfl (by rfl) (fun W hS => ?_) hS ?_
      rotate_left; (focus (first | (refine R_load1 (ty := 3) (x := Operand.tmp 31) rfl hS 0 rfl rfl ?_ Tryz.isAgg3; rfl))); all_goals skip; (try simp only [List.set_cons_succ, List.set_cons_zero, List.getElem_toArray, List.getElem_cons_succ, List.getElem_cons_zero])
      refine D_take 9 (v := ?_) rfl (by kernel_rfl) (by kernel_rfl) (by kernel_rfl) (fun _ _ _ h => h) rfl (by rfl) (fun W hS => ?_) hS ?_
      rotate_left; (focus (first | (go_simp; done) | (go_simp; with_reducible rfl) | (go_simp; rfl))); all_goals skip; (try simp only [List.set_cons_succ, List.set_cons_zero])
      refine D_one 10 rfl (by kernel_rfl) (by rfl) ?_
      refine R_call (f := 28) (args := #[layV b slot log, .int .i64 t1, .int .i64 sq, .slice A n cap]) (by first | (go_simp; done) | (go_simp; rfl)) (hrec2 hr) ?_
      rintro e w9 ⟨va, rfl, hra, hE, hfr⟩
      have hap2 := fun j hj (hfp : (DiskA b bs bm d).fp j) => Nat.lt_irrefl _ (Nat.lt_of_lt_of_le (DiskA.fp_lt (hS.get 1 rfl) hfp) (hfr j hj))
      obtain ⟨Aa, ca, rfl⟩ := hra.isSlice
      have hS2 := hS.calls hE
      clear hS hE hfr
      have hS := hS2
      clear hS2
      refine ⟨_, rfl, hS, ?_⟩
      try simp only [Act.put, List.getElem_toArray, List.getElem_cons_succ, List.getElem_cons_zero, List.setIfInBounds_toArray, List.set_cons_succ, List.set_cons_zero]
      refine D_take 11 (v := ?_) rfl (by kernel_rfl) (by kernel_rfl) (by kernel_rfl) (fun _ _ _ h => h) rfl (by rfl) (fun W hS => ?_) hS ?_
      rotate_left; (focus (first | (go_simp; done) | (go_simp; with_reducible rfl) | (go_simp; rfl))); all_goals skip; (try simp only [List.set_cons_succ, List.set_cons_zero])
      refine D_take 12 (v := ?_) rfl (by kernel_rfl) (by kernel_rfl) (by kernel_rfl) (fun _ _ _ h => h) rfl (by rfl) (fun W hS => ?_) hS ?_
      rotate_left; (focus (first | (go_simp; done) | (go_simp; with_reducible rfl) | (go_simp; rfl))); all_goals skip; (try simp only [List.set_cons_succ, List.set_cons_zero])
      refine D_take 13 (v := ?_) rfl (by kernel_rfl) (by kernel_rfl) (by kernel_rfl) (fun _ _ _ h => h) rfl (by rfl) (fun W hS => ?_) hS ?_
      rotate_left; (focus (first | (go_simp; done) | (go_simp; with_reducible rfl) | (go_simp; rfl))); all_goals skip; (try simp only [List.set_cons_succ, List.set_cons_zero])
      refine D_take 14 (v := ?_) rfl (by kernel_rfl) (by kernel_rfl) (by kernel_rfl) (fun _ _ _ h => h) rfl (by rfl) (fun W hS => ?_) hS ?_
      rotate_left; (focus (first | (go_simp; done) | (go_simp; with_reducible rfl) | (go_simp; rfl))); all_goals skip; (try simp only [List.set_cons_succ, List.set_cons_zero])
      refine D_take 15 (v := ?_) rfl (by kernel_rfl) (by kernel_rfl) (by kernel_rfl) (fun _ _ _ h => h) rfl (by rfl) (fun W hS => ?_) hS ?_
      rotate_left; (focus (first | (go_simp; done) | (go_simp; with_reducible rfl) | (go_simp; rfl))); all_goals skip; (try simp only [List.set_cons_succ, List.set_cons_zero])
      refine wpAnyH_done (by kernel_rfl) ?_ _
      have H := hS
      clear hS hr hrec2 htop hop
      go_upto_region 10 with (first
        | (refine L_load1 rfl rfl H 0 rfl rfl rfl Tryz.isAgg3 ?_; (try simp only [Act.put, List.setIfInBounds_toArray, List.set_cons_succ, List.set_cons_zero, List.getElem_toArray, List.getElem_cons_succ, List.getElem_cons_zero]))
        | (refine L_loadmidp (off := 0) (ty := 65) rfl rfl H 0 rfl rfl Tryz.underlying65 rfl info65 [.pointer (some ⟨b, 0, none⟩), .int .i64 (slot : Int), .int .i64 (log : Int)] rfl (fun j hj => by rcases (show j = 0 ∨ j = 1 ∨ j = 2 by omega) with rfl | rfl | rfl <;> rfl) ?_; (try simp only [Act.put, List.setIfInBounds_toArray, List.set_cons_succ, List.set_cons_zero, List.getElem_toArray, List.getElem_cons_succ, List.getElem_cons_zero]))
        | (go_at_call 29; refine hplace.mono ?_; rintro e1 w2 ⟨rfl, hE⟩; replace H := H.calls hE; replace hra := hra.keep hE; clear hE)
        | (go_at_call 30; refine (hwr (H.get 1 rfl) hra hap2).mono ?_; rintro e1 w3 ⟨rfl, hE, hsay⟩; replace H := H.disk 1 rfl hE hsay; simp only [List.set_cons_zero, List.set_cons_succ] at H; clear hE hsay)
        | (go_at_call 48; refine (tried_any (b := b) (j := ⟨slot, log, ep, sq, pl, us, fr, false⟩) _ e1 (H.at_ 0 rfl)).mono ?_; rintro e1 w5 ⟨rfl, hE, hsay⟩; replace H := H.blk 0 rfl hE hsay; simp only [List.set_cons_zero, List.set_cons_succ] at H; clear hE hsay))
      clear hap2 hra hwr hplace
      by_cases he : e1 = 0
      · subst he
        simp only [jCells, ne_eq, not_true_eq_false, decide_false] at H
        go_upto_region 13 with (first
          | (refine L_load1 rfl rfl H 0 rfl rfl rfl Tryz.isAgg24 ?_; (try simp only [Act.put, List.setIfInBounds_toArray, List.set_cons_succ, List.set_cons_zero, List.getElem_toArray, List.getElem_cons_succ, List.getElem_cons_zero]))
          | (go_at_call 31; refine (hflu (H.get 1 rfl)).mono ?_; rintro e1 w4 ⟨rfl, hE, hsay⟩; replace H := H.disk 1 rfl hE hsay; simp only [List.set_cons_zero, List.set_cons_succ] at H; clear hE hsay)
          | (go_at_call 48; refine (tried_any (b := b) (j := ⟨slot, log, ep, sq, pl, us, fr, false⟩) _ e2 (H.at_ 0 rfl)).mono ?_; rintro e1 w5 ⟨rfl, hE, hsay⟩; replace H := H.blk 0 rfl hE hsay; simp only [List.set_cons_zero, List.set_cons_succ] at H; clear hE hsay))
        by_cases he2 : e2 = 0
        · subst he2
          have hrr : r = (d2.1, ⟨slot, log, t1, sq, o, 0, true, false⟩, 0) := by rw [HA.out, if_neg (by simp), if_neg (by simp)]
          have HR := Lib.hid hrr
          clear hrr
          simp only [jCells, ne_eq, not_true_eq_false, decide_false] at H
          go_wp2_with (first
            | (refine L_store1 rfl rfl H 0 rfl rfl rfl rfl rfl (Nat.le_of_ble_eq_true rfl) Tryz.sizeOf3 ?_; clear H; intro w H; simp only [List.set_cons_zero, List.set_cons_succ, List.setIfInBounds_toArray, Act.eval, Array.getD_eq_getD_getElem?, List.getElem?_toArray, List.getElem?_cons_succ, List.getElem?_cons_zero, Option.getD_some] at H; (try simp only [Act.put, List.setIfInBounds_toArray, List.set_cons_succ, List.set_cons_zero, List.getElem_toArray, List.getElem_cons_succ, List.getElem_cons_zero])) | (refine L_store1 rfl rfl H 0 rfl rfl rfl rfl rfl (Nat.le_of_ble_eq_true rfl) Tryz.sizeOf4 ?_; clear H; intro w H; simp only [List.set_cons_zero, List.set_cons_succ, List.setIfInBounds_toArray, Act.eval, Array.getD_eq_getD_getElem?, List.getElem?_toArray, List.getElem?_cons_succ, List.getElem?_cons_zero, Option.getD_some] at H; (try simp only [Act.put, List.setIfInBounds_toArray, List.set_cons_succ, List.set_cons_zero, List.getElem_toArray, List.getElem_cons_succ, List.getElem_cons_zero])))
          go_ret
          rw [HR.out]
          exact ⟨rfl, H.ext, JD.shut H⟩
        · have hrr : r = (d2.1, ⟨slot, log, ep, sq, pl, us, fr, true⟩, e2) := by rw [HA.out, if_neg (by simp), if_pos he2]
          have HR := Lib.hid hrr
          have hde : decide (e2 ≠ 0) = true := decide_eq_true he2
          simp only [hde] at H
          clear hde hrr
          go_wp2_with fail
          go_ret
          rw [HR.out]
          exact ⟨rfl, H.ext, JD.shut H⟩
      · have hrr : r = (d1.1, ⟨slot, log, ep, sq, pl, us, fr, true⟩, e1) := by rw [HA.out, if_pos he]
        have HR := Lib.hid hrr
        have hde : decide (e1 ≠ 0) = true := decide_eq_true he
        simp only [hde] at H
        clear hde hrr
        go_wp2_with fail
        go_ret
        rw [HR.out]
        exact ⟨rfl, H.ext, JD.shut H⟩
    · have hrec2 := fun {w : World} (hr : RdS (encInt .u8) 1 w (.slice A n cap) xs) => (hrec hr).mono (R' := fun e w' => e = .returned (.tuple #[.slice none 0 0, .int .i64 (recErr slot (t + 1) n)]) ∧ Ext0 w w') (fun e w' h => h.elim (fun h => h.2) (fun h => absurd h.1 hc))
      rw [if_pos hc] at hcp
      obtain ⟨q, hq⟩ : ∃ q, recErr slot (t + 1) n = q := ⟨_, rfl⟩
      rw [hq] at hrec2 hcp hc
      have HA := Lib.hid hcp
      obtain ⟨t1, ht1⟩ : ∃ t1, t + 1 = t1 := ⟨_, rfl⟩
      replace hwe := hwe.trans ht1
      rw [ht1] at hrec2
      clear hcp hrec hq ht1 hms hs1
      go_enter Tryz.func18, Tryz.ntmps18
      go_upto_region 5 with (first
        | (refine L_loadmidp (off := 0) (ty := 65) rfl rfl H 0 rfl rfl Tryz.underlying65 rfl info65 [.pointer (some ⟨b, 0, none⟩), .int .i64 (slot : Int), .int .i64 (log : Int)] rfl (fun j hj => by rcases (show j = 0 ∨ j = 1 ∨ j = 2 by omega) with rfl | rfl | rfl <;> rfl) ?_; (try simp only [Act.put, List.setIfInBounds_toArray, List.set_cons_succ, List.set_cons_zero, List.getElem_toArray, List.getElem_cons_succ, List.getElem_cons_zero]))
        | (go_at_call 50; refine hop.mono ?_; rintro e1 w1 ⟨rfl, hE⟩; replace H := H.calls hE; replace hr := hr.keep hE; clear hE)
        | (go_at_call 51; refine (htop (H.get 1 rfl)).mono ?_; rintro e1 w1 ⟨rfl, hE⟩; replace H := H.calls hE; replace hr := hr.keep hE; clear hE))
      replace hr := hr.keep (Ext.drew _ _)
      refine D_start H (by kernel_rfl) (fun hS => ?_)
      try simp only [Act.put, List.setIfInBounds_toArray, List.set_cons_succ, List.set_cons_zero]
      refine D_take 0 (v := ?_) rfl (by kernel_rfl) (by kernel_rfl) (by kernel_rfl) (fun _ _ _ h => h) rfl (by rfl) (fun W hS => ?_) hS ?_
      rotate_left; (focus (first | (go_simp; done) | (go_simp; with_reducible rfl) | (go_simp; rfl))); all_goals skip; (try simp only [List.set_cons_succ, List.set_cons_zero])
      refine D_take 1 (v := ?_) rfl (by kernel_rfl) (by kernel_rfl) (by kernel_rfl) (fun _ _ _ h => h) rfl (by rfl) (fun W hS => ?_) hS ?_
      rotate_left; (focus (first | (go_simp; done) | (go_simp; with_reducible rfl) | (go_simp; rfl))); all_goals skip; (try simp only [List.set_cons_succ, List.set_cons_zero])
      refine D_take 2 (v := ?_) rfl (by kernel_rfl) (by kernel_rfl) (by kernel_rfl) (fun _ _ _ h => h) rfl (by rfl) (fun W hS => ?_) hS ?_
      rotate_left; (focus (first | (go_simp; done) | (go_simp; with_reducible rfl) | (go_simp; rfl))); all_goals skip; (try simp only [List.set_cons_succ, List.set_cons_zero])
      refine D_take 3 (v := (layV b slot log)) rfl (by kernel_rfl) (by kernel_rfl) (by kernel_rfl) (fun _ _ _ h => h) rfl (by rfl) (fun W hS => R_loadmid (ty := 65) (x := .tmp 26) (b := jb) (off := 0) rfl rfl (hS.at_ 0 rfl) Tryz.underlying65 rfl info65 [.pointer (some ⟨b, 0, none⟩), .int .i64 (slot : Int), .int .i64 (log : Int)] rfl (fun j hj => by rcases (show j = 0 ∨ j = 1 ∨ j = 2 by omega) with rfl | rfl | rfl <;> rfl)) hS ?_; (try simp only [List.set_cons_succ, List.set_cons_zero])
      refine D_take 4 (v := ?_) rfl (by kernel_rfl) (by kernel_rfl) (by kernel_rfl) (fun _ _ _ h => h) rfl (by rfl) (fun W hS => ?_) hS ?_
      rotate_left; (focus (first | (go_simp; done) | (go_simp; with_reducible rfl) | (go_simp; rfl))); all_goals skip; (try simp only [List.set_cons_succ, List.set_cons_zero])
      refine D_take 5 (v := ?_) rfl (by kernel_rfl) (by kernel_rfl) (by kernel_rfl) (fun _ _ _ h => h) rfl (by rfl) (fun W hS => ?_) hS ?_
      rotate_left; (focus (first | (go_simp; done) | (go_simp; with_reducible rfl) | (go_simp; rfl))); all_goals skip; (try simp only [List.set_cons_succ, List.set_cons_zero])
      refine D_take 6 (v := ?_) rfl (by kernel_rfl) (by kernel_rfl) (by kernel_rfl) (fun _ _ _ h => h) rfl (by rfl) (fun W hS => ?_) hS ?_
      rotate_left; (focus (first | (go_simp; done) | (go_simp; with_reducible rfl) | (go_simp; rfl))); all_goals skip; (try simp only [List.set_cons_succ, List.set_cons_zero])
      refine D_take 7 (v := ?_) rfl (by kernel_rfl) (by kernel_rfl) (by kernel_rfl) (fun _ _ _ h => h) rfl (by rfl) (fun W hS => ?_) hS ?_
      rotate_left; (focus (first | (go_simp; done) | (go_simp; with_reducible rfl) | (go_simp; rfl))); all_goals skip; (try simp only [List.set_cons_succ, List.set_cons_zero])
      refine D_take 8 (v := ?_) rfl (by kernel_rfl) (by kernel_rfl) (by kernel_rfl) (fun _ _ _ h => h) rfl (by rfl) (fun W hS => ?_) hS ?_
      rotate_left; (focus (first | (refine R_load1 (ty := 3) (x := Operand.tmp 31) rfl hS 0 rfl rfl ?_ Tryz.isAgg3; rfl))); all_goals skip; (try simp only [List.set_cons_succ, List.set_cons_zero, List.getElem_toArray, List.getElem_cons_succ, List.getElem_cons_zero])
      refine D_take 9 (v := ?_) rfl (by kernel_rfl) (by kernel_rfl) (by kernel_rfl) (fun _ _ _ h => h) rfl (by rfl) (fun W hS => ?_) hS ?_
      rotate_left; (focus (first | (go_simp; done) | (go_simp; with_reducible rfl) | (go_simp; rfl))); all_goals skip; (try simp only [List.set_cons_succ, List.set_cons_zero])
      refine D_one 10 rfl (by kernel_rfl) (by rfl) ?_
      refine R_call (f := 28) (args := #[layV b slot log, .int .i64 t1, .int .i64 sq, .slice A n cap]) (by first | (go_simp; done) | (go_simp; rfl)) (hrec2 hr) ?_
      rintro e w9 ⟨rfl, hE⟩
      have hS2 := hS.calls hE
      clear hS hE
      have hS := hS2
      clear hS2
      refine ⟨_, rfl, hS, ?_⟩
      try simp only [Act.put, List.getElem_toArray, List.getElem_cons_succ, List.getElem_cons_zero, List.setIfInBounds_toArray, List.set_cons_succ, List.set_cons_zero]
      refine D_take 11 (v := ?_) rfl (by kernel_rfl) (by kernel_rfl) (by kernel_rfl) (fun _ _ _ h => h) rfl (by rfl) (fun W hS => ?_) hS ?_
      rotate_left; (focus (first | (go_simp; done) | (go_simp; with_reducible rfl) | (go_simp; rfl))); all_goals skip; (try simp only [List.set_cons_succ, List.set_cons_zero])
      refine D_take 12 (v := ?_) rfl (by kernel_rfl) (by kernel_rfl) (by kernel_rfl) (fun _ _ _ h => h) rfl (by rfl) (fun W hS => ?_) hS ?_
      rotate_left; (focus (first | (go_simp; done) | (go_simp; with_reducible rfl) | (go_simp; rfl))); all_goals skip; (try simp only [List.set_cons_succ, List.set_cons_zero])
      refine D_take 13 (v := ?_) rfl (by kernel_rfl) (by kernel_rfl) (by kernel_rfl) (fun _ _ _ h => h) rfl (by rfl) (fun W hS => ?_) hS ?_
      rotate_left; (focus (first | (go_simp; done) | (go_simp; with_reducible rfl) | (go_simp; rfl))); all_goals skip; (try simp only [List.set_cons_succ, List.set_cons_zero])
      refine D_take 14 (v := ?_) rfl (by kernel_rfl) (by kernel_rfl) (by kernel_rfl) (fun _ _ _ h => h) rfl (by rfl) (fun W hS => ?_) hS ?_
      rotate_left; (focus (first | (go_simp; done) | (go_simp; with_reducible rfl) | (go_simp; rfl))); all_goals skip; (try simp only [List.set_cons_succ, List.set_cons_zero])
      refine D_take 15 (v := ?_) rfl (by kernel_rfl) (by kernel_rfl) (by kernel_rfl) (fun _ _ _ h => h) rfl (by rfl) (fun W hS => ?_) hS ?_
      rotate_left; (focus (first | (go_simp; done) | (go_simp; with_reducible rfl) | (go_simp; rfl))); all_goals skip; (try simp only [List.set_cons_succ, List.set_cons_zero])
      refine wpAnyH_done (by kernel_rfl) ?_ _
      have H := hS
      clear hS hr hrec2 htop hop
      go_wp2_with fail
      go_ret
      rw [HA.out]
      exact ⟨rfl, H.ext, JD.shut H⟩
  · simp only [if_true] at hop
    have hcp : checkpointP d ⟨slot, log, ep, sq, pl, us, fr, true⟩ xs = (d, ⟨slot, log, ep, sq, pl, us, fr, true⟩, 10) := rfl
    rw [hcp]
    clear hcp h hr hsq hmay hpl
    go_enter Tryz.func18, Tryz.ntmps18
    go_wp2_with (first
      | (go_at_call 50; refine hop.mono ?_; rintro e1 w1 ⟨rfl, hE⟩; replace H := H.calls hE; clear hE))
    go_ret
    exact ⟨rfl, H.ext, JD.shut H⟩
end Go.Proofs.YtgmeahogdjhejaaGreatDoor
