/- Tables: Spans, epochs. -/
import Derived.Test.YtoaieodcdbbndaaTabM
import Derived.Test.YtoaieodcdbbndaaSpaceD
namespace Go.Proofs.Ytoaieodcdbbndaa
set_option linter.unusedVariables false
set_option linter.unusedSimpArgs false
open Go.RowKit

def spansP (bs : List Blk) : List Sp := bs.map fun b => ⟨b.at_, needP b.size⟩
/-- Numbers of a block as they may be. -/
def Blk.Num (b : Blk) : Prop := (-9223372036854775808 ≤ b.at_ ∧ b.at_ ≤ 9223372036854775807) ∧ (-9223372036854775808 ≤ b.size ∧ b.size ≤ 9223372036854775807)
theorem needP_le {n : Int} (h : n ≤ 9223372036854775807) : 0 ≤ needP n ∧ needP n ≤ 288230376151711744 := by
  unfold needP
  split <;> omega
theorem oneSp' {w : World} {g : Nat} {T : TypeId} {fr : Nat × Nat} {s : Sp} (hg : w.heap[g]? = some (.cells #[.int .i64 s.at_, .int .i64 s.len] T fr)) : RdS Sp.cells 2 w (.slice (some ⟨g, 0, none⟩) 1 1) [s] :=
  ⟨_, 1, rfl, Nat.le_refl _, .inr ⟨g, 0, _, T, fr, rfl, hg, fun j hj i hi => by
    obtain rfl : j = 0 := by simpa using hj
    match i, hi with
    | 0, _ => rfl
    | 1, _ => rfl⟩⟩
theorem clipSp_any (A : Option Addr) (n cap : Nat) (w : World) (h : n ≤ cap) (hn : n ≤ 1000000000) : Calls Try.prog 33 #[.slice A n cap] w fun e w' => e = .returned (.slice A n n) ∧ w' = w := by
  have hci : (n : Int) ≤ (cap : Int) := by omega
  go_enter Try.func33, Try.ntmps33
  go_wp2
  go_ret
  exact ⟨rfl, rfl⟩
def SpRel (L : List Asr) (xs : List Sp) (w0 : World) (v3 vi : Value) (wr : World) : Prop :=
  ∃ j : Nat, vi = .int .i64 (j : Int) ∧ j ≤ xs.length ∧ SH (fun _ => False) w0 wr (ownA 57 2 v3 j (cellsOf Sp.cells (xs.take j)) :: L)
def GivesSp (w : World) (xs : List Sp) (e : Ending) (w' : World) : Prop := ∃ v, e = .returned v ∧ RdS Sp.cells 2 w' v xs ∧ Ext0 w w'
set_option maxRecDepth 100000 in
set_option maxHeartbeats 2000000 in
theorem spans_any (t : Tab) (bv : Value) (ps : List BV) (w0 : World) (hps : ps.map (·.2) = t.bs) (hb : RdS bvCells 6 w0 bv ps) (hn : ps.length ≤ 1000) (hnum : ∀ b ∈ t.bs, b.Num) :
    Calls Try.prog 13 #[tabV t bv] w0 (GivesSp w0 (spansP t.bs)) := by
  have H : SH (fun _ => False) w0 w0 [] := SH.nil _ _
  obtain ⟨A, cap, rfl, hcap⟩ := hb.len
  obtain ⟨epoch, old, phase, mode, next, gen, bs⟩ := t
  simp only [tabV] at hps hnum ⊢
  obtain ⟨xs, hxs⟩ : ∃ xs, spansP bs = xs := ⟨_, rfl⟩
  have hxl : ps.length = xs.length := by rw [← hxs, ← hps]; simp [spansP]
  have hxi : ∀ j (hj : j < ps.length) (hx : j < xs.length), xs[j] = ⟨ps[j].2.at_, needP ps[j].2.size⟩ ∧ ps[j].2.Num := fun j hj hx => by
    refine ⟨?_, hnum _ (by rw [← hps]; exact List.mem_map.2 ⟨_, List.getElem_mem hj, rfl⟩)⟩
    simp only [← hxs, ← hps, spansP, List.getElem_map]
  rw [hxs]
  have HB := Lib.hid hb
  have HP := Lib.hid (And.intro hxl hxi)
  clear hps hnum hb hxs hxl hxi
  go_enter Try.func13, Try.ntmps13
  go_wp2_with (first
    | (refine L_load1 rfl rfl H 0 rfl rfl rfl Try.isAgg22 ?_; (try simp only [Act.put, List.setIfInBounds_toArray, List.set_cons_succ, List.set_cons_zero, List.getElem_toArray, List.getElem_cons_succ, List.getElem_cons_zero])) | (refine L_box rfl rfl H rfl rfl ?_; clear H; intro g w H; (try simp only [Act.eval, Array.getD_eq_getD_getElem?, List.getElem?_toArray, List.getElem?_cons_succ, List.getElem?_cons_zero, Option.getD_some, Value.cells] at H); (try simp only [Act.put, List.setIfInBounds_toArray, List.set_cons_succ, List.set_cons_zero, List.getElem_toArray, List.getElem_cons_succ, List.getElem_cons_zero])))
  have H0 := (H.addNil 57 2)
  clear H
  go_loopw [3, 9] (fun v3 vi wr => SpRel _ xs w0 v3 vi wr) (fun _ vi _ => ps.length - (intOf vi).toNat)
  case atStart => exact ⟨0, rfl, Nat.zero_le _, H0⟩
  case round =>
    clear H0
    obtain ⟨j, rfl, hj, H⟩ := hrel
    by_cases hjn : j < ps.length
    · have hji : (j : Int) < (ps.length : Int) := by omega
      have hjx : j < xs.length := by have := HP.out.1; omega
      obtain ⟨p, hp⟩ : ∃ p, ps[j] = p := ⟨_, rfl⟩
      have hx := HP.out.2 j hjn hjx
      rw [hp] at hx
      obtain ⟨bb, off, cs, T, fr, rfl, hbb, hcs⟩ := HB.out.cell hjn
      rw [hp] at hcs
      have htk : xs.take (j + 1) = xs.take j ++ [⟨p.2.at_, needP p.2.size⟩] := by rw [List.take_add_one, List.getElem?_eq_getElem hjx, hx.1]; rfl
      have hnum := hx.2
      have HTK := Lib.hid htk
      clear htk hx hp
      obtain ⟨⟨WA, wc⟩, id, bgen, at_, size, ep, wrap⟩ := p
      simp only at HTK hnum
      have hcs6 : ∀ i, i < 6 → cs[off + j * 6 + i]? = [Value.int .i64 id, .int .i64 bgen, .int .i64 at_, .int .i64 size, .int .i64 ep, .slice WA wrap.length wc][i]? := fun i hi => hcs i hi
      have hneed := fun {W : World} => need_any size W hnum.2.1 hnum.2.2
      have hb1 : (j + 1) * 16 ≤ 140737488355328 := by omega
      have hb2 : j + 1 ≤ maxLen := by simp only [maxLen]; omega
      generalize needP size = nd at *
      clear hcs hnum
      go_upto_region 5 with (first
        | (refine L_loadmidr rfl rfl H rfl hbb (fun e => e) Try.underlying45 rfl info45 [Value.int .i64 id, .int .i64 bgen, .int .i64 at_, .int .i64 size, .int .i64 ep, .slice WA wrap.length wc] rfl hcs6 ?_; (try simp only [Act.put, List.setIfInBounds_toArray, List.set_cons_succ, List.set_cons_zero, List.getElem_toArray, List.getElem_cons_succ, List.getElem_cons_zero]))
        | fail)
      clear hcs6 hbb
      replace H := H.alloc (.cells #[.int .i64 id, .int .i64 bgen, .int .i64 at_, .int .i64 size, .int .i64 ep, .slice WA wrap.length wc] 45)
      generalize wr.heap.size = g5 at *
      generalize wr.alloc (.cells #[.int .i64 id, .int .i64 bgen, .int .i64 at_, .int .i64 size, .int .i64 ep, .slice WA wrap.length wc] 45) = wA at *
      have H1 := H.drop (L' := [_]) (List.Sublist.cons_cons _ (List.nil_sublist _))
      have HW := H.drew
      refine D_start H1 (by kernel_rfl) (fun hS => ?_)
      try simp only [Act.put, List.setIfInBounds_toArray, List.set_cons_succ, List.set_cons_zero]
      refine D_take 0 (v := ?_) rfl (by kernel_rfl) (by kernel_rfl) (by kernel_rfl) (fun _ _ _ h => h) rfl (by rfl) (fun W hS => ?_) hS ?_
      rotate_left; (focus (first | (go_simp; done) | (go_simp; with_reducible rfl) | (go_simp; rfl))); all_goals skip; (try simp only [List.set_cons_succ, List.set_cons_zero])
      refine D_take 1 (v := ?_) rfl (by kernel_rfl) (by kernel_rfl) (by kernel_rfl) (fun _ _ _ h => h) rfl (by rfl) (fun W hS => ?_) hS ?_
      rotate_left; (focus (first | (go_simp; done) | (go_simp; with_reducible rfl) | (go_simp; rfl))); all_goals skip; (try simp only [List.set_cons_succ, List.set_cons_zero])
      refine D_take 2 (v := ?_) rfl (by kernel_rfl) (by kernel_rfl) (by kernel_rfl) (fun _ _ _ h => h) rfl (by rfl) (fun W hS => ?_) hS ?_
      rotate_left; (focus (first | (refine R_load1 (ty := 3) (x := Operand.tmp 14) rfl hS 0 rfl rfl ?_ Try.isAgg3; rfl))); all_goals skip; (try simp only [List.set_cons_succ, List.set_cons_zero, List.getElem_toArray, List.getElem_cons_succ, List.getElem_cons_zero])
      refine D_take 3 (v := ?_) rfl (by kernel_rfl) (by kernel_rfl) (by kernel_rfl) (fun _ _ _ h => h) rfl (by rfl) (fun W hS => ?_) hS ?_
      rotate_left; (focus (first | (go_simp; done) | (go_simp; with_reducible rfl) | (go_simp; rfl))); all_goals skip; (try simp only [List.set_cons_succ, List.set_cons_zero])
      refine D_take 4 (v := ?_) rfl (by kernel_rfl) (by kernel_rfl) (by kernel_rfl) (fun _ _ _ h => h) rfl (by rfl) (fun W hS => ?_) hS ?_
      rotate_left; (focus (first | (refine R_load1 (ty := 3) (x := Operand.tmp 16) rfl hS 0 rfl rfl ?_ Try.isAgg3; rfl))); all_goals skip; (try simp only [List.set_cons_succ, List.set_cons_zero, List.getElem_toArray, List.getElem_cons_succ, List.getElem_cons_zero])
      refine D_one 5 rfl (by kernel_rfl) (by rfl) ?_
      refine R_call (f := 15) (args := #[.int .i64 size]) (by first | (go_simp; done) | (go_simp; rfl)) hneed ?_
      rintro e w2 ⟨rfl, rfl⟩
      refine ⟨_, rfl, hS, ?_⟩
      try simp only [Act.put, List.getElem_toArray, List.getElem_cons_succ, List.getElem_cons_zero, List.setIfInBounds_toArray, List.set_cons_succ, List.set_cons_zero]
      refine D_take 6 (v := ?_) rfl (by kernel_rfl) (by kernel_rfl) (by kernel_rfl) (fun _ _ _ h => h) rfl (by rfl) (fun W hS => ?_) hS ?_
      rotate_left; (focus (first | (go_simp; done) | (go_simp; with_reducible rfl) | (go_simp; rfl))); all_goals skip; (try simp only [List.set_cons_succ, List.set_cons_zero])
      refine D_one 7 rfl (by kernel_rfl) (by rfl) ?_
      refine W_litE (e := 57) (cs := #[.int .i64 at_, .int .i64 nd]) rfl HW (by intro _; first | (go_simp; done) | (go_simp; rfl)) ?_
      intro gl w' HW6 hE
      clear HW
      have HW := HW6
      clear HW6 hE hS
      have hS := HW.drop (L' := [_]) (List.Sublist.cons _ (List.Sublist.cons_cons _ (List.nil_sublist _)))
      refine ⟨hS, ?_⟩
      try simp only [Act.put, List.getElem_toArray, List.getElem_cons_succ, List.getElem_cons_zero, List.setIfInBounds_toArray, List.set_cons_succ, List.set_cons_zero]
      refine D_one 8 rfl (by kernel_rfl) (by rfl) ?_
      refine W_append Sp.clen Sp.one (s := .tmp 13) (x := .tmp 20) (xv := .slice (some ⟨gl, 0, none⟩) 1 1) (ys := [⟨at_, nd⟩]) rfl Try.underlying30 tinfo57 rfl (by decide) HW 2 rfl rfl rfl (oneSp' (s := ⟨at_, nd⟩) (HW.at_ 0 rfl)) hb1 hb2 ?_
      intro vn w' HW7 hnn
      simp only [List.set_cons_succ, List.set_cons_zero] at HW7
      clear HW
      have HW := HW7
      clear HW7 hnn hS
      have hS := HW.drop (L' := [_]) (List.Sublist.cons _ (List.Sublist.cons_cons _ (List.nil_sublist _)))
      refine ⟨hS, ?_⟩
      try simp only [Act.put, List.getElem_toArray, List.getElem_cons_succ, List.getElem_cons_zero, List.setIfInBounds_toArray, List.set_cons_succ, List.set_cons_zero]
      refine D_take 9 (v := ?_) rfl (by kernel_rfl) (by kernel_rfl) (by kernel_rfl) (fun _ _ _ h => h) rfl (by rfl) (fun W hS => ?_) hS ?_
      rotate_left; (focus (first | (go_simp; done) | (go_simp; with_reducible rfl) | (go_simp; rfl))); all_goals skip; (try simp only [List.set_cons_succ, List.set_cons_zero])
      refine wpAnyH_done (by kernel_rfl) ?_ _
      clear H H1 hS
      have H := HW.drop (List.Sublist.cons _ (List.Sublist.cons _ (List.Sublist.refl _)))
      clear HW
      rw [← cellsOf_append, ← HTK.out] at H
      go_wp2_with fail
      go_roundw
      case rel => exact ⟨j + 1, by go_num, by omega, H⟩
      case measure => simp [intOf]; omega
    · have hje : j = xs.length := by have := HP.out.1; omega
      have hjp : ¬ ((j : Int) < (ps.length : Int)) := by omega
      rw [List.take_of_length_le (Nat.le_of_eq hje.symm)] at H
      obtain ⟨A3, c3, rfl⟩ := own_slice (H.get 0 rfl)
      have hrd := RdS.own Sp.clen hje (H.get 0 rfl)
      have hjc : j ≤ c3 := by
        obtain ⟨_, c', he, hc⟩ := hrd.len
        cases he
        omega
      have HR := Lib.hid (And.intro hrd.clip H.ext)
      have hj1 : j ≤ 1000000000 := by have := HP.out.1; omega
      clear hje hj hrd H
      go_wp2_with (go_at_call 33; refine (clipSp_any A3 j c3 _ hjc hj1).mono ?_; rintro e w3 ⟨rfl, rfl⟩)
      go_ret
      exact ⟨_, rfl, HR.out.1, HR.out.2⟩

/-! ### epochs -/
def epochsP (t : Tab) : Prop := (t.phase = 0 ∧ t.old = 0 ∧ t.mode = 0) ∨ ((t.phase = 1 ∨ t.phase = 2) ∧ t.old = wrap64 (t.epoch - 1) ∧ 1 ≤ t.old ∧ 1 ≤ t.mode ∧ t.mode ≤ 2)
instance (t : Tab) : Decidable (epochsP t) := inferInstanceAs (Decidable (_ ∨ _))
set_option maxRecDepth 100000 in
set_option maxHeartbeats 2000000 in
theorem epochs_any (t : Tab) (bv : Value) (w : World) : Calls Try.prog 28 #[tabV t bv] w fun e w' => e = .returned (.bool (decide (epochsP t))) ∧ Ext0 w w' := by
  have H : SH (fun _ => False) w w [] := SH.nil _ _
  obtain ⟨epoch, old, phase, mode, next, gen, bs⟩ := t
  have hw := fun {W : World} => within_any mode 1 2 W
  obtain ⟨e1, he1⟩ : ∃ e1, wrap64 (epoch - 1) = e1 := ⟨_, rfl⟩
  have hP : epochsP ⟨epoch, old, phase, mode, next, gen, bs⟩ ↔ (phase = 0 ∧ old = 0 ∧ mode = 0) ∨ ((phase = 1 ∨ phase = 2) ∧ old = e1 ∧ 1 ≤ old ∧ 1 ≤ mode ∧ mode ≤ 2) := by unfold epochsP; rw [← he1]
  obtain ⟨q, hq⟩ : ∃ q, decide (epochsP ⟨epoch, old, phase, mode, next, gen, bs⟩) = q := ⟨_, rfl⟩
  rw [hq]
  have hq2 : decide ((phase = 0 ∧ old = 0 ∧ mode = 0) ∨ ((phase = 1 ∨ phase = 2) ∧ old = e1 ∧ 1 ≤ old ∧ 1 ≤ mode ∧ mode ≤ 2)) = q := by rw [← hq]; exact (decide_eq_decide.2 hP).symm
  have HQ := Lib.hid hq2
  clear hq2
  simp only [tabV]
  clear hP hq
  go_enter Try.func28, Try.ntmps28
  go_upto_region 1 with (first | (refine L_box rfl rfl H rfl rfl ?_; clear H; intro g w H; (try simp only [Act.eval, Array.getD_eq_getD_getElem?, List.getElem?_toArray, List.getElem?_cons_succ, List.getElem?_cons_zero, Option.getD_some, Value.cells] at H); (try simp only [Act.put, List.setIfInBounds_toArray, List.set_cons_succ, List.set_cons_zero, List.getElem_toArray, List.getElem_cons_succ, List.getElem_cons_zero])))
  have hbk := H.at_ 0 rfl
  have hk0 : w.cell? ⟨g, 0, none⟩ = some (.int .i64 epoch) := cell_of_row _ g 0 _ _ _ hbk
  have hk1 : w.cell? ⟨g, 1, none⟩ = some (.int .i64 old) := cell_of_row _ g 1 _ _ _ hbk
  have hk2 : w.cell? ⟨g, 2, none⟩ = some (.int .i64 phase) := cell_of_row _ g 2 _ _ _ hbk
  have hk3 : w.cell? ⟨g, 3, none⟩ = some (.int .i64 mode) := cell_of_row _ g 3 _ _ _ hbk
  have HE := Lib.hid H.ext
  clear hbk H
  by_cases h0 : phase = 0
  · by_cases h1 : old = 0
    · by_cases h2 : mode = 0
      · have HF : q = true := by rw [← HQ.out]; simp only [decide_eq_true_eq, decide_eq_false_iff_not]; omega
        subst HF
        go_wp2_with (go_at_call 29; refine hw.mono ?_; rintro e w3 ⟨rfl, rfl⟩)
        go_ret
        exact ⟨rfl, HE.out⟩
      · have HF : q = false := by rw [← HQ.out]; simp only [decide_eq_true_eq, decide_eq_false_iff_not]; omega
        have hb : (mode == 0) = false := by simp [h2]
        subst HF
        go_wp2_with (go_at_call 29; refine hw.mono ?_; rintro e w3 ⟨rfl, rfl⟩)
        go_ret
        exact ⟨rfl, HE.out⟩
    · have HF : q = false := by rw [← HQ.out]; simp only [decide_eq_true_eq, decide_eq_false_iff_not]; omega
      subst HF
      go_wp2_with (go_at_call 29; refine hw.mono ?_; rintro e w3 ⟨rfl, rfl⟩)
      go_ret
      exact ⟨rfl, HE.out⟩
  · by_cases h1 : phase = 1
    · by_cases h3 : old = e1
      · by_cases h4 : 1 ≤ old
        · by_cases h5 : 1 ≤ mode ∧ mode ≤ 2
          · have HF : q = true := by rw [← HQ.out]; simp only [decide_eq_true_eq, decide_eq_false_iff_not]; omega
            subst HF
            go_wp2_with (go_at_call 29; refine hw.mono ?_; rintro e w3 ⟨rfl, rfl⟩)
            go_ret
            exact ⟨rfl, HE.out⟩
          · have HF : q = false := by rw [← HQ.out]; simp only [decide_eq_true_eq, decide_eq_false_iff_not]; omega
            subst HF
            go_wp2_with (go_at_call 29; refine hw.mono ?_; rintro e w3 ⟨rfl, rfl⟩)
            go_ret
            exact ⟨rfl, HE.out⟩
        · have HF : q = false := by rw [← HQ.out]; simp only [decide_eq_true_eq, decide_eq_false_iff_not]; omega
          subst HF
          go_wp2_with (go_at_call 29; refine hw.mono ?_; rintro e w3 ⟨rfl, rfl⟩)
          go_ret
          exact ⟨rfl, HE.out⟩
      · have HF : q = false := by rw [← HQ.out]; simp only [decide_eq_true_eq, decide_eq_false_iff_not]; omega
        subst HF
        go_wp2_with (go_at_call 29; refine hw.mono ?_; rintro e w3 ⟨rfl, rfl⟩)
        go_ret
        exact ⟨rfl, HE.out⟩
    · by_cases h2 : phase = 2
      · by_cases h3 : old = e1
        · by_cases h4 : 1 ≤ old
          · by_cases h5 : 1 ≤ mode ∧ mode ≤ 2
            · have HF : q = true := by rw [← HQ.out]; simp only [decide_eq_true_eq, decide_eq_false_iff_not]; omega
              subst HF
              go_wp2_with (go_at_call 29; refine hw.mono ?_; rintro e w3 ⟨rfl, rfl⟩)
              go_ret
              exact ⟨rfl, HE.out⟩
            · have HF : q = false := by rw [← HQ.out]; simp only [decide_eq_true_eq, decide_eq_false_iff_not]; omega
              subst HF
              go_wp2_with (go_at_call 29; refine hw.mono ?_; rintro e w3 ⟨rfl, rfl⟩)
              go_ret
              exact ⟨rfl, HE.out⟩
          · have HF : q = false := by rw [← HQ.out]; simp only [decide_eq_true_eq, decide_eq_false_iff_not]; omega
            subst HF
            go_wp2_with (go_at_call 29; refine hw.mono ?_; rintro e w3 ⟨rfl, rfl⟩)
            go_ret
            exact ⟨rfl, HE.out⟩
        · have HF : q = false := by rw [← HQ.out]; simp only [decide_eq_true_eq, decide_eq_false_iff_not]; omega
          subst HF
          go_wp2_with (go_at_call 29; refine hw.mono ?_; rintro e w3 ⟨rfl, rfl⟩)
          go_ret
          exact ⟨rfl, HE.out⟩
      · have HF : q = false := by rw [← HQ.out]; simp only [decide_eq_true_eq, decide_eq_false_iff_not]; omega
        subst HF
        go_wp2_with (go_at_call 29; refine hw.mono ?_; rintro e w3 ⟨rfl, rfl⟩)
        go_ret
        exact ⟨rfl, HE.out⟩
end Go.Proofs.Ytoaieodcdbbndaa
