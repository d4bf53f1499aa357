/- Tables: the document's Spans walked. -/
import Derived.Test.YtoaieodcdbbndaaTabN
import Derived.Test.YtoaieodcdbbndaaTabS
namespace Go.Proofs.Ytoaieodcdbbndaa
set_option linter.unusedVariables false
set_option linter.unusedSimpArgs false
open Go.RowKit

set_option maxRecDepth 100000 in
set_option maxHeartbeats 2000000 in
theorem refSpans_any (t : Tab) (bv : Value) (ps : List BV) (w0 : World) (hps : ps.map (·.2) = t.bs) (hb : RdS bvCells 6 w0 bv ps) (hn : ps.length ≤ 1000) (hnum : ∀ b ∈ t.bs, b.Num) :
    Calls Try.prog 14 #[tabV t bv] w0 (GivesSp w0 (spansP t.bs)) := by
  have H : SH (fun _ => False) w0 w0 [] := SH.nil _ _
  obtain ⟨A, cap, rfl, hcap⟩ := hb.len
  obtain ⟨epoch, old, phase, mode, next, gen, bs⟩ := t
  simp only [tabV] at hps hnum ⊢
  obtain ⟨xs, hxs⟩ : ∃ xs, spansP bs = xs := ⟨_, rfl⟩
  have hxl : ps.length = xs.length := by rw [← hxs, ← hps]; simp [spansP]
  have hxi : ∀ j (hj : j < ps.length) (hx : j < xs.length), xs[j] = ⟨ps[j].2.at_, needP ps[j].2.size⟩ ∧ ps[j].2.Num := fun j hj hx => by
    refine ⟨?_, hnum _ (by rw [← hps]; exact List.mem_map.2 ⟨_, List.getElem_mem hj, rfl⟩)⟩
    simp only [← hxs, ← hps, spansP, List.getElem_map]
  rw [hxs]
  have HB := Lib.hid hb
  have HP := Lib.hid (And.intro hxl hxi)
  clear hps hnum hb hxs hxl hxi
  go_enter Try.func14, Try.ntmps14
  go_upto_region 1 with (first | (refine L_box rfl rfl H rfl rfl ?_; clear H; intro g w H; (try simp only [Act.eval, Array.getD_eq_getD_getElem?, List.getElem?_toArray, List.getElem?_cons_succ, List.getElem?_cons_zero, Option.getD_some, Value.cells] at H); (try simp only [Act.put, List.setIfInBounds_toArray, List.set_cons_succ, List.set_cons_zero, List.getElem_toArray, List.getElem_cons_succ, List.getElem_cons_zero])))
  go_wp2_with (first
    | (refine L_lit (e := 57) (cs := #[]) rfl rfl H (by intro _; first | (go_simp; done) | (go_simp; rfl)) ?_; clear H; intro g3 w H; replace H := H.toOwn 0 rfl 2 0 0 (Nat.le_refl _) (Nat.zero_le _) rfl [] rfl; simp only [List.set_cons_zero] at H))
  go_loopw [3, 4] (fun v3 vi wr => SpRel _ xs w0 v3 vi wr) (fun _ vi _ => ps.length - (intOf vi).toNat)
  case atStart => exact ⟨0, rfl, Nat.zero_le _, H⟩
  case round =>
    clear H
    obtain ⟨j, rfl, hj, H⟩ := hrel
    have hbk := H.at_ 1 rfl
    have hk6 : wr.cell? ⟨g, 6, none⟩ = some (.slice A ps.length cap) := cell_of_row _ g 6 _ _ _ hbk
    clear hbk
    by_cases hjn : j < ps.length
    · have hji : (j : Int) < (ps.length : Int) := by omega
      have hjx : j < xs.length := by have := HP.out.1; omega
      obtain ⟨p, hp⟩ : ∃ p, ps[j] = p := ⟨_, rfl⟩
      have hx := HP.out.2 j hjn hjx
      rw [hp] at hx
      obtain ⟨bb, off, cs, T, fr, rfl, hbb, hcs⟩ := HB.out.cell hjn
      rw [hp] at hcs
      have htk : xs.take (j + 1) = xs.take j ++ [⟨p.2.at_, needP p.2.size⟩] := by rw [List.take_add_one, List.getElem?_eq_getElem hjx, hx.1]; rfl
      have hnum := hx.2
      have HTK := Lib.hid htk
      clear htk hx hp
      obtain ⟨⟨WA, wc⟩, id, bgen, at_, size, ep, wrap⟩ := p
      simp only at HTK hnum
      have hc2 : cs[off + j * 6 + 2]? = some (Value.int .i64 at_) := hcs 2 (by omega)
      have hc3 : cs[off + j * 6 + 3]? = some (Value.int .i64 size) := hcs 3 (by omega)
      have hneed := fun {W : World} => refNeed_any size W hnum.2.1 hnum.2.2
      have hb1 : (j + 1) * 16 ≤ 140737488355328 := by omega
      have hb2 : j + 1 ≤ maxLen := by simp only [maxLen]; omega
      generalize needP size = nd at *
      clear hcs hnum
      go_upto_region 5 with fail
      clear hk6
      have H1 := H.drop (L' := [_]) (List.Sublist.cons _ (List.Sublist.refl _))
      have HW := H.drew
      refine D_start H1 (by kernel_rfl) (fun hS => ?_)
      try simp only [Act.put, List.setIfInBounds_toArray, List.set_cons_succ, List.set_cons_zero]
      refine D_take 0 (v := ?_) rfl (by kernel_rfl) (by kernel_rfl) (by kernel_rfl) (fun _ _ _ h => h) rfl (by rfl) (fun W hS => ?_) hS ?_
      rotate_left; (focus (first | (go_simp; done) | (go_simp; with_reducible rfl) | (go_simp; rfl))); all_goals skip; (try simp only [List.set_cons_succ, List.set_cons_zero])
      refine D_take 1 (v := ?_) rfl (by kernel_rfl) (by kernel_rfl) (by kernel_rfl) (fun _ _ _ h => h) rfl (by rfl) (fun W hS => ?_) hS ?_
      rotate_left; (focus (first | (go_simp; done) | (go_simp; with_reducible rfl) | (go_simp; rfl))); all_goals skip; (try simp only [List.set_cons_succ, List.set_cons_zero])
      refine D_take 2 (v := ?_) rfl (by kernel_rfl) (by kernel_rfl) (by kernel_rfl) (fun _ _ _ h => h) rfl (by rfl) (fun W hS => ?_) hS ?_
      rotate_left; (focus (first | (refine R_load1 (ty := 22) (x := Operand.tmp 14) rfl hS 0 rfl rfl ?_ Try.isAgg22; rfl))); all_goals skip; (try simp only [List.set_cons_succ, List.set_cons_zero, List.getElem_toArray, List.getElem_cons_succ, List.getElem_cons_zero])
      refine D_take 3 (v := ?_) rfl (by kernel_rfl) (by kernel_rfl) (by kernel_rfl) (fun _ _ _ h => h) rfl (by rfl) (fun W hS => ?_) hS ?_
      rotate_left; (focus (first | (go_simp; done) | (go_simp; with_reducible rfl) | (go_simp; rfl))); all_goals skip; (try simp only [List.set_cons_succ, List.set_cons_zero])
      refine D_take 4 (v := ?_) rfl (by kernel_rfl) (by kernel_rfl) (by kernel_rfl) (fun _ _ _ h => h) rfl (by rfl) (fun W hS => ?_) hS ?_
      rotate_left; (focus (first | (go_simp; done) | (go_simp; with_reducible rfl) | (go_simp; rfl))); all_goals skip; (try simp only [List.set_cons_succ, List.set_cons_zero])
      refine D_take 5 (v := ?_) rfl (by kernel_rfl) (by kernel_rfl) (by kernel_rfl) (fun _ _ _ h => h) rfl (by rfl) (fun W hS => ?_) hS ?_
      rotate_left; (focus (first | (go_simp; done) | (go_simp; with_reducible rfl) | (go_simp; rfl))); all_goals skip; (try simp only [List.set_cons_succ, List.set_cons_zero])
      refine D_take 6 (v := (.int .i64 at_)) rfl (by kernel_rfl) (by kernel_rfl) (by kernel_rfl) (fun _ _ _ h => h) rfl (by rfl) (fun W hS => R_load1r (ty := 3) (x := .tmp 18) (off := off + j * 6 + 2) rfl hS rfl hbb (fun e => e) hc2 Try.isAgg3) hS ?_; (try simp only [List.set_cons_succ, List.set_cons_zero])
      refine D_take 7 (v := ?_) rfl (by kernel_rfl) (by kernel_rfl) (by kernel_rfl) (fun _ _ _ h => h) rfl (by rfl) (fun W hS => ?_) hS ?_
      rotate_left; (focus (first | (go_simp; done) | (go_simp; with_reducible rfl) | (go_simp; rfl))); all_goals skip; (try simp only [List.set_cons_succ, List.set_cons_zero])
      refine D_take 8 (v := ?_) rfl (by kernel_rfl) (by kernel_rfl) (by kernel_rfl) (fun _ _ _ h => h) rfl (by rfl) (fun W hS => ?_) hS ?_
      rotate_left; (focus (first | (refine R_load1 (ty := 22) (x := Operand.tmp 20) rfl hS 0 rfl rfl ?_ Try.isAgg22; rfl))); all_goals skip; (try simp only [List.set_cons_succ, List.set_cons_zero, List.getElem_toArray, List.getElem_cons_succ, List.getElem_cons_zero])
      refine D_take 9 (v := ?_) rfl (by kernel_rfl) (by kernel_rfl) (by kernel_rfl) (fun _ _ _ h => h) rfl (by rfl) (fun W hS => ?_) hS ?_
      rotate_left; (focus (first | (go_simp; done) | (go_simp; with_reducible rfl) | (go_simp; rfl))); all_goals skip; (try simp only [List.set_cons_succ, List.set_cons_zero])
      refine D_take 10 (v := ?_) rfl (by kernel_rfl) (by kernel_rfl) (by kernel_rfl) (fun _ _ _ h => h) rfl (by rfl) (fun W hS => ?_) hS ?_
      rotate_left; (focus (first | (go_simp; done) | (go_simp; with_reducible rfl) | (go_simp; rfl))); all_goals skip; (try simp only [List.set_cons_succ, List.set_cons_zero])
      refine D_take 11 (v := ?_) rfl (by kernel_rfl) (by kernel_rfl) (by kernel_rfl) (fun _ _ _ h => h) rfl (by rfl) (fun W hS => ?_) hS ?_
      rotate_left; (focus (first | (go_simp; done) | (go_simp; with_reducible rfl) | (go_simp; rfl))); all_goals skip; (try simp only [List.set_cons_succ, List.set_cons_zero])
      refine D_take 12 (v := (.int .i64 size)) rfl (by kernel_rfl) (by kernel_rfl) (by kernel_rfl) (fun _ _ _ h => h) rfl (by rfl) (fun W hS => R_load1r (ty := 3) (x := .tmp 24) (off := off + j * 6 + 3) rfl hS rfl hbb (fun e => e) hc3 Try.isAgg3) hS ?_; (try simp only [List.set_cons_succ, List.set_cons_zero])
      refine D_one 13 rfl (by kernel_rfl) (by rfl) ?_
      refine R_call (f := 16) (args := #[.int .i64 size]) (by first | (go_simp; done) | (go_simp; rfl)) hneed ?_
      rintro e w2 ⟨rfl, rfl⟩
      refine ⟨_, rfl, hS, ?_⟩
      try simp only [Act.put, List.getElem_toArray, List.getElem_cons_succ, List.getElem_cons_zero, List.setIfInBounds_toArray, List.set_cons_succ, List.set_cons_zero]
      refine D_take 14 (v := ?_) rfl (by kernel_rfl) (by kernel_rfl) (by kernel_rfl) (fun _ _ _ h => h) rfl (by rfl) (fun W hS => ?_) hS ?_
      rotate_left; (focus (first | (go_simp; done) | (go_simp; with_reducible rfl) | (go_simp; rfl))); all_goals skip; (try simp only [List.set_cons_succ, List.set_cons_zero])
      refine D_one 15 rfl (by kernel_rfl) (by rfl) ?_
      refine W_litE (e := 57) (cs := #[.int .i64 at_, .int .i64 nd]) rfl HW (by intro _; first | (go_simp; done) | (go_simp; rfl)) ?_
      intro gl w' HW6 hE
      clear HW
      have HW := HW6
      clear HW6 hE hS
      have hS := HW.drop (L' := [_]) (List.Sublist.cons _ (List.Sublist.cons _ (List.Sublist.refl _)))
      refine ⟨hS, ?_⟩
      try simp only [Act.put, List.getElem_toArray, List.getElem_cons_succ, List.getElem_cons_zero, List.setIfInBounds_toArray, List.set_cons_succ, List.set_cons_zero]
      refine D_one 16 rfl (by kernel_rfl) (by rfl) ?_
      refine W_append Sp.clen Sp.one (s := .tmp 13) (x := .tmp 28) (xv := .slice (some ⟨gl, 0, none⟩) 1 1) (ys := [⟨at_, nd⟩]) rfl Try.underlying30 tinfo57 rfl (by decide) HW 1 rfl rfl rfl (oneSp' (s := ⟨at_, nd⟩) (HW.at_ 0 rfl)) hb1 hb2 ?_
      intro vn w' HW7 hnn
      simp only [List.set_cons_succ, List.set_cons_zero] at HW7
      clear HW
      have HW := HW7
      clear HW7 hnn hS
      have hS := HW.drop (L' := [_]) (List.Sublist.cons _ (List.Sublist.cons _ (List.Sublist.refl _)))
      refine ⟨hS, ?_⟩
      try simp only [Act.put, List.getElem_toArray, List.getElem_cons_succ, List.getElem_cons_zero, List.setIfInBounds_toArray, List.set_cons_succ, List.set_cons_zero]
      refine D_take 17 (v := ?_) rfl (by kernel_rfl) (by kernel_rfl) (by kernel_rfl) (fun _ _ _ h => h) rfl (by rfl) (fun W hS => ?_) hS ?_
      rotate_left; (focus (first | (go_simp; done) | (go_simp; with_reducible rfl) | (go_simp; rfl))); all_goals skip; (try simp only [List.set_cons_succ, List.set_cons_zero])
      refine wpAnyH_done (by kernel_rfl) ?_ _
      clear H H1 hS
      have H := HW.drop (List.Sublist.cons _ (List.Sublist.refl _))
      clear HW
      rw [← cellsOf_append, ← HTK.out] at H
      go_wp2_with fail
      go_roundw
      case rel => exact ⟨j + 1, by go_num, by omega, H⟩
      case measure => simp [intOf]; omega
    · have hje : j = xs.length := by have := HP.out.1; omega
      have hjp : ¬ ((j : Int) < (ps.length : Int)) := by omega
      rw [List.take_of_length_le (Nat.le_of_eq hje.symm)] at H
      obtain ⟨A3, c3, rfl⟩ := own_slice (H.get 0 rfl)
      have hrd := RdS.own Sp.clen hje (H.get 0 rfl)
      have HR := Lib.hid (And.intro hrd H.ext)
      clear hje hj hrd H
      go_wp2_with fail
      go_ret
      exact ⟨_, rfl, HR.out.1, HR.out.2⟩
end Go.Proofs.Ytoaieodcdbbndaa
