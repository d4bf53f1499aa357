/- Tables: With, of a table without blocks. -/
import Derived.Test.YtoaieodcdbbndaaTabK
namespace Go.Proofs.Ytoaieodcdbbndaa
set_option linter.unusedVariables false
set_option linter.unusedSimpArgs false
open Go.RowKit

def GivesIns (w0 : World) (L : List Asr) (n : Nat) (cells : List Value) (e : Ending) (w' : World) : Prop := ∃ v', e = .returned v' ∧ SH (fun _ => False) w0 w' (ownA 45 6 v' n cells :: L)
set_option maxRecDepth 100000 in
set_option maxHeartbeats 1000000 in
theorem insertEnd_any {w0 w : World} {L : List Asr} {v : Value} {n : Nat} {cells : List Value} (H : SH (fun _ => False) w0 w (ownA 45 6 v n cells :: L)) (hn : n ≤ 1000000) (u : Value) (p : BV) (hu : RdS bvCells 6 w u [p]) :
    Calls Try.prog 52 #[v, .int .i64 (n : Int), u] w (GivesIns w0 L (n + 1) (cells ++ cellsOf bvCells [p])) := by
  obtain ⟨A, c, rfl⟩ := own_slice (H.get 0 rfl)
  obtain ⟨B, d, rfl, _⟩ := hu.len
  have hc : n ≤ c := by
    rcases (H.get 0 rfl : w.ownsRow _ _ _ _ _ _).2 with ⟨h0, h1⟩ | ⟨g, c', cur, he, _, _, h1, _⟩
    · omega
    · cases he; exact h1
  have hci : (n : Int) ≤ (c : Int) := by omega
  have hb1 : (n + [p].length) * 64 ≤ 140737488355328 := by simp; omega
  have hb2 : n + [p].length ≤ maxLen := by simp [maxLen]; omega
  go_enter Try.func52, Try.ntmps52
  go_wp2_with (first
    | (refine L_append bvLen bvOne (ys := [p]) rfl rfl Try.underlying22 infoBZ rfl (by decide) H 0 rfl rfl rfl hu hb1 hb2 ?_; clear H; intro v2 w H hnn; clear hnn; simp only [List.set_cons_zero] at H))
  all_goals (go_ret; exact ⟨_, rfl, H⟩)
theorem with_closure (id : Int) (B : Nat) (w : World) (hB : w.cell? ⟨B, 0, none⟩ = some (.int .i64 id)) : FnGives' 51 #[.pointer (some ⟨B, 0, none⟩)] (fun b => decide (id < b.id)) w := fun W p hE => by
  have hc := hE.cell hB (fun e => e)
  obtain ⟨⟨WA, wc⟩, b1, b2, b3, b4, b5, f⟩ := p
  simp only [blkV, BV.wv]
  have H : SH (fun _ => False) W W [] := SH.nil _ _
  show Calls Try.prog 51 #[.agg #[.int .i64 b1, .int .i64 b2, .int .i64 b3, .int .i64 b4, .int .i64 b5, .slice WA f.length wc], .pointer (some ⟨B, 0, none⟩)] W _
  go_enter Try.func51, Try.ntmps51
  go_wp2_with (first
    | (refine L_load1 rfl rfl H 0 rfl rfl rfl Try.isAgg3 ?_; (try simp only [Act.put, List.setIfInBounds_toArray, List.set_cons_succ, List.set_cons_zero, List.getElem_toArray, List.getElem_cons_succ, List.getElem_cons_zero])) | (refine L_box rfl rfl H rfl rfl ?_; clear H; intro g w H; (try simp only [Act.eval, Array.getD_eq_getD_getElem?, List.getElem?_toArray, List.getElem?_cons_succ, List.getElem?_cons_zero, Option.getD_some, Value.cells] at H); (try simp only [Act.put, List.setIfInBounds_toArray, List.set_cons_succ, List.set_cons_zero, List.getElem_toArray, List.getElem_cons_succ, List.getElem_cons_zero]))
    | (refine L_loadC rfl rfl rfl (H.ext.cell hc (fun e => e)) Try.isAgg3 ?_; (try simp only [Act.put, List.setIfInBounds_toArray, List.set_cons_succ, List.set_cons_zero, List.getElem_toArray, List.getElem_cons_succ, List.getElem_cons_zero])))
  go_ret
  exact ⟨rfl, H.ext⟩

def GivesTab (w : World) (t : Tab) (e : Ending) (w' : World) : Prop := ∃ bv ps, e = .returned (tabV t bv) ∧ ps.map (·.2) = t.bs ∧ BsR w' bv ps ∧ Ext0 w w'
theorem idxF_nil (pr : Blk → Bool) : idxF pr [] = -1 := rfl
set_option maxRecDepth 100000 in
set_option maxHeartbeats 4000000 in
/-- With, of a table without blocks. -/
theorem with0_any (epoch old phase mode next gen : Int) (x : BV) (w : World) (hx : RdS (encInt .u8) 1 w x.wv x.2.wrap) (hxl : x.2.wrap.length ≤ 140737488355000) :
    Calls Try.prog 24 #[tabV ⟨epoch, old, phase, mode, next, gen, []⟩ (.slice none 0 0), blkV x] w (GivesTab w ⟨epoch, old, phase, mode, next, gen, [x.2]⟩) := by
  have eg : ∀ args w, (callFunc 51 args).run Try.prog w = .ok (.enter 51 args) w := enters_of Try.func51 (by kernel_rfl) rfl
  have hfind := fun {W : World} => find_any ⟨epoch, old, phase, mode, next, gen, []⟩ (.slice none 0 0) [] x.2.id W rfl (RdS.nil _ _ _) (by simp)
  have hcop := fun {W : World} => copied_any (.slice none 0 0) [] W ⟨RdS.nil _ _ _, by simp⟩ (by simp) (by simp)
  have hclone := fun {W : World} (h : RdS (encInt .u8) 1 W x.wv x.2.wrap) => cloneB_any x.wv x.2.wrap W h hxl
  have hix := fun {W : World} {B : Nat} {v : Value} (hB : W.cell? ⟨B, 0, none⟩ = some (.int .i64 x.2.id)) (hr : RdS bvCells 6 W v []) => indexFunc_any 51 #[.pointer (some ⟨B, 0, none⟩)] (fun b => decide (x.2.id < b.id)) eg v [] W hr (by simp) (with_closure x.2.id B W hB)
  simp only [tabV, findP, idxF_nil, List.map_nil] at hfind hix ⊢
  obtain ⟨⟨WA, wc⟩, b1, b2, b3, b4, b5, f⟩ := x
  simp only [blkV, BV.wv] at hfind hclone hix hx ⊢
  have H : SH (fun _ => False) w w [] := SH.nil _ _
  have HX := Lib.hid hx
  clear hx
  go_enter Try.func24, Try.ntmps24
  go_upto_region 1 with (first
    | (refine L_box rfl rfl H rfl rfl ?_; clear H; intro g w H; (try simp only [Act.eval, Array.getD_eq_getD_getElem?, List.getElem?_toArray, List.getElem?_cons_succ, List.getElem?_cons_zero, Option.getD_some, Value.cells] at H); (try simp only [Act.put, List.setIfInBounds_toArray, List.set_cons_succ, List.set_cons_zero, List.getElem_toArray, List.getElem_cons_succ, List.getElem_cons_zero]))
    | (refine L_alloc rfl rfl H Try.zeroValue24 ?_; clear H; intro g4 w H; simp only [Value.cells] at H; (try simp only [Act.put, List.setIfInBounds_toArray, List.set_cons_succ, List.set_cons_zero, List.getElem_toArray, List.getElem_cons_succ, List.getElem_cons_zero])))
  go_upto_region 4 with (first
    | (refine L_loadrow rfl rfl H 2 rfl rfl Try.underlying24 rfl info24 rfl ?_; (try simp only [Act.put, List.setIfInBounds_toArray, List.set_cons_succ, List.set_cons_zero, List.getElem_toArray, List.getElem_cons_succ, List.getElem_cons_zero]))
    | (refine L_load1 rfl rfl H 1 rfl rfl rfl Try.isAgg3 ?_; (try simp only [Act.put, List.setIfInBounds_toArray, List.set_cons_succ, List.set_cons_zero, List.getElem_toArray, List.getElem_cons_succ, List.getElem_cons_zero]))
    | (refine L_load1 rfl rfl H 2 rfl rfl rfl Try.isAgg22 ?_; (try simp only [Act.put, List.setIfInBounds_toArray, List.set_cons_succ, List.set_cons_zero, List.getElem_toArray, List.getElem_cons_succ, List.getElem_cons_zero]))
    | (refine L_load1 rfl rfl H 3 rfl rfl rfl Try.isAgg34 ?_; (try simp only [Act.put, List.setIfInBounds_toArray, List.set_cons_succ, List.set_cons_zero, List.getElem_toArray, List.getElem_cons_succ, List.getElem_cons_zero]))
    | (refine L_store1 rfl rfl H 4 rfl rfl rfl rfl rfl (Nat.le_of_ble_eq_true rfl) Try.sizeOf34 ?_; clear H; intro w H; simp only [List.set_cons_zero, List.set_cons_succ, List.setIfInBounds_toArray, Act.eval, Array.getD_eq_getD_getElem?, List.getElem?_toArray, List.getElem?_cons_succ, List.getElem?_cons_zero, Option.getD_some] at H; (try simp only [Act.put, List.setIfInBounds_toArray, List.set_cons_succ, List.set_cons_zero, List.getElem_toArray, List.getElem_cons_succ, List.getElem_cons_zero]))
    | (go_at_call 22; refine hfind.mono ?_; rintro e w2 ⟨rfl, hE⟩; replace H := H.calls hE; clear hE)
    | (go_at_call 49; refine hcop.mono ?_; rintro e w2 ⟨vl, qs, by_, rfl, h, hqm, hqb⟩; have hq0 : qs = [] := (by simpa using hqm); subst hq0; replace H := H.cat h; simp only [List.length_nil, List.cons_append, List.nil_append] at H; clear hqm hqb h; obtain ⟨Al, cl, rfl⟩ := own_slice (H.get 0 rfl))
    | (go_at_call 50; refine (hclone (HX.out.keep H.ext)).mono ?_; rintro e w2 ⟨v2, rfl, ho, hE⟩; obtain ⟨A2, c2, rfl⟩ := own_slice ho; replace H := H.addOwn hE ho; clear ho hE))
  clear hfind hcop hclone
  have hcb := cell_of_row _ g 0 _ _ _ (H.at_ 4 rfl)
  have hix2 := hix (B := g) hcb (RdS.own bvLen (xs := []) rfl (H.get 1 rfl))
  clear hcb hix
  go_upto_region 9 with (first
    | (go_at_call 47; refine hix2.mono ?_; rintro e w2 ⟨rfl, hE⟩; replace H := H.calls hE; clear hE))
  clear hix2
  go_upto_region 10 with (first
    | (refine L_loadrow rfl rfl H 4 rfl rfl Try.underlying45 rfl info45 rfl ?_; (try simp only [Act.put, List.setIfInBounds_toArray, List.set_cons_succ, List.set_cons_zero, List.getElem_toArray, List.getElem_cons_succ, List.getElem_cons_zero]))
    | (refine L_litE (e := 45) (cs := ?_) rfl rfl H ?_ ?_; rotate_left; (focus (intro _; first | (go_simp; done) | (go_simp; rfl))); all_goals skip; clear H; intro gl w H hE; clear hE)
    | (go_at_call 52; have hu := oneBV (p := ((A2, c2), ⟨b1, b2, b3, b4, b5, f⟩)) (H.at_ 0 rfl); have H' := (H.drop (L' := [_, _, _, _]) (List.Sublist.cons _ (List.Sublist.cons_cons _ (List.Sublist.cons_cons _ (List.Sublist.cons _ (List.Sublist.cons_cons _ (List.Sublist.cons _ (List.Sublist.cons_cons _ (List.nil_sublist _))))))))).perm (.swap _ _ _); clear H; refine (insertEnd_any (n := 0) H' (by omega) _ _ hu).mono ?_; clear H' hu; rintro e w2 ⟨vi, rfl, H⟩))
  obtain ⟨gi, ci, hvi⟩ := own_form (H.get 0 rfl) (by omega)
  subst hvi
  have hci : 1 ≤ ci := by
    obtain ⟨_, c', he, hc⟩ := (RdS.own bvLen (xs := [((A2, c2), ⟨b1, b2, b3, b4, b5, f⟩)]) rfl (by have := H.get 0 rfl; rw [← cellsOf_append] at this; exact this)).len
    cases he
    exact hc
  simp only [Nat.zero_add] at H
  go_wp2_with (first
    | (go_at_call 44; refine (clipBs_any (some ⟨gi, 0, none⟩) 1 ci _ hci (by omega)).mono ?_; rintro e w3 ⟨rfl, rfl⟩)
    | (refine L_store1 rfl rfl H 3 rfl rfl rfl rfl rfl (Nat.le_of_ble_eq_true rfl) Try.sizeOf22 ?_; clear H; intro w H; simp only [List.set_cons_zero, List.set_cons_succ, List.setIfInBounds_toArray, Act.eval, Array.getD_eq_getD_getElem?, List.getElem?_toArray, List.getElem?_cons_succ, List.getElem?_cons_zero, Option.getD_some] at H; (try simp only [Act.put, List.setIfInBounds_toArray, List.set_cons_succ, List.set_cons_zero, List.getElem_toArray, List.getElem_cons_succ, List.getElem_cons_zero]))
    | (refine L_loadrow rfl rfl H 3 rfl rfl Try.underlying24 rfl info24 rfl ?_; (try simp only [Act.put, List.setIfInBounds_toArray, List.set_cons_succ, List.set_cons_zero, List.getElem_toArray, List.getElem_cons_succ, List.getElem_cons_zero]))
    | (refine L_storerow rfl rfl H 2 rfl rfl rfl info24 rfl rfl (one7s _ _ _ _ _ _ _ _ _) ?_; clear H; intro w H; simp only [List.set_cons_zero, List.set_cons_succ, List.setIfInBounds_toArray, Act.eval, Array.getD_eq_getD_getElem?, List.getElem?_toArray, List.getElem?_cons_succ, List.getElem?_cons_zero, Option.getD_some] at H; (try simp only [Act.put, List.setIfInBounds_toArray, List.set_cons_succ, List.set_cons_zero, List.getElem_toArray, List.getElem_cons_succ, List.getElem_cons_zero])))
  (try simp only [Exit.inBlock, Exit.then])
  refine L_retrow rfl H 2 rfl rfl Try.underlying24 rfl info24 rfl rfl ?_
  exact ⟨.slice (some ⟨gi, 0, none⟩) 1 1, [((A2, c2), ⟨b1, b2, b3, b4, b5, f⟩)], rfl, rfl, ⟨(RdS.own bvLen (xs := [((A2, c2), ⟨b1, b2, b3, b4, b5, f⟩)]) rfl (by have := H.get 0 rfl; rw [← cellsOf_append] at this; exact this)).clip, fun p hp => by
    rw [List.mem_singleton.1 hp]
    exact RdS.own (encInt_len .u8) rfl (H.get 1 rfl)⟩, H.ext⟩
end Go.Proofs.Ytoaieodcdbbndaa
