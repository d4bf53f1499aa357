/- Tables: the law's cut. -/
import Derived.Test.YtoaieodcdbbndaaTabN
namespace Go.Proofs.Ytoaieodcdbbndaa
set_option linter.unusedVariables false
set_option linter.unusedSimpArgs false
open Go.RowKit

def cutB (b : Blk) : Blk := { b with wrap := b.wrap.take 80 }
def cutT (t : Tab) : Tab := { t with bs := (t.bs.take 20).map cutB }
/-- A block as the law cuts it. -/
def cutV (p : BV) : BV := (p.1, cutB p.2)
theorem cut_rd {w : World} {p : BV} (h : RdS (encInt .u8) 1 w p.wv p.2.wrap) : RdS (encInt .u8) 1 w (cutV p).wv (cutV p).2.wrap := by
  obtain ⟨A, c, he, hc, hh⟩ := h
  simp only [BV.wv, Value.slice.injEq] at he
  obtain ⟨h1, _, h2⟩ := he
  have hl : (p.2.wrap.take 80).length ≤ p.2.wrap.length := by rw [List.length_take]; omega
  refine ⟨p.1.1, p.1.2, rfl, by show (p.2.wrap.take 80).length ≤ _; rw [h2]; omega, ?_⟩
  rcases hh with hh | ⟨b, off, cs, T, fr, hA, hb, hcs⟩
  · left
    show p.2.wrap.take 80 = []
    rw [hh]; rfl
  · right
    refine ⟨b, off, cs, T, fr, by rw [h1]; exact hA, hb, fun j hj i hi => ?_⟩
    have hj2 : j < p.2.wrap.length := by
      have : j < (p.2.wrap.take 80).length := hj
      omega
    rw [hcs j hj2 i hi]
    have hj3 : j < (p.2.wrap.take 80).length := hj
    have h9 : (p.2.wrap.take 80)[j]'hj3 = p.2.wrap[j] := List.getElem_take
    rw [← h9]
    rfl
theorem oneBV2 {w : World} {g : Nat} {T : TypeId} {fr : Nat × Nat} {id bgen at_ size ep : Int} {WA : Option Addr} {n wc : Nat} {wrap : List Int} (hn : wrap.length = n) (h : w.heap[g]? = some (.cells #[.int .i64 id, .int .i64 bgen, .int .i64 at_, .int .i64 size, .int .i64 ep, .slice WA n wc] T fr)) : RdS bvCells 6 w (.slice (some ⟨g, 0, none⟩) 1 1) [((WA, wc), ⟨id, bgen, at_, size, ep, wrap⟩)] := by
  subst hn
  exact oneBV (p := ((WA, wc), ⟨id, bgen, at_, size, ep, wrap⟩)) h
def GivesCut (t : Tab) (w : World) (e : Ending) (w' : World) : Prop := ∃ v qs, e = .returned (tabV (cutT t) v) ∧ qs.map (·.2) = (cutT t).bs ∧ qs.length ≤ 20 ∧ BsR w' v qs ∧ Ext0 w w'
def CutRel (L : List Asr) (qs : List BV) (w0 : World) (v3 vi : Value) (wr : World) : Prop :=
  ∃ j : Nat, vi = .int .i64 (j : Int) ∧ j ≤ qs.length ∧ SH (fun _ => False) w0 wr (ownA 45 6 v3 j (cellsOf bvCells (qs.take j)) :: L)
set_option maxRecDepth 100000 in
set_option maxHeartbeats 2000000 in
theorem cut_any (t : Tab) (bv : Value) (ps : List BV) (w0 : World) (hps : ps.map (·.2) = t.bs) (hb : BsR w0 bv ps) :
    Calls Try.prog 8 #[tabV t bv] w0 (GivesCut t w0) := by
  have H : SH (fun _ => False) w0 w0 [] := SH.nil _ _
  obtain ⟨A, cap, rfl, hcap⟩ := hb.row.len
  obtain ⟨qs, hqs⟩ : ∃ qs, (ps.take 20).map cutV = qs := ⟨_, rfl⟩
  have hql : qs.length = min 20 ps.length := by rw [← hqs, List.length_map, List.length_take]
  have hqi : ∀ j (hj : j < ps.length) (hq : j < qs.length), qs[j] = cutV ps[j] := fun j hj hq => by
    simp only [← hqs, List.getElem_map, List.getElem_take]
  have hqm : qs.map (·.2) = (cutT t).bs := by
    rw [← hqs]
    unfold cutT
    rw [← hps]
    simp only [List.map_take, List.map_map]
    rfl
  have hqr : ∀ q ∈ qs, RdS (encInt .u8) 1 w0 q.wv q.2.wrap := fun q hq => by
    rw [← hqs] at hq
    obtain ⟨p, hp, rfl⟩ := List.mem_map.1 hq
    exact cut_rd (hb.wrap p (List.mem_of_mem_take hp))
  have HQ := Lib.hid (And.intro hql (And.intro hqi (And.intro hqm hqr)))
  have HB := Lib.hid hb
  clear hqs hql hqi hqm hqr hb hps
  obtain ⟨epoch, old, phase, mode, next, gen, bs⟩ := t
  simp only [tabV, cutT] at HQ ⊢
  go_enter Try.func8, Try.ntmps8
  go_upto_region 1 with (first
    | (refine L_box rfl rfl H rfl rfl ?_; clear H; intro g w H; (try simp only [Act.eval, Array.getD_eq_getD_getElem?, List.getElem?_toArray, List.getElem?_cons_succ, List.getElem?_cons_zero, Option.getD_some, Value.cells] at H); (try simp only [Act.put, List.setIfInBounds_toArray, List.set_cons_succ, List.set_cons_zero, List.getElem_toArray, List.getElem_cons_succ, List.getElem_cons_zero]))
    | (refine L_alloc rfl rfl H Try.zeroValue24 ?_; clear H; intro g2 w H; simp only [Value.cells] at H; (try simp only [Act.put, List.setIfInBounds_toArray, List.set_cons_succ, List.set_cons_zero, List.getElem_toArray, List.getElem_cons_succ, List.getElem_cons_zero])))
  go_wp2_with (first
    | (refine L_lit (e := 45) (cs := #[]) rfl rfl H (by intro _; first | (go_simp; done) | (go_simp; rfl)) ?_; clear H; intro g3 w H; replace H := H.toOwn 0 rfl 6 0 0 (Nat.le_refl _) (Nat.zero_le _) rfl [] rfl; simp only [List.set_cons_zero] at H))
  go_loopw [3, 4] (fun v3 vi wr => CutRel _ qs w0 v3 vi wr) (fun _ vi _ => 20 - (intOf vi).toNat)
  case atStart => exact ⟨0, rfl, Nat.zero_le _, H⟩
  case round =>
    clear H
    obtain ⟨j, rfl, hj, H⟩ := hrel
    have hbk := H.at_ 2 rfl
    have hk6 : wr.cell? ⟨g, 6, none⟩ = some (.slice A ps.length cap) := cell_of_row _ g 6 _ _ _ hbk
    clear hbk
    by_cases hjn : j < ps.length ∧ j < 20
    · obtain ⟨hjp, hj20⟩ := hjn
      have hji : (j : Int) < (ps.length : Int) := by omega
      have hj2i : (j : Int) < 20 := by omega
      have hjq : j < qs.length := by have := HQ.out.1; omega
      obtain ⟨p, hp⟩ : ∃ p, ps[j] = p := ⟨_, rfl⟩
      have hqj := HQ.out.2.1 j hjp hjq
      rw [hp] at hqj
      have htk : qs.take (j + 1) = qs.take j ++ [cutV p] := by rw [List.take_add_one, List.getElem?_eq_getElem hjq, hqj]; rfl
      have hwc := (HB.out.wrap p (by rw [← hp]; exact List.getElem_mem _)).len
      obtain ⟨bb, off, cs, T, fr, rfl, hbb, hcs⟩ := HB.out.row.cell hjp
      rw [hp] at hcs
      have HTK := Lib.hid htk
      clear htk hqj hp
      obtain ⟨⟨WA, wc⟩, id, bgen, at_, size, ep, wrap⟩ := p
      simp only [cutV, cutB] at HTK
      have hwcl : wrap.length ≤ wc := by
        obtain ⟨_, c, he, hc⟩ := hwc
        simp only [BV.wv, Value.slice.injEq] at he
        rw [he.2.2]
        exact hc
      clear hwc
      have hcs6 : ∀ i, i < 6 → cs[off + j * 6 + i]? = [Value.int .i64 id, .int .i64 bgen, .int .i64 at_, .int .i64 size, .int .i64 ep, .slice WA wrap.length wc][i]? := fun i hi => hcs i hi
      have hb1 : (j + 1) * 64 ≤ 140737488355328 := by omega
      have hb2 : j + 1 ≤ maxLen := by simp only [maxLen]; omega
      clear hcs
      go_upto_region 6 with (first
        | (refine L_load1 rfl rfl H 2 rfl rfl rfl Try.isAgg22 ?_; (try simp only [Act.put, List.setIfInBounds_toArray, List.set_cons_succ, List.set_cons_zero, List.getElem_toArray, List.getElem_cons_succ, List.getElem_cons_zero]))
        | (refine L_loadmidr rfl rfl H rfl hbb (fun e => e) Try.underlying45 rfl info45 [Value.int .i64 id, .int .i64 bgen, .int .i64 at_, .int .i64 size, .int .i64 ep, .slice WA wrap.length wc] rfl hcs6 ?_; (try simp only [Act.put, List.setIfInBounds_toArray, List.set_cons_succ, List.set_cons_zero, List.getElem_toArray, List.getElem_cons_succ, List.getElem_cons_zero])))
      clear hcs6 hbb hk6
      replace H := H.alloc (.cells #[.int .i64 id, .int .i64 bgen, .int .i64 at_, .int .i64 size, .int .i64 ep, .slice WA wrap.length wc] 45)
      generalize wr.heap.size = g5 at *
      generalize wr.alloc (.cells #[.int .i64 id, .int .i64 bgen, .int .i64 at_, .int .i64 size, .int .i64 ep, .slice WA wrap.length wc] 45) = wA at *
      obtain ⟨w8, hw8⟩ : ∃ w8, wrap.take 80 = w8 := ⟨_, rfl⟩
      rw [hw8] at HTK
      have hw8l : w8.length = min 80 wrap.length := by rw [← hw8, List.length_take]
      clear hw8
      by_cases h80 : 80 < wrap.length
      · have h80i : (80 : Int) < (wrap.length : Int) := by omega
        have h80c : (80 : Int) ≤ (wc : Int) := by omega
        have hl80 : w8.length = 80 := by omega
        have HL := Lib.hid hl80
        clear hl80 hw8l
        go_wp2_with (first
          | (refine L_store1 rfl rfl H 0 rfl rfl rfl rfl rfl (Nat.le_of_ble_eq_true rfl) Try.sizeOf34 ?_; clear H; intro w H; simp only [List.set_cons_zero, List.set_cons_succ, List.setIfInBounds_toArray, Act.eval, Array.getD_eq_getD_getElem?, List.getElem?_toArray, List.getElem?_cons_succ, List.getElem?_cons_zero, Option.getD_some] at H; (try simp only [Act.put, List.setIfInBounds_toArray, List.set_cons_succ, List.set_cons_zero, List.getElem_toArray, List.getElem_cons_succ, List.getElem_cons_zero]))
          | (refine L_load1 rfl rfl H 0 rfl rfl rfl Try.isAgg34 ?_; (try simp only [Act.put, List.setIfInBounds_toArray, List.set_cons_succ, List.set_cons_zero, List.getElem_toArray, List.getElem_cons_succ, List.getElem_cons_zero]))
          | (refine L_loadrow rfl rfl H 0 rfl rfl Try.underlying45 rfl info45 rfl ?_; (try simp only [Act.put, List.setIfInBounds_toArray, List.set_cons_succ, List.set_cons_zero, List.getElem_toArray, List.getElem_cons_succ, List.getElem_cons_zero]))
          | (refine L_litE (e := 45) (cs := ?_) rfl rfl H ?_ ?_; rotate_left; (focus (intro _; first | (go_simp; done) | (go_simp; rfl))); all_goals skip; clear H; intro gl w H hE; clear hE; have hu := oneBV2 (id := id) (bgen := bgen) (at_ := at_) (size := size) (ep := ep) (WA := WA) (wc := wc) (wrap := w8) HL.out (H.at_ 0 rfl))
          | (refine L_append bvLen bvOne (xv := .slice (some ⟨gl, 0, none⟩) 1 1) (ys := [((WA, wc), ⟨id, bgen, at_, size, ep, w8⟩)]) rfl rfl Try.underlying22 infoBZ rfl (by decide) H 2 rfl rfl rfl hu hb1 hb2 ?_; clear H hu; intro v2 w H hnn; clear hnn; simp only [List.set_cons_zero, List.set_cons_succ] at H))
        go_roundw
        case rel =>
          refine ⟨j + 1, by go_num, by have := HQ.out.1; omega, ?_⟩
          have H9 := H.drop (List.Sublist.cons _ (List.Sublist.cons _ (List.Sublist.refl _)))
          rw [← cellsOf_append, ← HTK.out] at H9
          exact H9
        case measure => simp [intOf]; omega
      · have h80i : ¬ (80 : Int) < (wrap.length : Int) := by omega
        have hl80 : w8.length = wrap.length := by omega
        have HL := Lib.hid hl80
        clear hl80 hw8l
        go_wp2_with (first
          | (refine L_store1 rfl rfl H 0 rfl rfl rfl rfl rfl (Nat.le_of_ble_eq_true rfl) Try.sizeOf34 ?_; clear H; intro w H; simp only [List.set_cons_zero, List.set_cons_succ, List.setIfInBounds_toArray, Act.eval, Array.getD_eq_getD_getElem?, List.getElem?_toArray, List.getElem?_cons_succ, List.getElem?_cons_zero, Option.getD_some] at H; (try simp only [Act.put, List.setIfInBounds_toArray, List.set_cons_succ, List.set_cons_zero, List.getElem_toArray, List.getElem_cons_succ, List.getElem_cons_zero]))
          | (refine L_load1 rfl rfl H 0 rfl rfl rfl Try.isAgg34 ?_; (try simp only [Act.put, List.setIfInBounds_toArray, List.set_cons_succ, List.set_cons_zero, List.getElem_toArray, List.getElem_cons_succ, List.getElem_cons_zero]))
          | (refine L_loadrow rfl rfl H 0 rfl rfl Try.underlying45 rfl info45 rfl ?_; (try simp only [Act.put, List.setIfInBounds_toArray, List.set_cons_succ, List.set_cons_zero, List.getElem_toArray, List.getElem_cons_succ, List.getElem_cons_zero]))
          | (refine L_litE (e := 45) (cs := ?_) rfl rfl H ?_ ?_; rotate_left; (focus (intro _; first | (go_simp; done) | (go_simp; rfl))); all_goals skip; clear H; intro gl w H hE; clear hE; have hu := oneBV2 (id := id) (bgen := bgen) (at_ := at_) (size := size) (ep := ep) (WA := WA) (wc := wc) (wrap := w8) HL.out (H.at_ 0 rfl))
          | (refine L_append bvLen bvOne (xv := .slice (some ⟨gl, 0, none⟩) 1 1) (ys := [((WA, wc), ⟨id, bgen, at_, size, ep, w8⟩)]) rfl rfl Try.underlying22 infoBZ rfl (by decide) H 2 rfl rfl rfl hu hb1 hb2 ?_; clear H hu; intro v2 w H hnn; clear hnn; simp only [List.set_cons_zero, List.set_cons_succ] at H))
        go_roundw
        case rel =>
          refine ⟨j + 1, by go_num, by have := HQ.out.1; omega, ?_⟩
          have H9 := H.drop (List.Sublist.cons _ (List.Sublist.cons _ (List.Sublist.refl _)))
          rw [← cellsOf_append, ← HTK.out] at H9
          exact H9
        case measure => simp [intOf]; omega
    · have hje : j = qs.length := by have := HQ.out.1; omega
      rw [List.take_of_length_le (Nat.le_of_eq hje.symm)] at H
      obtain ⟨A3, c3, rfl⟩ := own_slice (H.get 0 rfl)
      have hrd := RdS.own bvLen hje (H.get 0 rfl)
      have HJ := Lib.hid hje
      have ht : ¬ (j : Int) < (ps.length : Int) ∨ ((j : Int) < (ps.length : Int) ∧ ¬ (j : Int) < 20) := by omega
      clear hje hj hrd hjn
      rcases ht with ht | ⟨ht, ht2⟩
      · go_wp2_with (first
          | (refine L_store1 rfl rfl H 2 rfl rfl rfl rfl rfl (Nat.le_of_ble_eq_true rfl) Try.sizeOf22 ?_; clear H; intro w H; simp only [List.set_cons_zero, List.set_cons_succ, List.setIfInBounds_toArray, Act.eval, Array.getD_eq_getD_getElem?, List.getElem?_toArray, List.getElem?_cons_succ, List.getElem?_cons_zero, Option.getD_some] at H; (try simp only [Act.put, List.setIfInBounds_toArray, List.set_cons_succ, List.set_cons_zero, List.getElem_toArray, List.getElem_cons_succ, List.getElem_cons_zero]))
          | (refine L_loadrow rfl rfl H 2 rfl rfl Try.underlying24 rfl info24 rfl ?_; (try simp only [Act.put, List.setIfInBounds_toArray, List.set_cons_succ, List.set_cons_zero, List.getElem_toArray, List.getElem_cons_succ, List.getElem_cons_zero]))
          | (refine L_storerow rfl rfl H 1 rfl rfl rfl info24 rfl rfl (one7s _ _ _ _ _ _ _ _ _) ?_; clear H; intro w H; simp only [List.set_cons_zero, List.set_cons_succ, List.setIfInBounds_toArray, Act.eval, Array.getD_eq_getD_getElem?, List.getElem?_toArray, List.getElem?_cons_succ, List.getElem?_cons_zero, Option.getD_some] at H; (try simp only [Act.put, List.setIfInBounds_toArray, List.set_cons_succ, List.set_cons_zero, List.getElem_toArray, List.getElem_cons_succ, List.getElem_cons_zero])))
        (try simp only [Exit.inBlock, Exit.then])
        refine L_retrow rfl H 1 rfl rfl Try.underlying24 rfl info24 rfl rfl ?_
        exact ⟨.slice A3 j c3, qs, rfl, HQ.out.2.2.1, by have := HQ.out.1; omega, ⟨RdS.own bvLen HJ.out (H.get 0 rfl), fun q hq => (HQ.out.2.2.2 q hq).keep H.ext⟩, H.ext⟩
      · go_wp2_with (first
          | (refine L_store1 rfl rfl H 2 rfl rfl rfl rfl rfl (Nat.le_of_ble_eq_true rfl) Try.sizeOf22 ?_; clear H; intro w H; simp only [List.set_cons_zero, List.set_cons_succ, List.setIfInBounds_toArray, Act.eval, Array.getD_eq_getD_getElem?, List.getElem?_toArray, List.getElem?_cons_succ, List.getElem?_cons_zero, Option.getD_some] at H; (try simp only [Act.put, List.setIfInBounds_toArray, List.set_cons_succ, List.set_cons_zero, List.getElem_toArray, List.getElem_cons_succ, List.getElem_cons_zero]))
          | (refine L_loadrow rfl rfl H 2 rfl rfl Try.underlying24 rfl info24 rfl ?_; (try simp only [Act.put, List.setIfInBounds_toArray, List.set_cons_succ, List.set_cons_zero, List.getElem_toArray, List.getElem_cons_succ, List.getElem_cons_zero]))
          | (refine L_storerow rfl rfl H 1 rfl rfl rfl info24 rfl rfl (one7s _ _ _ _ _ _ _ _ _) ?_; clear H; intro w H; simp only [List.set_cons_zero, List.set_cons_succ, List.setIfInBounds_toArray, Act.eval, Array.getD_eq_getD_getElem?, List.getElem?_toArray, List.getElem?_cons_succ, List.getElem?_cons_zero, Option.getD_some] at H; (try simp only [Act.put, List.setIfInBounds_toArray, List.set_cons_succ, List.set_cons_zero, List.getElem_toArray, List.getElem_cons_succ, List.getElem_cons_zero])))
        (try simp only [Exit.inBlock, Exit.then])
        refine L_retrow rfl H 1 rfl rfl Try.underlying24 rfl info24 rfl rfl ?_
        exact ⟨.slice A3 j c3, qs, rfl, HQ.out.2.2.1, by have := HQ.out.1; omega, ⟨RdS.own bvLen HJ.out (H.get 0 rfl), fun q hq => (HQ.out.2.2.2 q hq).keep H.ext⟩, H.ext⟩
end Go.Proofs.Ytoaieodcdbbndaa
