/- Tables: With, of any table. -/
import Derived.Test.YtoaieodcdbbndaaTabZb
namespace Go.Proofs.Ytoaieodcdbbndaa
set_option linter.unusedVariables false
set_option linter.unusedSimpArgs false
open Go.RowKit

/-- The place of a block that is put in. -/
def insAt (id : Int) (bs : List Blk) : Nat := if idxF (fun b => decide (id < b.id)) bs < 0 then bs.length else (idxF (fun b => decide (id < b.id)) bs).toNat
def withL (bs : List Blk) (x : Blk) : List Blk := if findP x.id bs < 0 then bs.take (insAt x.id bs) ++ x :: bs.drop (insAt x.id bs) else bs.set (findP x.id bs).toNat x
theorem idxF_cases (pr : Blk → Bool) (bs : List Blk) : idxF pr bs = -1 ∨ ∃ k : Nat, idxF pr bs = (k : Int) ∧ k < bs.length := by
  unfold idxF
  cases h : bs.findIdx? pr with
  | none => exact .inl rfl
  | some i => exact .inr ⟨i, rfl, (List.findIdx?_eq_some_iff_getElem.1 h).1⟩
theorem setCells_row {w : World} {g : Nat} {cur : Array Value} {T : TypeId} (hg : w.heap[g]? = some (.cells cur T (0, 0))) (o : Nat) (vs : List Value) (hf : o + vs.length ≤ cur.size) (h1 : ∀ v ∈ vs, v.oneCell' = true) :
    w.setCells g o vs = w.setRow g (spl cur.toList o vs).toArray := by
  have a := run_storeCells_at Try.prog g o T vs 0 cur w hg (by simpa using hf) h1
  have b := run_storeCells_cells (P := Try.prog) g o vs 0 w (fun j hj => by rw [cell_of_row w g _ cur T _ hg, Array.getElem?_eq_getElem (by omega)]; rfl) (fun j hj => frozen_of_row w g _ cur T hg) h1
  rw [a] at b
  simp only [Result.ok.injEq, Nat.add_zero, true_and] at b
  rw [← b]
  unfold spl
  rw [List.append_assoc]
theorem set_cells (C : List Value) (qs : List BV) (n k : Nat) (hn : n = qs.length) (hC : C.take (n * 6) = cellsOf bvCells qs) (hl : n * 6 ≤ C.length) (hk : k < n) (p : BV) :
    (spl C (k * 6) (bvCells p)).take (n * 6) = cellsOf bvCells (qs.set k p) := by
  have hk2 : k < qs.length := by omega
  have h1 : C = cellsOf bvCells (qs.take k) ++ (bvCells qs[k] ++ (cellsOf bvCells (qs.drop (k + 1)) ++ C.drop (n * 6))) := by
    have h2 : C = cellsOf bvCells qs ++ C.drop (n * 6) := by rw [← hC, List.take_append_drop]
    have h3 : cellsOf bvCells qs = cellsOf bvCells (qs.take k) ++ (bvCells qs[k] ++ cellsOf bvCells (qs.drop (k + 1))) := by
      have : qs = qs.take k ++ qs[k] :: qs.drop (k + 1) := by rw [← List.drop_eq_getElem_cons hk2, List.take_append_drop]
      conv => lhs; rw [this]
      rw [cellsOf_append]
      rfl
    conv => lhs; rw [h2, h3]
    simp only [List.append_assoc]
  have hlk : (cellsOf bvCells (qs.take k)).length = k * 6 := by rw [length_cellsOf bvLen, List.length_take]; omega
  have h4 : (spl C (k * 6) (bvCells p)) = cellsOf bvCells (qs.take k) ++ (bvCells p ++ (cellsOf bvCells (qs.drop (k + 1)) ++ C.drop (n * 6))) := by
    conv => lhs; rw [h1]
    exact spl_at _ _ _ _ (by rw [bvLen, bvLen]) _ hlk.symm
  rw [h4, List.set_eq_take_append_cons_drop, if_pos hk2, cellsOf_append]
  show _ = cellsOf bvCells (qs.take k) ++ (bvCells p ++ cellsOf bvCells (qs.drop (k + 1)))
  have hl2 : (cellsOf bvCells (qs.take k) ++ (bvCells p ++ cellsOf bvCells (qs.drop (k + 1)))).length = n * 6 := by
    rw [List.length_append, List.length_append, hlk, bvLen, length_cellsOf bvLen, List.length_drop]
    omega
  rw [← List.append_assoc (bvCells p), ← List.append_assoc (cellsOf bvCells (qs.take k)), List.take_left' hl2]
theorem map_set_blk (qs : List BV) (k : Nat) (p : BV) : (qs.set k p).map (·.2) = (qs.map (·.2)).set k p.2 := by rw [List.map_set]
set_option maxRecDepth 100000 in
set_option maxHeartbeats 4000000 in
/-- With, of any table. -/
theorem with_any (t : Tab) (bv : Value) (ps : List BV) (x : BV) (w : World) (hps : ps.map (·.2) = t.bs) (hb : BsR w bv ps) (hn : ps.length ≤ 1000) (hwl : ∀ p ∈ ps, p.2.wrap.length ≤ 140737488355000)
    (hx : RdS (encInt .u8) 1 w x.wv x.2.wrap) (hxl : x.2.wrap.length ≤ 140737488355000) :
    Calls Try.prog 24 #[tabV t bv, blkV x] w (GivesTab w { t with bs := withL t.bs x.2 }) := by
  have eg : ∀ args w, (callFunc 51 args).run Try.prog w = .ok (.enter 51 args) w := enters_of Try.func51 (by kernel_rfl) rfl
  have hfind := fun {W : World} (hE : Ext0 w W) => find_any t bv ps x.2.id W hps (hb.row.keep hE) (by omega)
  have hcop := fun {W : World} (hE : Ext0 w W) => copied_any bv ps W (hb.keep hE) (by omega) hwl
  have hclone := fun {W : World} (h : RdS (encInt .u8) 1 W x.wv x.2.wrap) => cloneB_any x.wv x.2.wrap W h hxl
  have hix := fun {W : World} {B : Nat} {v : Value} {qs : List BV} (hB : W.cell? ⟨B, 0, none⟩ = some (.int .i64 x.2.id)) (hq : qs.map (·.2) = ps.map (·.2)) (hr : RdS bvCells 6 W v qs) => indexFunc_any 51 #[.pointer (some ⟨B, 0, none⟩)] (fun b => decide (x.2.id < b.id)) eg v qs W hr (by have := congrArg List.length hq; rw [List.length_map, List.length_map] at this; omega) (with_closure x.2.id B W hB)
  obtain ⟨A, cap, rfl, hcap⟩ := hb.row.len
  obtain ⟨epoch, old, phase, mode, next, gen, bs⟩ := t
  simp only [tabV] at hfind hps ⊢
  subst hps
  obtain ⟨⟨WA, wc⟩, b1, b2, b3, b4, b5, f⟩ := x
  simp only [blkV, BV.wv] at hfind hclone hix hx ⊢
  have H : SH (fun _ => False) w w [] := SH.nil _ _
  have HX := Lib.hid hx
  clear hx hb
  go_enter Try.func24, Try.ntmps24
  go_upto_region 1 with (first
    | (refine L_box rfl rfl H rfl rfl ?_; clear H; intro g w H; (try simp only [Act.eval, Array.getD_eq_getD_getElem?, List.getElem?_toArray, List.getElem?_cons_succ, List.getElem?_cons_zero, Option.getD_some, Value.cells] at H); (try simp only [Act.put, List.setIfInBounds_toArray, List.set_cons_succ, List.set_cons_zero, List.getElem_toArray, List.getElem_cons_succ, List.getElem_cons_zero]))
    | (refine L_alloc rfl rfl H Try.zeroValue24 ?_; clear H; intro g4 w H; simp only [Value.cells] at H; (try simp only [Act.put, List.setIfInBounds_toArray, List.set_cons_succ, List.set_cons_zero, List.getElem_toArray, List.getElem_cons_succ, List.getElem_cons_zero])))
  go_upto_region 4 with (first
    | (refine L_loadrow rfl rfl H 2 rfl rfl Try.underlying24 rfl info24 rfl ?_; (try simp only [Act.put, List.setIfInBounds_toArray, List.set_cons_succ, List.set_cons_zero, List.getElem_toArray, List.getElem_cons_succ, List.getElem_cons_zero]))
    | (refine L_load1 rfl rfl H 1 rfl rfl rfl Try.isAgg3 ?_; (try simp only [Act.put, List.setIfInBounds_toArray, List.set_cons_succ, List.set_cons_zero, List.getElem_toArray, List.getElem_cons_succ, List.getElem_cons_zero]))
    | (refine L_load1 rfl rfl H 2 rfl rfl rfl Try.isAgg22 ?_; (try simp only [Act.put, List.setIfInBounds_toArray, List.set_cons_succ, List.set_cons_zero, List.getElem_toArray, List.getElem_cons_succ, List.getElem_cons_zero]))
    | (refine L_load1 rfl rfl H 3 rfl rfl rfl Try.isAgg34 ?_; (try simp only [Act.put, List.setIfInBounds_toArray, List.set_cons_succ, List.set_cons_zero, List.getElem_toArray, List.getElem_cons_succ, List.getElem_cons_zero]))
    | (refine L_store1 rfl rfl H 4 rfl rfl rfl rfl rfl (Nat.le_of_ble_eq_true rfl) Try.sizeOf34 ?_; clear H; intro w H; simp only [List.set_cons_zero, List.set_cons_succ, List.setIfInBounds_toArray, Act.eval, Array.getD_eq_getD_getElem?, List.getElem?_toArray, List.getElem?_cons_succ, List.getElem?_cons_zero, Option.getD_some] at H; (try simp only [Act.put, List.setIfInBounds_toArray, List.set_cons_succ, List.set_cons_zero, List.getElem_toArray, List.getElem_cons_succ, List.getElem_cons_zero]))
    | (go_at_call 22; refine (hfind H.ext).mono ?_; rintro e w2 ⟨rfl, hE⟩; replace H := H.calls hE; clear hE)
    | (go_at_call 49; refine (hcop H.ext).mono ?_; rintro e w2 ⟨vl, qs, by_, rfl, h, hqm, hqb⟩; replace H := H.cat h; simp only [List.cons_append, List.nil_append] at H; clear h; obtain ⟨Al, cl, rfl⟩ := own_slice (H.get 0 rfl))
    | (go_at_call 50; refine (hclone (HX.out.keep H.ext)).mono ?_; rintro e w2 ⟨v2, rfl, ho, hE⟩; obtain ⟨A2, c2, rfl⟩ := own_slice ho; replace H := H.addOwn hE ho; clear ho hE))
  clear hfind hcop hclone
  have hql : qs.length = ps.length := by have := congrArg List.length hqm; rw [List.length_map, List.length_map] at this; exact this
  rcases idxF_cases (fun b => b.id == b1) (ps.map (·.2)) with hf | ⟨k, hf, hk⟩
  case inr =>
    rw [List.length_map] at hk
    have hfp : findP b1 (ps.map (·.2)) = (k : Int) := hf
    clear hix hf
    have hmp : (qs.set k ((A2, c2), ⟨b1, b2, b3, b4, b5, f⟩)).map (·.2) = withL (ps.map (·.2)) ⟨b1, b2, b3, b4, b5, f⟩ := by
      unfold withL
      rw [map_set_blk, hqm]
      simp only
      rw [hfp, if_neg (by omega), Int.toNat_natCast]
    rw [hfp]
    obtain ⟨gl, glc, hv⟩ := own_form (H.get 1 rfl) (by omega)
    simp only [Value.slice.injEq] at hv
    obtain ⟨rfl, _, rfl⟩ := hv
    have H2 := H.perm (List.Perm.swap _ _ _)
    obtain ⟨cur, H3, hcc, hcm, hcs, hrow0⟩ := H2.unOwn
    clear H H2
    have hset := set_cells cur.toList qs ps.length k hql.symm hrow0 (by have h9 : cur.toList.length = cur.size := Array.length_toList; omega) hk ((A2, c2), ⟨b1, b2, b3, b4, b5, f⟩)
    have hsz : (spl cur.toList (k * 6) (bvCells ((A2, c2), ⟨b1, b2, b3, b4, b5, f⟩))).toArray.size = cl * 6 := by
      simp only [spl, List.size_toArray, List.length_append, List.length_take, List.length_drop, Array.length_toList, bvLen]
      omega
    have hthere := fun {W : World} (h : W.heap[gl]? = some (.cells cur 45 (0, 0))) => setCells_row (w := W) h (k * 6) (bvCells ((A2, c2), ⟨b1, b2, b3, b4, b5, f⟩)) (by rw [bvLen]; omega) (bvOne _)
    obtain ⟨cur2, hcur2⟩ : ∃ cur2, (spl cur.toList (k * 6) (bvCells ((A2, c2), ⟨b1, b2, b3, b4, b5, f⟩))).toArray = cur2 := ⟨_, rfl⟩
    rw [hcur2] at hsz hthere
    rw [show spl cur.toList (k * 6) (bvCells ((A2, c2), ⟨b1, b2, b3, b4, b5, f⟩)) = cur2.toList by rw [← hcur2]] at hset
    have hki : (k : Int) < (ps.length : Int) := by omega
    have hkf : k * 6 + 6 ≤ cur.size := by omega
    have HS := Lib.hid (And.intro hset (And.intro hsz (And.intro hmp (And.intro hqb hql))))
    clear hset hsz hmp hqb hql hqm hcur2 hrow0 hfp
    go_upto_region 10 with (first
      | (refine L_loadrow rfl rfl H3 4 rfl rfl Try.underlying45 rfl info45 rfl ?_; (try simp only [Act.put, List.setIfInBounds_toArray, List.set_cons_succ, List.set_cons_zero, List.getElem_toArray, List.getElem_cons_succ, List.getElem_cons_zero]))
      | (refine wpList_store_mid rfl 45 _ _ rfl gl (k * 6) #[.int .i64 b1, .int .i64 b2, .int .i64 b3, .int .i64 b4, .int .i64 b5, .slice A2 f.length c2] rfl rfl (H3.there 0 rfl (k * 6) 6 hkf) info45 (by simp [Value.oneCell']) ?_; have hrw := hthere (H3.at_ 0 rfl); have H4 := H3.setRow (cs := cur2) 0 rfl; simp only [List.set_cons_zero] at H4; change wpList _ _ _ _ _ (World.setCells _ gl (k * 6) (bvCells ((A2, c2), ⟨b1, b2, b3, b4, b5, f⟩))); rw [hrw]; clear H3 hthere hrw; generalize World.setRow _ gl cur2 = wB at *))
    have H := H4.toOwn 0 rfl 6 ps.length cl hcc hcm HS.out.2.1 _ HS.out.1
    simp only [List.set_cons_zero] at H
    clear H4
    have hlen : ps.length = (qs.set k ((A2, c2), ⟨b1, b2, b3, b4, b5, f⟩)).length := by rw [List.length_set]; exact HS.out.2.2.2.2.symm
    replace hlen := Lib.hid hlen
    have hmem : ∀ {W : World}, RdS (encInt .u8) 1 W (.slice A2 f.length c2) f → (bytesA by_).says W → ∀ q ∈ qs.set k ((A2, c2), ⟨b1, b2, b3, b4, b5, f⟩), RdS (encInt .u8) 1 W q.wv q.2.wrap := fun {W} h1 h2 q hq => by
      rcases List.mem_or_eq_of_mem_set hq with hq | rfl
      · exact h2 _ (HS.out.2.2.2.1 q hq)
      · exact h1
    go_wp2_with (first
      | (go_at_call 44; refine (clipBs_any (some ⟨gl, 0, none⟩) (ps.length) cl _ hcc (by omega)).mono ?_; rintro e w3 ⟨rfl, rfl⟩)
      | (refine L_store1 rfl rfl H 5 rfl rfl rfl rfl rfl (Nat.le_of_ble_eq_true rfl) Try.sizeOf22 ?_; clear H; intro w H; simp only [List.set_cons_zero, List.set_cons_succ, List.setIfInBounds_toArray, Act.eval, Array.getD_eq_getD_getElem?, List.getElem?_toArray, List.getElem?_cons_succ, List.getElem?_cons_zero, Option.getD_some] at H; (try simp only [Act.put, List.setIfInBounds_toArray, List.set_cons_succ, List.set_cons_zero, List.getElem_toArray, List.getElem_cons_succ, List.getElem_cons_zero]))
      | (refine L_loadrow rfl rfl H 5 rfl rfl Try.underlying24 rfl info24 rfl ?_; (try simp only [Act.put, List.setIfInBounds_toArray, List.set_cons_succ, List.set_cons_zero, List.getElem_toArray, List.getElem_cons_succ, List.getElem_cons_zero]))
      | (refine L_storerow rfl rfl H 3 rfl rfl rfl info24 rfl rfl (one7s _ _ _ _ _ _ _ _ _) ?_; clear H; intro w H; simp only [List.set_cons_zero, List.set_cons_succ, List.setIfInBounds_toArray, Act.eval, Array.getD_eq_getD_getElem?, List.getElem?_toArray, List.getElem?_cons_succ, List.getElem?_cons_zero, Option.getD_some] at H; (try simp only [Act.put, List.setIfInBounds_toArray, List.set_cons_succ, List.set_cons_zero, List.getElem_toArray, List.getElem_cons_succ, List.getElem_cons_zero])))
    (try simp only [Exit.inBlock, Exit.then])
    refine L_retrow rfl H 3 rfl rfl Try.underlying24 rfl info24 rfl rfl ?_
    have hrow := RdS.own bvLen (xs := qs.set k ((A2, c2), ⟨b1, b2, b3, b4, b5, f⟩)) hlen.out (H.get 0 rfl)
    have hown := RdS.own (encInt_len .u8) rfl (H.get 1 rfl)
    have hby := H.get 2 (A := bytesA by_) rfl
    exact ⟨.slice (some ⟨gl, 0, none⟩) (ps.length) (ps.length), qs.set k ((A2, c2), ⟨b1, b2, b3, b4, b5, f⟩), rfl, HS.out.2.2.1, ⟨hrow.clip, hmem hown hby⟩, H.ext⟩
  case inl =>
    have hfp : findP b1 (ps.map (·.2)) = -1 := hf
    have hcb := cell_of_row _ g 0 _ _ _ (H.at_ 4 rfl)
    have hix2 := hix (B := g) hcb hqm (RdS.own bvLen (xs := qs) hql.symm (H.get 1 rfl))
    rw [hqm] at hix2
    have hmp0 : ∀ N, insAt b1 (ps.map (·.2)) = N → (qs.take N ++ ((A2, c2), ⟨b1, b2, b3, b4, b5, f⟩) :: qs.drop N).map (·.2) = withL (ps.map (·.2)) ⟨b1, b2, b3, b4, b5, f⟩ := fun N hN => by
      unfold withL
      simp only
      rw [hfp, if_pos (by omega), hN, List.map_append, List.map_cons, List.map_take, List.map_drop, hqm]
    have HS := Lib.hid (And.intro hmp0 (And.intro hqb hql))
    rw [hfp]
    clear hcb hix hf hmp0 hqb hql hqm hfp
    go_upto_region 7 with (first
      | (go_at_call 47; refine hix2.mono ?_; rintro e w2 ⟨rfl, hE⟩; replace H := H.calls hE; clear hE))
    clear hix2
    have hins : insAt b1 (ps.map (·.2)) = if idxF (fun b => decide (b1 < b.id)) (ps.map (·.2)) < 0 then (ps.map (·.2)).length else (idxF (fun b => decide (b1 < b.id)) (ps.map (·.2))).toNat := rfl
    rw [List.length_map] at hins
    rcases idxF_cases (fun b => decide (b1 < b.id)) (ps.map (·.2)) with hi | ⟨m, hi, hm⟩
    · have hN : insAt b1 (ps.map (·.2)) = ps.length := by rw [hins, hi]; simp
      have HN := Lib.hid hN
      rw [hi]
      clear hi hins hN
      go_upto_region 10 with (first
        | (refine L_loadrow rfl rfl H 4 rfl rfl Try.underlying45 rfl info45 rfl ?_; (try simp only [Act.put, List.setIfInBounds_toArray, List.set_cons_succ, List.set_cons_zero, List.getElem_toArray, List.getElem_cons_succ, List.getElem_cons_zero]))
        | (refine L_litE (e := 45) (cs := ?_) rfl rfl H ?_ ?_; rotate_left; (focus (intro _; first | (go_simp; done) | (go_simp; rfl))); all_goals skip; clear H; intro gl w H hE; clear hE)
        | (go_at_call 52; have H' := H.perm (List.perm_middle (l₁ := [_, _])).symm; simp only [List.cons_append, List.nil_append] at H'; clear H; refine (insert_any (p := ((A2, c2), ⟨b1, b2, b3, b4, b5, f⟩)) H' HS.out.2.2.symm (Nat.le_refl _) (by omega)).mono ?_; clear H'; rintro e w2 ⟨vi, rfl, H⟩))
      obtain ⟨gi, gic, hvi⟩ := own_form (H.get 0 rfl) (by omega)
      subst hvi
      have hlen : ps.length + 1 = (qs.take (ps.length) ++ ((A2, c2), ⟨b1, b2, b3, b4, b5, f⟩) :: qs.drop (ps.length)).length := by
        have := HS.out.2.2
        rw [List.length_append, List.length_cons, List.length_take, List.length_drop]
        omega
      have hcc : ps.length + 1 ≤ gic := by
        obtain ⟨_, c', he, hc⟩ := (RdS.own bvLen hlen (H.get 0 rfl)).len
        simp only [Value.slice.injEq] at he
        omega
      replace hlen := Lib.hid hlen
      have hmem : ∀ {W : World}, RdS (encInt .u8) 1 W (.slice A2 f.length c2) f → (bytesA by_).says W → ∀ q ∈ qs.take (ps.length) ++ ((A2, c2), ⟨b1, b2, b3, b4, b5, f⟩) :: qs.drop (ps.length), RdS (encInt .u8) 1 W q.wv q.2.wrap := fun {W} h1 h2 q hq => by
        rcases List.mem_append.1 hq with hq | hq
        · exact h2 _ (HS.out.2.1 q (List.mem_of_mem_take hq))
        · rcases List.mem_cons.1 hq with rfl | hq
          · exact h1
          · exact h2 _ (HS.out.2.1 q (List.mem_of_mem_drop hq))
      go_wp2_with (first
        | (go_at_call 44; refine (clipBs_any (some ⟨gi, 0, none⟩) (ps.length + 1) gic _ hcc (by omega)).mono ?_; rintro e w3 ⟨rfl, rfl⟩)
        | (refine L_store1 rfl rfl H 6 rfl rfl rfl rfl rfl (Nat.le_of_ble_eq_true rfl) Try.sizeOf22 ?_; clear H; intro w H; simp only [List.set_cons_zero, List.set_cons_succ, List.setIfInBounds_toArray, Act.eval, Array.getD_eq_getD_getElem?, List.getElem?_toArray, List.getElem?_cons_succ, List.getElem?_cons_zero, Option.getD_some] at H; (try simp only [Act.put, List.setIfInBounds_toArray, List.set_cons_succ, List.set_cons_zero, List.getElem_toArray, List.getElem_cons_succ, List.getElem_cons_zero]))
        | (refine L_loadrow rfl rfl H 6 rfl rfl Try.underlying24 rfl info24 rfl ?_; (try simp only [Act.put, List.setIfInBounds_toArray, List.set_cons_succ, List.set_cons_zero, List.getElem_toArray, List.getElem_cons_succ, List.getElem_cons_zero]))
        | (refine L_storerow rfl rfl H 4 rfl rfl rfl info24 rfl rfl (one7s _ _ _ _ _ _ _ _ _) ?_; clear H; intro w H; simp only [List.set_cons_zero, List.set_cons_succ, List.setIfInBounds_toArray, Act.eval, Array.getD_eq_getD_getElem?, List.getElem?_toArray, List.getElem?_cons_succ, List.getElem?_cons_zero, Option.getD_some] at H; (try simp only [Act.put, List.setIfInBounds_toArray, List.set_cons_succ, List.set_cons_zero, List.getElem_toArray, List.getElem_cons_succ, List.getElem_cons_zero])))
      (try simp only [Exit.inBlock, Exit.then])
      refine L_retrow rfl H 4 rfl rfl Try.underlying24 rfl info24 rfl rfl ?_
      have hrow := RdS.own bvLen (xs := qs.take (ps.length) ++ ((A2, c2), ⟨b1, b2, b3, b4, b5, f⟩) :: qs.drop (ps.length)) hlen.out (H.get 0 rfl)
      have hown := RdS.own (encInt_len .u8) rfl (H.get 2 rfl)
      have hby := H.get 3 (A := bytesA by_) rfl
      exact ⟨.slice (some ⟨gi, 0, none⟩) (ps.length + 1) (ps.length + 1), qs.take (ps.length) ++ ((A2, c2), ⟨b1, b2, b3, b4, b5, f⟩) :: qs.drop (ps.length), rfl, HS.out.1 _ HN.out, ⟨hrow.clip, hmem hown hby⟩, H.ext⟩
    · have hN : insAt b1 (ps.map (·.2)) = m := by rw [hins, hi, if_neg (by omega), Int.toNat_natCast]
      have hmp : m ≤ ps.length := by rw [List.length_map] at hm; omega
      clear hm
      have HN := Lib.hid hN
      rw [hi]
      clear hi hins hN
      go_upto_region 10 with (first
        | (refine L_loadrow rfl rfl H 4 rfl rfl Try.underlying45 rfl info45 rfl ?_; (try simp only [Act.put, List.setIfInBounds_toArray, List.set_cons_succ, List.set_cons_zero, List.getElem_toArray, List.getElem_cons_succ, List.getElem_cons_zero]))
        | (refine L_litE (e := 45) (cs := ?_) rfl rfl H ?_ ?_; rotate_left; (focus (intro _; first | (go_simp; done) | (go_simp; rfl))); all_goals skip; clear H; intro gl w H hE; clear hE)
        | (go_at_call 52; have H' := H.perm (List.perm_middle (l₁ := [_, _])).symm; simp only [List.cons_append, List.nil_append] at H'; clear H; refine (insert_any (p := ((A2, c2), ⟨b1, b2, b3, b4, b5, f⟩)) H' HS.out.2.2.symm hmp (by omega)).mono ?_; clear H'; rintro e w2 ⟨vi, rfl, H⟩))
      obtain ⟨gi, gic, hvi⟩ := own_form (H.get 0 rfl) (by omega)
      subst hvi
      have hlen : ps.length + 1 = (qs.take (m) ++ ((A2, c2), ⟨b1, b2, b3, b4, b5, f⟩) :: qs.drop (m)).length := by
        have := HS.out.2.2
        rw [List.length_append, List.length_cons, List.length_take, List.length_drop]
        omega
      have hcc : ps.length + 1 ≤ gic := by
        obtain ⟨_, c', he, hc⟩ := (RdS.own bvLen hlen (H.get 0 rfl)).len
        simp only [Value.slice.injEq] at he
        omega
      replace hlen := Lib.hid hlen
      have hmem : ∀ {W : World}, RdS (encInt .u8) 1 W (.slice A2 f.length c2) f → (bytesA by_).says W → ∀ q ∈ qs.take (m) ++ ((A2, c2), ⟨b1, b2, b3, b4, b5, f⟩) :: qs.drop (m), RdS (encInt .u8) 1 W q.wv q.2.wrap := fun {W} h1 h2 q hq => by
        rcases List.mem_append.1 hq with hq | hq
        · exact h2 _ (HS.out.2.1 q (List.mem_of_mem_take hq))
        · rcases List.mem_cons.1 hq with rfl | hq
          · exact h1
          · exact h2 _ (HS.out.2.1 q (List.mem_of_mem_drop hq))
      go_wp2_with (first
        | (go_at_call 44; refine (clipBs_any (some ⟨gi, 0, none⟩) (ps.length + 1) gic _ hcc (by omega)).mono ?_; rintro e w3 ⟨rfl, rfl⟩)
        | (refine L_store1 rfl rfl H 6 rfl rfl rfl rfl rfl (Nat.le_of_ble_eq_true rfl) Try.sizeOf22 ?_; clear H; intro w H; simp only [List.set_cons_zero, List.set_cons_succ, List.setIfInBounds_toArray, Act.eval, Array.getD_eq_getD_getElem?, List.getElem?_toArray, List.getElem?_cons_succ, List.getElem?_cons_zero, Option.getD_some] at H; (try simp only [Act.put, List.setIfInBounds_toArray, List.set_cons_succ, List.set_cons_zero, List.getElem_toArray, List.getElem_cons_succ, List.getElem_cons_zero]))
        | (refine L_loadrow rfl rfl H 6 rfl rfl Try.underlying24 rfl info24 rfl ?_; (try simp only [Act.put, List.setIfInBounds_toArray, List.set_cons_succ, List.set_cons_zero, List.getElem_toArray, List.getElem_cons_succ, List.getElem_cons_zero]))
        | (refine L_storerow rfl rfl H 4 rfl rfl rfl info24 rfl rfl (one7s _ _ _ _ _ _ _ _ _) ?_; clear H; intro w H; simp only [List.set_cons_zero, List.set_cons_succ, List.setIfInBounds_toArray, Act.eval, Array.getD_eq_getD_getElem?, List.getElem?_toArray, List.getElem?_cons_succ, List.getElem?_cons_zero, Option.getD_some] at H; (try simp only [Act.put, List.setIfInBounds_toArray, List.set_cons_succ, List.set_cons_zero, List.getElem_toArray, List.getElem_cons_succ, List.getElem_cons_zero])))
      (try simp only [Exit.inBlock, Exit.then])
      refine L_retrow rfl H 4 rfl rfl Try.underlying24 rfl info24 rfl rfl ?_
      have hrow := RdS.own bvLen (xs := qs.take (m) ++ ((A2, c2), ⟨b1, b2, b3, b4, b5, f⟩) :: qs.drop (m)) hlen.out (H.get 0 rfl)
      have hown := RdS.own (encInt_len .u8) rfl (H.get 2 rfl)
      have hby := H.get 3 (A := bytesA by_) rfl
      exact ⟨.slice (some ⟨gi, 0, none⟩) (ps.length + 1) (ps.length + 1), qs.take (m) ++ ((A2, c2), ⟨b1, b2, b3, b4, b5, f⟩) :: qs.drop (m), rfl, HS.out.1 _ HN.out, ⟨hrow.clip, hmem hown hby⟩, H.ext⟩
end Go.Proofs.Ytoaieodcdbbndaa
