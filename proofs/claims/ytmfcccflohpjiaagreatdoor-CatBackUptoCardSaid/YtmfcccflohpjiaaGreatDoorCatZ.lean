/- Catalogues: With, of any entries. -/
import Derived.Test.YtmfcccflohpjiaaGreatDoorCatW
import Derived.Test.YtmfcccflohpjiaaGreatDoorCatY
import Derived.Test.YtmfcccflohpjiaaGreatDoorCatK
import Derived.Test.YtmfcccflohpjiaaGreatDoorCatR
namespace Go.Proofs.YtmfcccflohpjiaaGreatDoor
set_option linter.unusedVariables false
set_option linter.unusedSimpArgs false
open Go.RowKit

theorem isNaN_any (s : ByteArray) (w : World) : Calls Tryz.prog 58 #[.string s] w fun e w' => e = .returned (.bool false) ∧ Ext0 w w' := by
  have H : SH (fun _ => False) w w [] := SH.nil _ _
  go_enter Tryz.func58, Tryz.ntmps58
  go_wp2
  go_ret
  exact ⟨by simp, Ext.refl _ _⟩
def cmpI (a b : ByteArray) : Int := if Op.bytesLess a.toList b.toList then -1 else if a.toList == b.toList then 0 else 1
theorem bl_irrefl (x : List UInt8) : Op.bytesLess x x = false := by
  cases h : Op.bytesLess x x
  · rfl
  · exact (bl_asymm h h).elim
theorem bl_total {x y : List UInt8} (h : Op.bytesLess x y = false) (hn : x ≠ y) : Op.bytesLess y x = true := by
  rw [bl_iff]
  have h1 : ¬ x < y := fun hl => by rw [(bl_iff _ _).2 hl] at h; cases h
  exact Decidable.byContradiction (fun h2 => hn (List.le_antisymm (List.not_lt.1 h2) (List.not_lt.1 h1)))
theorem cmpI_pos (a b : ByteArray) : decide (0 < cmpI a b) = Op.bytesLess b.toList a.toList := by
  unfold cmpI
  cases h : Op.bytesLess a.toList b.toList
  · by_cases h2 : a.toList = b.toList
    · rw [h2]
      simp [bl_irrefl]
    · rw [bl_total h h2]
      simp [h2]
  · cases h2 : Op.bytesLess b.toList a.toList
    · rfl
    · exact (bl_asymm h h2).elim
set_option maxRecDepth 100000 in
set_option maxHeartbeats 1000000 in
theorem compareS_any (a b : ByteArray) (w : World) : Calls Tryz.prog 47 #[.string a, .string b] w fun e w' => e = .returned (.int .i64 (cmpI a b)) ∧ Ext0 w w' := by
  have H : SH (fun _ => False) w w [] := SH.nil _ _
  have hc := Lib.hid (show cmpI a b = if Op.bytesLess a.toList b.toList then -1 else if a.toList == b.toList then 0 else 1 from rfl)
  generalize cmpI a b = r at hc ⊢
  go_enter Tryz.func47, Tryz.ntmps47
  go_upto_if 16 with (first
    | (go_at_call 58; refine (isNaN_any _ _).mono ?_; rintro e w' ⟨rfl, hE⟩; replace H := H.calls hE; clear hE))
  cases h : Op.bytesLess a.toList b.toList
  · rw [h] at hc
    go_upto_if 19 with fail
    cases h2 : a.toList == b.toList
    · rw [h2] at hc
      go_wp2
      go_ret
      exact ⟨by rw [hc.out]; rfl, H.ext⟩
    · rw [h2] at hc
      go_wp2
      go_ret
      exact ⟨by rw [hc.out]; rfl, H.ext⟩
  · rw [h] at hc
    go_wp2
    go_ret
    exact ⟨by rw [hc.out]; rfl, H.ext⟩
/-- An entry with a greater path. -/
def gtP (s : ByteArray) (y : Ent) : Bool := Op.bytesLess s.toList y.path.toList
theorem with_closure (s : ByteArray) (xs : List Ent) (B : Nat) (w : World) (hB : w.cell? ⟨B, 0, none⟩ = some (.string s)) : FnGivesE 46 #[.pointer (some ⟨B, 0, none⟩)] (gtP s) xs w := fun W y hy hE => by
  have hc := hE.cell hB (fun e => e)
  obtain ⟨p, mode, time, block, at_, size⟩ := y
  have hg := Lib.hid (cmpI_pos p s)
  have hcmp := fun {W : World} => compareS_any p s W
  simp only [entV, gtP]
  generalize cmpI p s = r at hg hcmp
  have H : SH (fun _ => False) W W [] := SH.nil _ _
  show Calls Tryz.prog 46 #[.agg #[.string p, .int .i64 mode, .int .i64 time, .int .i64 block, .int .i64 at_, .int .i64 size], .pointer (some ⟨B, 0, none⟩)] W _
  go_enter Tryz.func46, Tryz.ntmps46
  go_wp2_with (first
    | (refine L_load1 rfl rfl H 0 rfl rfl rfl Tryz.isAgg9 ?_; (try simp only [Act.put, List.setIfInBounds_toArray, List.set_cons_succ, List.set_cons_zero, List.getElem_toArray, List.getElem_cons_succ, List.getElem_cons_zero])) | (refine L_box rfl rfl H rfl rfl ?_; clear H; intro g w H; (try simp only [Act.eval, Array.getD_eq_getD_getElem?, List.getElem?_toArray, List.getElem?_cons_succ, List.getElem?_cons_zero, Option.getD_some, Value.cells] at H); (try simp only [Act.put, List.setIfInBounds_toArray, List.set_cons_succ, List.set_cons_zero, List.getElem_toArray, List.getElem_cons_succ, List.getElem_cons_zero]))
    | (refine L_loadC rfl rfl rfl (H.ext.cell hc (fun e => e)) Tryz.isAgg9 ?_; (try simp only [Act.put, List.setIfInBounds_toArray, List.set_cons_succ, List.set_cons_zero, List.getElem_toArray, List.getElem_cons_succ, List.getElem_cons_zero]))
    | (go_at_call 47; refine hcmp.mono ?_; rintro e w' ⟨rfl, hE⟩; replace H := H.calls hE; clear hE))
  go_ret
  exact ⟨by rw [← hg.out]; simp, H.ext⟩
/-- The place of an entry that is put in. -/
def insAtE (s : ByteArray) (xs : List Ent) : Nat := if idxE (gtP s) xs < 0 then xs.length else (idxE (gtP s) xs).toNat
def withE (xs : List Ent) (x : Ent) : List Ent := if findE x.path xs < 0 then xs.take (insAtE x.path xs) ++ x :: xs.drop (insAtE x.path xs) else xs.set (findE x.path xs).toNat x
theorem set_cells (C : List Value) (qs : List Ent) (n k : Nat) (hn : n = qs.length) (hC : C.take (n * 6) = cellsOf eCells qs) (hl : n * 6 ≤ C.length) (hk : k < n) (p : Ent) :
    (spl C (k * 6) (eCells p)).take (n * 6) = cellsOf eCells (qs.set k p) := by
  have hk2 : k < qs.length := by omega
  have h1 : C = cellsOf eCells (qs.take k) ++ (eCells qs[k] ++ (cellsOf eCells (qs.drop (k + 1)) ++ C.drop (n * 6))) := by
    have h2 : C = cellsOf eCells qs ++ C.drop (n * 6) := by rw [← hC, List.take_append_drop]
    have h3 : cellsOf eCells qs = cellsOf eCells (qs.take k) ++ (eCells qs[k] ++ cellsOf eCells (qs.drop (k + 1))) := by
      have : qs = qs.take k ++ qs[k] :: qs.drop (k + 1) := by rw [← List.drop_eq_getElem_cons hk2, List.take_append_drop]
      conv => lhs; rw [this]
      rw [cellsOf_append]
      rfl
    conv => lhs; rw [h2, h3]
    simp only [List.append_assoc]
  have hlk : (cellsOf eCells (qs.take k)).length = k * 6 := by rw [length_cellsOf eLen, List.length_take]; omega
  have h4 : (spl C (k * 6) (eCells p)) = cellsOf eCells (qs.take k) ++ (eCells p ++ (cellsOf eCells (qs.drop (k + 1)) ++ C.drop (n * 6))) := by
    conv => lhs; rw [h1]
    exact spl_at _ _ _ _ (by rw [eLen, eLen]) _ hlk.symm
  rw [h4, List.set_eq_take_append_cons_drop, if_pos hk2, cellsOf_append]
  show _ = cellsOf eCells (qs.take k) ++ (eCells p ++ cellsOf eCells (qs.drop (k + 1)))
  have hl2 : (cellsOf eCells (qs.take k) ++ (eCells p ++ cellsOf eCells (qs.drop (k + 1)))).length = n * 6 := by
    rw [List.length_append, List.length_append, hlk, eLen, length_cellsOf eLen, List.length_drop]
    omega
  rw [← List.append_assoc (eCells p), ← List.append_assoc (cellsOf eCells (qs.take k)), List.take_left' hl2]
set_option maxRecDepth 100000 in
set_option maxHeartbeats 4000000 in
/-- With, of any entries. -/
theorem withE_any (v : Value) (xs : List Ent) (x : Ent) (w : World) (hr : RdS eCells 6 w v xs) (hn : xs.length ≤ 1000) :
    Calls Tryz.prog 18 #[v, entV x] w (GivesE w (withE xs x)) := by
  have eg : ∀ args w, (callFunc 46 args).run Tryz.prog w = .ok (.enter 46 args) w := enters_of Tryz.func46 (by kernel_rfl) rfl
  have hcl := fun {W : World} (h : Ext0 w W) => cloneE_any v xs W (hr.keep h) (by omega)
  have hfind := fun {W : World} (hE : Ext0 w W) => find_any v xs x.path W (hr.keep hE) (by omega)
  have hix := fun {W : World} {B : Nat} (hE : Ext0 w W) (hB : W.cell? ⟨B, 0, none⟩ = some (.string x.path)) => indexFuncE_any 46 #[.pointer (some ⟨B, 0, none⟩)] (gtP x.path) eg v xs W (hr.keep hE) (by omega) (with_closure x.path xs B W hB)
  obtain ⟨A, cap, rfl, hcap⟩ := hr.len
  obtain ⟨p, mode, time, block, at_, size⟩ := x
  simp only [entV] at hfind hix ⊢
  have H : SH (fun _ => False) w w [] := SH.nil _ _
  clear hr
  go_enter Tryz.func18, Tryz.ntmps18
  go_upto_region 3 with (first
    | (refine L_box rfl rfl H rfl rfl ?_; clear H; intro g w H; (try simp only [Act.eval, Array.getD_eq_getD_getElem?, List.getElem?_toArray, List.getElem?_cons_succ, List.getElem?_cons_zero, Option.getD_some, Value.cells] at H); (try simp only [Act.put, List.setIfInBounds_toArray, List.set_cons_succ, List.set_cons_zero, List.getElem_toArray, List.getElem_cons_succ, List.getElem_cons_zero]))
    | (refine L_load1 rfl rfl H 1 rfl rfl rfl Tryz.isAgg9 ?_; (try simp only [Act.put, List.setIfInBounds_toArray, List.set_cons_succ, List.set_cons_zero, List.getElem_toArray, List.getElem_cons_succ, List.getElem_cons_zero]))
    | (go_at_call 45; refine (hcl H.ext).mono ?_; rintro e w2 ⟨v6, rfl, ho, hE⟩; replace H := H.addOwn hE ho; clear ho hE)
    | (go_at_call 16; refine (hfind H.ext).mono ?_; rintro e w2 ⟨rfl, hE⟩; replace H := H.calls hE; clear hE))
  clear hfind hcl
  rcases idxE_cases (eqP p) xs with hf | ⟨k, hf, hk⟩
  case inr =>
    have hfp : findE p xs = (k : Int) := hf
    clear hix hf
    have hmp : withE xs ⟨p, mode, time, block, at_, size⟩ = xs.set k ⟨p, mode, time, block, at_, size⟩ := by
      unfold withE
      simp only
      rw [hfp, if_neg (by omega), Int.toNat_natCast]
    rw [hfp]
    have HMP := Lib.hid hmp
    obtain ⟨gl, cl, rfl⟩ := own_form (H.get 0 rfl) (by omega)
    obtain ⟨cur, H3, hcc, hcm, hcs, hrow0⟩ := H.unOwn
    clear H
    have hset := set_cells cur.toList xs xs.length k rfl hrow0 (by have h9 : cur.toList.length = cur.size := Array.length_toList; omega) hk ⟨p, mode, time, block, at_, size⟩
    have hsz : (spl cur.toList (k * 6) (eCells ⟨p, mode, time, block, at_, size⟩)).toArray.size = cl * 6 := by
      simp only [spl, List.size_toArray, List.length_append, List.length_take, List.length_drop, Array.length_toList, eLen]
      omega
    have hthere := fun {W : World} (h : W.heap[gl]? = some (.cells cur 39 (0, 0))) => setCells_row (w := W) h (k * 6) (eCells ⟨p, mode, time, block, at_, size⟩) (by rw [eLen]; omega) (eOne _)
    obtain ⟨cur2, hcur2⟩ : ∃ cur2, (spl cur.toList (k * 6) (eCells ⟨p, mode, time, block, at_, size⟩)).toArray = cur2 := ⟨_, rfl⟩
    rw [hcur2] at hsz hthere
    rw [show spl cur.toList (k * 6) (eCells ⟨p, mode, time, block, at_, size⟩) = cur2.toList by rw [← hcur2]] at hset
    have hki : (k : Int) < (xs.length : Int) := by omega
    have hkf : k * 6 + 6 ≤ cur.size := by omega
    have HS := Lib.hid (And.intro hset hsz)
    clear hset hsz hmp hcur2 hrow0 hfp
    go_upto_region 5 with (first
      | (refine L_loadrow rfl rfl H3 1 rfl rfl Tryz.underlying39 rfl info39 rfl ?_; (try simp only [Act.put, List.setIfInBounds_toArray, List.set_cons_succ, List.set_cons_zero, List.getElem_toArray, List.getElem_cons_succ, List.getElem_cons_zero]))
      | (refine wpList_store_mid rfl 39 _ _ rfl gl (k * 6) #[.string p, .int .i64 mode, .int .i64 time, .int .i64 block, .int .i64 at_, .int .i64 size] rfl rfl (H3.there 0 rfl (k * 6) 6 hkf) info39 (by simp [Value.oneCell']) ?_; have hrw := hthere (H3.at_ 0 rfl); have H4 := H3.setRow (cs := cur2) 0 rfl; simp only [List.set_cons_zero] at H4; change wpList _ _ _ _ _ (World.setCells _ gl (k * 6) (eCells ⟨p, mode, time, block, at_, size⟩)); rw [hrw]; clear H3 hthere hrw; generalize World.setRow _ gl cur2 = wB at *))
    have H := H4.toOwn 0 rfl 6 xs.length cl hcc hcm HS.out.2 _ HS.out.1
    simp only [List.set_cons_zero] at H
    clear H4
    go_wp2_with (first
      | (go_at_call 40; refine (clipE_any _ (xs.set k ⟨p, mode, time, block, at_, size⟩) _ (RdS.own eLen (by rw [List.length_set]) (H.get 0 rfl))).mono ?_; rintro e w4 ⟨v9, rfl, hrd, hE⟩))
    go_ret
    exact ⟨_, rfl, by rw [HMP.out]; exact hrd, H.ext.trans0 hE⟩
  case inl =>
    have hfp : findE p xs = -1 := hf
    have hmp : withE xs ⟨p, mode, time, block, at_, size⟩ = xs.take (insAtE p xs) ++ ⟨p, mode, time, block, at_, size⟩ :: xs.drop (insAtE p xs) := by
      unfold withE
      simp only
      rw [hfp, if_pos (by omega)]
    rw [hfp]
    have HMP := Lib.hid hmp
    have hcb := cell_of_row _ g 0 _ _ _ (H.at_ 1 rfl)
    have hix2 := hix (B := g) H.ext hcb
    clear hcb hix hf hmp hfp
    have hins : insAtE p xs = if idxE (gtP p) xs < 0 then xs.length else (idxE (gtP p) xs).toNat := rfl
    go_upto_region 7 with (first
      | (go_at_call 43; refine hix2.mono ?_; rintro e w2 ⟨rfl, hE⟩; replace H := H.calls hE; clear hE))
    clear hix2
    rcases idxE_cases (gtP p) xs with hi | ⟨m, hi, hm⟩
    · have hN : insAtE p xs = xs.length := by rw [hins, hi]; simp
      have HN := Lib.hid hN
      rw [hi]
      clear hi hins hN
      go_wp2_with (first | (refine L_loadrow rfl rfl H 1 rfl rfl Tryz.underlying39 rfl info39 rfl ?_; (try simp only [Act.put, List.setIfInBounds_toArray, List.set_cons_succ, List.set_cons_zero, List.getElem_toArray, List.getElem_cons_succ, List.getElem_cons_zero])) | (refine L_litE (e := 39) (cs := ?_) rfl rfl H ?_ ?_; rotate_left; (focus (intro _; first | (go_simp; done) | (go_simp; rfl))); all_goals skip; clear H; intro gl w H hE; clear hE) | (go_at_call 48; have H' := H.perm (List.Perm.swap _ _ _); clear H; refine (insert_any (p := ⟨p, mode, time, block, at_, size⟩) H' rfl (Nat.le_refl _) (by omega)).mono ?_; clear H'; rintro e w2 ⟨vi, rfl, H⟩) | (go_at_call 40; refine (clipE_any _ _ _ (RdS.own eLen (xs := xs.take xs.length ++ ⟨p, mode, time, block, at_, size⟩ :: xs.drop xs.length) (by rw [List.length_append, List.length_cons, List.length_take, List.length_drop]; omega) (H.get 0 rfl))).mono ?_; rintro e w4 ⟨v9, rfl, hrd, hE⟩))
      go_ret
      exact ⟨_, rfl, by rw [HMP.out, HN.out]; exact hrd, H.ext.trans0 hE⟩
    · have hN : insAtE p xs = m := by rw [hins, hi, if_neg (by omega), Int.toNat_natCast]
      have hml : m ≤ xs.length := by omega
      have HN := Lib.hid hN
      rw [hi]
      clear hi hins hN hm
      go_wp2_with (first | (refine L_loadrow rfl rfl H 1 rfl rfl Tryz.underlying39 rfl info39 rfl ?_; (try simp only [Act.put, List.setIfInBounds_toArray, List.set_cons_succ, List.set_cons_zero, List.getElem_toArray, List.getElem_cons_succ, List.getElem_cons_zero])) | (refine L_litE (e := 39) (cs := ?_) rfl rfl H ?_ ?_; rotate_left; (focus (intro _; first | (go_simp; done) | (go_simp; rfl))); all_goals skip; clear H; intro gl w H hE; clear hE) | (go_at_call 48; have H' := H.perm (List.Perm.swap _ _ _); clear H; refine (insert_any (p := ⟨p, mode, time, block, at_, size⟩) H' rfl hml (by omega)).mono ?_; clear H'; rintro e w2 ⟨vi, rfl, H⟩) | (go_at_call 40; refine (clipE_any _ _ _ (RdS.own eLen (xs := xs.take m ++ ⟨p, mode, time, block, at_, size⟩ :: xs.drop m) (by rw [List.length_append, List.length_cons, List.length_take, List.length_drop]; omega) (H.get 0 rfl))).mono ?_; rintro e w4 ⟨v9, rfl, hrd, hE⟩))
      go_ret
      exact ⟨_, rfl, by rw [HMP.out, HN.out]; exact hrd, H.ext.trans0 hE⟩
end Go.Proofs.YtmfcccflohpjiaaGreatDoor
