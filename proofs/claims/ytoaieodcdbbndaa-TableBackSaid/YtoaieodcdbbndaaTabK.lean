/- Tables: Clone, copied. -/
import Derived.Test.YtoaieodcdbbndaaTabJ
namespace Go.Proofs.Ytoaieodcdbbndaa
set_option linter.unusedVariables false
set_option linter.unusedSimpArgs false
open Go.RowKit

theorem own_set {w : World} {base g n cap n' j k : Nat} {T : TypeId} {xs : List Value} (u : Value) (h : w.ownsRow base T k (.slice (some ⟨g, 0, none⟩) n cap) n' xs) (hj : j < n' * k) : (w.setCell ⟨g, j, none⟩ u).ownsRow base T k (.slice (some ⟨g, 0, none⟩) n cap) n' (xs.set j u) := by
  obtain ⟨hl, ⟨h0, _⟩ | ⟨g', cap', cur, he, hb, hg, h1, h2, h3, h4⟩⟩ := h
  · cases h0
  · cases he
    refine ⟨by simpa using hl, .inr ⟨g, cap, _, rfl, hb, heap_setCell_same w g j cur T u hg, h1, h2, by simpa using h3, ?_⟩⟩
    rw [← h4]
    apply List.ext_getElem?
    intro i
    rw [Array.toList_setIfInBounds, List.getElem?_take, List.getElem?_set, List.getElem?_set, List.getElem?_take]
    by_cases hij : j = i
    · subst hij
      have hjc : j < cur.size := by rw [h3]; exact Nat.lt_of_lt_of_le hj (Nat.mul_le_mul_right k h1)
      simp [hj, hjc]
      try omega
    · simp [hij]

def GivesOwn {α : Type} (T : TypeId) (k : Nat) (enc : α → List Value) (w : World) (xs : List α) (e : Ending) (w' : World) : Prop := ∃ v, e = .returned v ∧ w'.ownsRow w.heap.size T k v xs.length (cellsOf enc xs) ∧ Ext0 w w'
set_option maxRecDepth 100000 in
set_option maxHeartbeats 1000000 in
theorem cloneB_any (v : Value) (xs : List Int) (w : World) (hr : RdS (encInt .u8) 1 w v xs) (hn : xs.length ≤ 140737488355000) : Calls Try.prog 50 #[v] w (GivesOwn 5 1 (encInt .u8) w xs) := by
  obtain ⟨A, cap, rfl, hcap⟩ := hr.len
  have H : SH (fun _ => False) w w [] := SH.nil _ _
  cases A with
  | none =>
    have hx : xs = [] := by
      obtain ⟨A', c, he, hc, h | ⟨b, off, cs, T, fr, h, _⟩⟩ := hr
      · exact h
      · cases he; cases h
    subst hx
    clear hr hcap
    have he := fun w => Lib.run_eql_slice_nil (P := Try.prog) w 34 5 none 0 cap 0 0 Try.underlying34
    go_enter Try.func50, Try.ntmps50
    go_wp2
    go_ret
    exact ⟨_, rfl, World.ownsRow_nil _ _ _ _, Ext.refl _ _⟩
  | some ad =>
    have hb1 : (0 + xs.length) * 1 ≤ 140737488355328 := by omega
    have hb2 : 0 + xs.length ≤ maxLen := by simp only [maxLen]; omega
    have he := fun w => Lib.run_eql_slice_nil (P := Try.prog) w 34 5 (some ad) xs.length cap 0 0 Try.underlying34
    go_enter Try.func50, Try.ntmps50
    go_wp2_with (first
      | (refine L_lit (e := 5) (cs := #[]) rfl rfl H (by intro _; first | (go_simp; done) | (go_simp; rfl)) ?_; clear H; intro g2 w H; replace H := H.toOwn 0 rfl 1 0 0 (Nat.le_refl _) (Nat.zero_le _) rfl [] rfl; simp only [List.set_cons_zero] at H)
      | (refine L_append (encInt_len .u8) (encInt_one .u8) rfl rfl Try.underlying34 info5 rfl (by decide) H 0 rfl rfl rfl (hr.keep H.ext) hb1 hb2 ?_; clear H; intro v2 w H hnn; clear hnn; simp only [List.set_cons_zero, List.nil_append, Nat.zero_add] at H))
    go_ret
    exact ⟨_, rfl, H.retOwn 0 rfl (fun _ _ h => h), H.ext⟩
set_option maxRecDepth 100000 in
set_option maxHeartbeats 1000000 in
theorem cloneBs_any (v : Value) (ps : List BV) (w : World) (hr : RdS bvCells 6 w v ps) (hn : ps.length ≤ 1000000) : Calls Try.prog 62 #[v] w (GivesOwn 45 6 bvCells w ps) := by
  obtain ⟨A, cap, rfl, hcap⟩ := hr.len
  have H : SH (fun _ => False) w w [] := SH.nil _ _
  cases A with
  | none =>
    have hx : ps = [] := by
      obtain ⟨A', c, he, hc, h | ⟨b, off, cs, T, fr, h, _⟩⟩ := hr
      · exact h
      · cases he; cases h
    subst hx
    clear hr hcap
    have he := fun w => Lib.run_eql_slice_nil (P := Try.prog) w 22 45 none 0 cap 0 0 Try.underlying22
    go_enter Try.func62, Try.ntmps62
    go_wp2
    go_ret
    exact ⟨_, rfl, World.ownsRow_nil _ _ _ _, Ext.refl _ _⟩
  | some ad =>
    have hb1 : (0 + ps.length) * 64 ≤ 140737488355328 := by omega
    have hb2 : 0 + ps.length ≤ maxLen := by simp only [maxLen]; omega
    have he := fun w => Lib.run_eql_slice_nil (P := Try.prog) w 22 45 (some ad) ps.length cap 0 0 Try.underlying22
    go_enter Try.func62, Try.ntmps62
    go_wp2_with (first
      | (refine L_lit (e := 45) (cs := #[]) rfl rfl H (by intro _; first | (go_simp; done) | (go_simp; rfl)) ?_; clear H; intro g2 w H; replace H := H.toOwn 0 rfl 6 0 0 (Nat.le_refl _) (Nat.zero_le _) rfl [] rfl; simp only [List.set_cons_zero] at H)
      | (refine L_append bvLen bvOne rfl rfl Try.underlying22 infoBZ rfl (by decide) H 0 rfl rfl rfl (hr.keep H.ext) hb1 hb2 ?_; clear H; intro v2 w H hnn; clear hnn; simp only [List.set_cons_zero, List.nil_append, Nat.zero_add] at H))
    go_ret
    exact ⟨_, rfl, H.retOwn 0 rfl (fun _ _ h => h), H.ext⟩
theorem SH.mergeB {M : Nat → Prop} {w0 w : World} {v : Value} {T : TypeId} {n : Nat} {xs : List Int} {L1 : List Asr} {bv : List (Value × List Int)} (H : SH M w0 w (ownA T 1 v n (cellsOf (encInt .u8) xs) :: (L1 ++ [bytesA bv]))) (hn : n = xs.length) : SH M w0 w (L1 ++ [bytesA ((v, xs) :: bv)]) := by
  have hown := RdS.own (encInt_len .u8) hn (H.get 0 rfl)
  have hbv : (bytesA bv).says w := H.says _ (by simp)
  refine SH.merge H (bytesA ((v, xs) :: bv)) (fun p hp => ?_) (fun i hi => ?_)
  · rcases List.mem_cons.1 hp with rfl | hp
    · exact hown
    · exact hbv p hp
  · obtain ⟨p, hp, off, n, c, he⟩ := hi
    rcases List.mem_cons.1 hp with rfl | hp
    · left
      show Value.ownBlock _ = some i
      simp only at he
      rw [he]; rfl
    · exact .inr ⟨p, hp, off, n, c, he⟩

theorem ownCellK {w : World} {base g n cap j k : Nat} {T : TypeId} {xs : List Value} (h : w.ownsRow base T k (.slice (some ⟨g, 0, none⟩) n cap) n xs) (hj : j < n * k) : w.cell? ⟨g, j, none⟩ = xs[j]? ∧ w.frozen? ⟨g, j, none⟩ = false := by
  refine ⟨World.ownsRow.cellAt h j hj, ?_⟩
  obtain ⟨_, ⟨h0, _⟩ | ⟨g', cap', cur, he, _, hg, _⟩⟩ := h
  · cases h0
  · cases he
    exact frozen_of_row w g j cur T hg
theorem cells_at (qs : List BV) (p : BV) (rest : List BV) (i : Nat) (hi : i < 6) : (cellsOf bvCells (qs ++ p :: rest))[qs.length * 6 + i]? = (bvCells p)[i]? := by
  rw [cellsOf_append, List.getElem?_append_right (by rw [length_cellsOf bvLen]; omega), length_cellsOf bvLen, Nat.add_sub_cancel_left]
  show (bvCells p ++ cellsOf bvCells rest)[i]? = _
  rw [List.getElem?_append_left (by rw [bvLen]; exact hi)]
theorem cells_setWrap (qs : List BV) (p : BV) (rest : List BV) (A : Option Addr) (c : Nat) : (cellsOf bvCells (qs ++ p :: rest)).set (qs.length * 6 + 5) (.slice A p.2.wrap.length c) = cellsOf bvCells (qs ++ ((A, c), p.2) :: rest) := by
  rw [cellsOf_append, List.set_append_right _ _ (by rw [length_cellsOf bvLen]; omega), length_cellsOf bvLen, Nat.add_sub_cancel_left, cellsOf_append]
  rfl
def GivesCopied (w : World) (ps : List BV) (e : Ending) (w' : World) : Prop :=
  ∃ v qs by_, e = .returned v ∧ SH (fun _ => False) w w' [ownA 45 6 v ps.length (cellsOf bvCells qs), bytesA by_] ∧ qs.map (·.2) = ps.map (·.2) ∧ ∀ q ∈ qs, (q.wv, q.2.wrap) ∈ by_
def CopRel (w : World) (ps : List BV) (v : Value) (vi : Value) (wr : World) : Prop :=
  ∃ (i : Nat) (qs : List BV) (by_ : List (Value × List Int)), vi = .int .i64 (i : Int) ∧ i ≤ ps.length ∧ qs.length = i ∧ qs.map (·.2) = (ps.take i).map (·.2) ∧ (∀ q ∈ qs, (q.wv, q.2.wrap) ∈ by_) ∧
    SH (fun _ => False) w wr [ownA 45 6 v ps.length (cellsOf bvCells (qs ++ ps.drop i)), bytesA by_]
set_option maxRecDepth 100000 in
set_option maxHeartbeats 2000000 in
theorem copied_any (v : Value) (ps : List BV) (w : World) (hr : BsR w v ps) (hn : ps.length ≤ 1000000) (hw : ∀ p ∈ ps, p.2.wrap.length ≤ 140737488355000) : Calls Try.prog 49 #[v] w (GivesCopied w ps) := by
  have HR := Lib.hid hr
  have hcl := cloneBs_any v ps w hr.row hn
  clear hr
  go_enter Try.func49, Try.ntmps49
  go_upto_region 2 with (go_at_call 62; refine hcl.mono ?_; rintro e w1 ⟨v1, rfl, ho, hE⟩)
  obtain ⟨A, c, rfl⟩ := own_slice ho
  have H0 := ((SH.nil (fun _ => False) w).addOwn hE ho).addEmpty (bytesA []) (fun p hp => by cases hp) (fun i ⟨p, hp, _⟩ => by cases hp)
  simp only [List.cons_append, List.nil_append] at H0
  clear ho hE hcl
  go_wp2_with fail
  go_loopw [9] (fun vi wr => CopRel w ps (.slice A ps.length c) vi wr) (fun vi _ => ps.length - (intOf vi).toNat)
  case atStart => exact ⟨0, [], [], rfl, Nat.zero_le _, rfl, rfl, by simp, H0⟩
  case round =>
    clear H0
    obtain ⟨i, qs, by_, rfl, hi, hql, hqm, hqb, H⟩ := hrel
    by_cases hin : i < ps.length
    · have hii : (i : Int) < (ps.length : Int) := by omega
      obtain ⟨p, hp⟩ : ∃ p, ps[i] = p := ⟨_, rfl⟩
      have hdrop : ps.drop i = p :: ps.drop (i + 1) := by rw [List.drop_eq_getElem_cons hin, hp]
      rw [hdrop] at H
      have hpm : p ∈ ps := by rw [← hp]; exact List.getElem_mem _
      have hwr := (HR.out.wrap p hpm).keep H.ext
      have hwl := hw p hpm
      obtain ⟨g, c', hv⟩ := own_form (H.get 0 rfl) (by omega)
      simp only [Value.slice.injEq] at hv
      obtain ⟨rfl, hz, rfl⟩ := hv
      clear hz
      have hj5 : i * 6 + 5 < ps.length * 6 := by omega
      have hcf : ∀ W : World, W.ownsRow 0 45 6 (.slice (some ⟨g, 0, none⟩) ps.length c) ps.length (cellsOf bvCells (qs ++ p :: ps.drop (i + 1))) → W.cell? ⟨g, i * 6 + 5, none⟩ = some (.slice p.1.1 p.2.wrap.length p.1.2) ∧ W.frozen? ⟨g, i * 6 + 5, none⟩ = false := fun W h => by
        have hcell := ownCellK h hj5
        have h5 := cells_at qs p (ps.drop (i + 1)) 5 (by omega)
        rw [hql] at h5
        rw [h5] at hcell
        exact hcell
      have hc5 := (hcf _ (H.get 0 rfl)).1
      have HCF := Lib.hid hcf
      clear hcf
      have hset := fun A c => cells_setWrap qs p (ps.drop (i + 1)) A c
      rw [hql] at hset
      have htk : (ps.take (i + 1)).map (·.2) = (ps.take i).map (·.2) ++ [p.2] := by rw [List.take_add_one, List.getElem?_eq_getElem hin, hp]; simp
      have HS := Lib.hid (And.intro hset (And.intro hqm (And.intro hqb (And.intro hql htk))))
      have hclb := fun {W : World} (h : RdS (encInt .u8) 1 W p.wv p.2.wrap) => cloneB_any p.wv p.2.wrap W h hwl
      clear hset hqm hqb hql htk hp hdrop hpm
      simp only [BV.wv] at hclb hwr
      go_wp2_with (first
        | (go_at_call 50; refine (hclb hwr).mono ?_; rintro e w2 ⟨v2, rfl, ho2, hE2⟩; obtain ⟨A2, c2, rfl⟩ := own_slice ho2; replace H := H.addOwn hE2 ho2; have hst := HCF.out _ (H.get 1 rfl); have hc6 := hst.1; have hfz := hst.2; clear hst hE2 ho2 hc5))
      have H3 := H.upd 1 rfl (A' := ownA 45 6 (.slice (some ⟨g, 0, none⟩) ps.length c) ps.length (cellsOf bvCells (qs ++ ((A2, c2), p.2) :: ps.drop (i + 1)))) ((Ext.setCell w2 ⟨g, i * 6 + 5, none⟩ (.slice A2 p.2.wrap.length c2)).mono (fun j _ hj => by cases hj; rfl)) (by
        have := own_set (.slice A2 p.2.wrap.length c2) (H.get 1 rfl) hj5
        rw [HS.out.1] at this
        exact this) (fun j hj => ⟨.inl hj, by
        have hj' : some g = some j := hj
        cases hj'
        have := (H.get 1 rfl : w2.ownsRow _ _ _ _ _ _).lt g rfl
        simpa using this.2⟩)
      simp only [List.set_cons_succ, List.set_cons_zero] at H3
      have H4 := SH.mergeB (L1 := [_]) H3 rfl
      simp only [List.cons_append, List.nil_append] at H4
      go_roundw
      case rel =>
        refine ⟨i + 1, qs ++ [((A2, c2), p.2)], _, by go_num, by omega, by simp [HS.out.2.2.2.1], ?_, ?_, by rw [List.append_assoc]; exact H4⟩
        · rw [List.map_append, HS.out.2.1, HS.out.2.2.2.2]; rfl
        · intro q hq
          rcases List.mem_append.1 hq with hq | hq
          · exact List.mem_cons_of_mem _ (HS.out.2.2.1 q hq)
          · rw [List.mem_singleton.1 hq]
            exact List.mem_cons_self
      case measure => simp [intOf]; omega
    · obtain rfl : i = ps.length := by omega
      have hjn2 : ¬ ((ps.length : Int) < (ps.length : Int)) := by omega
      rw [List.drop_length, List.append_nil] at H
      rw [List.take_length] at hqm
      have HQ := Lib.hid (And.intro hqm hqb)
      clear hqm hqb hql
      go_wp2_with fail
      go_ret
      exact ⟨_, qs, by_, rfl, H, HQ.out.1, HQ.out.2⟩
end Go.Proofs.Ytoaieodcdbbndaa
