/- Catalogues: CatChanges and CatBack walked. -/
import Derived.Test.YtmfcccflohpjiaaGreatDoorCtF
namespace Go.Proofs.YtmfcccflohpjiaaGreatDoor
set_option linter.unusedVariables false
set_option linter.unusedSimpArgs false
open Go.RowKit

set_option maxRecDepth 100000 in
set_option maxHeartbeats 4000000 in
theorem changes_walk (v : Value) (xs : List Ent) (x : Ent) (s : ByteArray) (w0 : World) (hr : RdS eCells 6 w0 v xs) (hm : Pth.ML w0) : Calls Tryz.prog 5 #[v, entV x, .string s] w0 fun e w' => e = .returned (.bool true) ∧ Ext0 w0 w' := by
  have hfew := fun {W : World} (h : Ext0 w0 W) => fewE_any v xs W (hr.keep h)
  have hl : (xs.take 40).length ≤ 40 := by rw [List.length_take]; omega
  generalize xs.take 40 = l at hfew hl
  have hfind := fun {W : World} {u : Value} (h : RdS eCells 6 W u l) => find_any u l s W h (by omega)
  have hrfind := fun {W : World} {u : Value} (h : RdS eCells 6 W u l) => refFindC_any u l s W h (by omega)
  have hwith := fun {W : World} {u : Value} (h : RdS eCells 6 W u l) => withE_any u l x W h (by omega)
  have hrwith := fun {W : World} {u : Value} (h : RdS eCells 6 W u l) => refWithC_any u l x W h (by omega)
  have hout := fun {W : World} {u : Value} (h : RdS eCells 6 W u l) => without_any u l s W h (by omega)
  have hrout := fun {W : World} {u : Value} (h : RdS eCells 6 W u l) => refWithoutC_any u l s W h (by omega)
  have hwl := withE_len l x
  have hol := outE_len s l
  generalize withE l x = lw at hwith hrwith hwl
  generalize outE s l = lo at hout hrout hol
  generalize findE s l = q at hfind hrfind
  obtain ⟨p, mode, time, block, at_, size⟩ := x
  simp only [entV] at hwith hrwith ⊢
  have HM := Lib.hid hm
  clear hr hm
  have H : SH (fun _ => False) w0 w0 [] := SH.nil _ _
  go_enter Tryz.func5, Tryz.ntmps5
  go_upto_region 2 with (first
    | (refine L_box rfl rfl H rfl rfl ?_; clear H; intro g w H; (try simp only [Act.eval, Array.getD_eq_getD_getElem?, List.getElem?_toArray, List.getElem?_cons_succ, List.getElem?_cons_zero, Option.getD_some, Value.cells] at H); (try simp only [Act.put, List.setIfInBounds_toArray, List.set_cons_succ, List.set_cons_zero, List.getElem_toArray, List.getElem_cons_succ, List.getElem_cons_zero]))
    | (go_at_call 8; refine (hfew H.ext).mono ?_; rintro e w9 ⟨⟨vf, rfl, hf⟩, hw9⟩; replace hw9 := hw9.symm; subst hw9))
  have hgx := oneEnt ⟨p, mode, time, block, at_, size⟩ (H.at_ 0 rfl)
  have hE0 := H.ext
  clear H hfew
  have H := SH.nil (fun _ => False) w
  refine D_start H (by kernel_rfl) (fun hS => ?_)
  try simp only [Act.put, List.setIfInBounds_toArray, List.set_cons_succ, List.set_cons_zero]
  refine D_one 0 rfl (by kernel_rfl) (by rfl) ?_
  refine R_call (f := 10) (args := #[]) (by first | (go_simp; done) | (go_simp; rfl)) (awakeC_any _ (HM.out.ext (hE0.trans0 hS.ext))) ?_
  rintro e w ⟨rfl, hE⟩
  have hS2 := hS.calls hE; clear hS; have hS := hS2; clear hS2 hE; refine ⟨_, rfl, hS, ?_⟩
  try simp only [Act.put, List.getElem_toArray, List.getElem_cons_succ, List.getElem_cons_zero, List.setIfInBounds_toArray, List.set_cons_succ, List.set_cons_zero]
  refine D_take 1 (v := ?_) rfl (by kernel_rfl) (by kernel_rfl) (by kernel_rfl) (fun _ _ _ h => h) rfl (by rfl) (fun W hS => ?_) hS ?_
  rotate_left; (focus (first | (go_simp; done) | (go_simp; with_reducible rfl) | (go_simp; rfl))); all_goals skip; (try simp only [List.set_cons_succ, List.set_cons_zero])
  refine D_take 2 (v := ?_) rfl (by kernel_rfl) (by kernel_rfl) (by kernel_rfl) (fun _ _ _ h => h) rfl (by rfl) (fun W hS => ?_) hS ?_
  rotate_left; (focus (first | (go_simp; done) | (go_simp; with_reducible rfl) | (go_simp; rfl))); all_goals skip; (try simp only [List.set_cons_succ, List.set_cons_zero])
  refine D_take 3 (v := ?_) rfl (by kernel_rfl) (by kernel_rfl) (by kernel_rfl) (fun _ _ _ h => h) rfl (by rfl) (fun W hS => ?_) hS ?_
  rotate_left; (focus (first | (go_simp; done) | (go_simp; with_reducible rfl) | (go_simp; rfl))); all_goals skip; (try simp only [List.set_cons_succ, List.set_cons_zero])
  refine D_take 5 (v := ?_) rfl (by kernel_rfl) (by kernel_rfl) (by kernel_rfl) (fun _ _ _ h => h) rfl (by rfl) (fun W hS => ?_) hS ?_
  rotate_left; (focus (first | (go_simp; done) | (go_simp; with_reducible rfl) | (go_simp; rfl))); all_goals skip; (try simp only [List.set_cons_succ, List.set_cons_zero])
  refine D_take 6 (v := ?_) rfl (by kernel_rfl) (by kernel_rfl) (by kernel_rfl) (fun _ _ _ h => h) rfl (by rfl) (fun W hS => ?_) hS ?_
  rotate_left; (focus (first | (go_simp; done) | (go_simp; with_reducible rfl) | (go_simp; rfl))); all_goals skip; (try simp only [List.set_cons_succ, List.set_cons_zero])
  refine D_one 4 rfl (by kernel_rfl) (by rfl) ?_
  refine R_call (f := 16) (args := #[vf, .string s]) (by first | (go_simp; done) | (go_simp; rfl)) (hfind (hf.keep hS.ext)) ?_
  rintro e w ⟨rfl, hE⟩
  have hS2 := hS.calls hE; clear hS; have hS := hS2; clear hS2 hE; refine ⟨_, rfl, hS, ?_⟩
  try simp only [Act.put, List.getElem_toArray, List.getElem_cons_succ, List.getElem_cons_zero, List.setIfInBounds_toArray, List.set_cons_succ, List.set_cons_zero]
  refine D_one 7 rfl (by kernel_rfl) (by rfl) ?_
  refine R_call (f := 17) (args := #[vf, .string s]) (by first | (go_simp; done) | (go_simp; rfl)) (hrfind (hf.keep hS.ext)) ?_
  rintro e w ⟨rfl, hE⟩
  have hS2 := hS.calls hE; clear hS; have hS := hS2; clear hS2 hE; refine ⟨_, rfl, hS, ?_⟩
  try simp only [Act.put, List.getElem_toArray, List.getElem_cons_succ, List.getElem_cons_zero, List.setIfInBounds_toArray, List.set_cons_succ, List.set_cons_zero]
  refine D_take 8 (v := ?_) rfl (by kernel_rfl) (by kernel_rfl) (by kernel_rfl) (fun _ _ _ h => h) rfl (by rfl) (fun W hS => ?_) hS ?_
  rotate_left; (focus (first | (go_simp; done) | (go_simp; with_reducible rfl) | (go_simp; rfl))); all_goals skip; (try simp only [List.set_cons_succ, List.set_cons_zero])
  refine D_take 9 (v := ?_) rfl (by kernel_rfl) (by kernel_rfl) (by kernel_rfl) (fun _ _ _ h => h) rfl (by rfl) (fun W hS => ?_) hS ?_
  rotate_left; (focus (first | (go_simp; done) | (go_simp; with_reducible rfl) | (go_simp; rfl))); all_goals skip; (try simp only [List.set_cons_succ, List.set_cons_zero])
  refine D_take 10 (v := ?_) rfl (by kernel_rfl) (by kernel_rfl) (by kernel_rfl) (fun _ _ _ h => h) rfl (by rfl) (fun W hS => ?_) hS ?_
  rotate_left; (focus (first | (go_simp; done) | (go_simp; with_reducible rfl) | (go_simp; rfl))); all_goals skip; (try simp only [List.set_cons_succ, List.set_cons_zero])
  refine D_take 11 (v := ?_) rfl (by kernel_rfl) (by kernel_rfl) (by kernel_rfl) (fun _ _ _ h => h) rfl (by rfl) (fun W hS => ?_) hS ?_
  rotate_left; (focus (first | (go_simp; done) | (go_simp; with_reducible rfl) | (go_simp; rfl))); all_goals skip; (try simp only [List.set_cons_succ, List.set_cons_zero])
  refine D_take 12 (v := (.agg #[.string p, .int .i64 mode, .int .i64 time, .int .i64 block, .int .i64 at_, .int .i64 size])) rfl (by kernel_rfl) (by kernel_rfl) (by kernel_rfl) (fun _ _ _ h => h) rfl (by rfl) (fun W hS => R_loadE (ty := 39) (x := .tmp 4) rfl (hgx.keep hS.ext) (j := 0) (by simp) rfl (s := ⟨p, mode, time, block, at_, size⟩) rfl Tryz.underlying39 rfl info39) hS ?_; (try simp only [List.set_cons_succ, List.set_cons_zero])
  refine D_take 14 (v := ?_) rfl (by kernel_rfl) (by kernel_rfl) (by kernel_rfl) (fun _ _ _ h => h) rfl (by rfl) (fun W hS => ?_) hS ?_
  rotate_left; (focus (first | (go_simp; done) | (go_simp; with_reducible rfl) | (go_simp; rfl))); all_goals skip; (try simp only [List.set_cons_succ, List.set_cons_zero])
  refine D_take 15 (v := (.agg #[.string p, .int .i64 mode, .int .i64 time, .int .i64 block, .int .i64 at_, .int .i64 size])) rfl (by kernel_rfl) (by kernel_rfl) (by kernel_rfl) (fun _ _ _ h => h) rfl (by rfl) (fun W hS => R_loadE (ty := 39) (x := .tmp 4) rfl (hgx.keep hS.ext) (j := 0) (by simp) rfl (s := ⟨p, mode, time, block, at_, size⟩) rfl Tryz.underlying39 rfl info39) hS ?_; (try simp only [List.set_cons_succ, List.set_cons_zero])
  refine D_one 13 rfl (by kernel_rfl) (by rfl) ?_
  refine R_call (f := 18) (args := #[vf, .agg #[.string p, .int .i64 mode, .int .i64 time, .int .i64 block, .int .i64 at_, .int .i64 size]]) (by first | (go_simp; done) | (go_simp; rfl)) (hwith (hf.keep hS.ext)) ?_
  rintro e w ⟨v1, rfl, h1, hE⟩
  have hS2 := hS.calls hE; clear hS; have hS := hS2; clear hS2 hE; refine ⟨_, rfl, hS, ?_⟩
  try simp only [Act.put, List.getElem_toArray, List.getElem_cons_succ, List.getElem_cons_zero, List.setIfInBounds_toArray, List.set_cons_succ, List.set_cons_zero]
  refine D_one 16 rfl (by kernel_rfl) (by rfl) ?_
  refine R_call (f := 19) (args := #[vf, .agg #[.string p, .int .i64 mode, .int .i64 time, .int .i64 block, .int .i64 at_, .int .i64 size]]) (by first | (go_simp; done) | (go_simp; rfl)) (hrwith (hf.keep hS.ext)) ?_
  rintro e w ⟨v2, rfl, h2, hE⟩
  replace h1 := h1.keep hE
  have hS2 := hS.calls hE; clear hS; have hS := hS2; clear hS2 hE; refine ⟨_, rfl, hS, ?_⟩
  try simp only [Act.put, List.getElem_toArray, List.getElem_cons_succ, List.getElem_cons_zero, List.setIfInBounds_toArray, List.set_cons_succ, List.set_cons_zero]
  refine D_one 17 rfl (by kernel_rfl) (by rfl) ?_
  refine R_call (f := 15) (args := #[v1, v2]) (by first | (go_simp; done) | (go_simp; rfl)) (same_self (by omega) h1 h2) ?_
  rintro e w ⟨rfl, hE⟩
  have hS2 := hS.calls hE; clear hS; have hS := hS2; clear hS2 hE; refine ⟨_, rfl, hS, ?_⟩
  try simp only [Act.put, List.getElem_toArray, List.getElem_cons_succ, List.getElem_cons_zero, List.setIfInBounds_toArray, List.set_cons_succ, List.set_cons_zero]
  refine D_take 18 (v := ?_) rfl (by kernel_rfl) (by kernel_rfl) (by kernel_rfl) (fun _ _ _ h => h) rfl (by rfl) (fun W hS => ?_) hS ?_
  rotate_left; (focus (first | (go_simp; done) | (go_simp; with_reducible rfl) | (go_simp; rfl))); all_goals skip; (try simp only [List.set_cons_succ, List.set_cons_zero])
  refine D_take 19 (v := ?_) rfl (by kernel_rfl) (by kernel_rfl) (by kernel_rfl) (fun _ _ _ h => h) rfl (by rfl) (fun W hS => ?_) hS ?_
  rotate_left; (focus (first | (go_simp; done) | (go_simp; with_reducible rfl) | (go_simp; rfl))); all_goals skip; (try simp only [List.set_cons_succ, List.set_cons_zero])
  refine D_take 20 (v := ?_) rfl (by kernel_rfl) (by kernel_rfl) (by kernel_rfl) (fun _ _ _ h => h) rfl (by rfl) (fun W hS => ?_) hS ?_
  rotate_left; (focus (first | (go_simp; done) | (go_simp; with_reducible rfl) | (go_simp; rfl))); all_goals skip; (try simp only [List.set_cons_succ, List.set_cons_zero])
  refine D_take 21 (v := ?_) rfl (by kernel_rfl) (by kernel_rfl) (by kernel_rfl) (fun _ _ _ h => h) rfl (by rfl) (fun W hS => ?_) hS ?_
  rotate_left; (focus (first | (go_simp; done) | (go_simp; with_reducible rfl) | (go_simp; rfl))); all_goals skip; (try simp only [List.set_cons_succ, List.set_cons_zero])
  refine D_take 23 (v := ?_) rfl (by kernel_rfl) (by kernel_rfl) (by kernel_rfl) (fun _ _ _ h => h) rfl (by rfl) (fun W hS => ?_) hS ?_
  rotate_left; (focus (first | (go_simp; done) | (go_simp; with_reducible rfl) | (go_simp; rfl))); all_goals skip; (try simp only [List.set_cons_succ, List.set_cons_zero])
  refine D_take 24 (v := ?_) rfl (by kernel_rfl) (by kernel_rfl) (by kernel_rfl) (fun _ _ _ h => h) rfl (by rfl) (fun W hS => ?_) hS ?_
  rotate_left; (focus (first | (go_simp; done) | (go_simp; with_reducible rfl) | (go_simp; rfl))); all_goals skip; (try simp only [List.set_cons_succ, List.set_cons_zero])
  refine D_one 22 rfl (by kernel_rfl) (by rfl) ?_
  refine R_call (f := 20) (args := #[vf, .string s]) (by first | (go_simp; done) | (go_simp; rfl)) (hout (hf.keep hS.ext)) ?_
  rintro e w ⟨v3, rfl, h3, hE⟩
  have hS2 := hS.calls hE; clear hS; have hS := hS2; clear hS2 hE; refine ⟨_, rfl, hS, ?_⟩
  try simp only [Act.put, List.getElem_toArray, List.getElem_cons_succ, List.getElem_cons_zero, List.setIfInBounds_toArray, List.set_cons_succ, List.set_cons_zero]
  refine D_one 25 rfl (by kernel_rfl) (by rfl) ?_
  refine R_call (f := 21) (args := #[vf, .string s]) (by first | (go_simp; done) | (go_simp; rfl)) (hrout (hf.keep hS.ext)) ?_
  rintro e w ⟨v4, rfl, h4, hE⟩
  replace h3 := h3.keep hE
  have hS2 := hS.calls hE; clear hS; have hS := hS2; clear hS2 hE; refine ⟨_, rfl, hS, ?_⟩
  try simp only [Act.put, List.getElem_toArray, List.getElem_cons_succ, List.getElem_cons_zero, List.setIfInBounds_toArray, List.set_cons_succ, List.set_cons_zero]
  refine D_one 26 rfl (by kernel_rfl) (by rfl) ?_
  refine R_call (f := 15) (args := #[v3, v4]) (by first | (go_simp; done) | (go_simp; rfl)) (same_self (by omega) h3 h4) ?_
  rintro e w ⟨rfl, hE⟩
  have hS2 := hS.calls hE; clear hS; have hS := hS2; clear hS2 hE; refine ⟨_, rfl, hS, ?_⟩
  try simp only [Act.put, List.getElem_toArray, List.getElem_cons_succ, List.getElem_cons_zero, List.setIfInBounds_toArray, List.set_cons_succ, List.set_cons_zero]
  refine D_take 27 (v := ?_) rfl (by kernel_rfl) (by kernel_rfl) (by kernel_rfl) (fun _ _ _ h => h) rfl (by rfl) (fun W hS => ?_) hS ?_
  rotate_left; (focus (first | (go_simp; done) | (go_simp; with_reducible rfl) | (go_simp; rfl))); all_goals skip; (try simp only [List.set_cons_succ, List.set_cons_zero])
  refine D_take 28 (v := ?_) rfl (by kernel_rfl) (by kernel_rfl) (by kernel_rfl) (fun _ _ _ h => h) rfl (by rfl) (fun W hS => ?_) hS ?_
  rotate_left; (focus (first | (go_simp; done) | (go_simp; with_reducible rfl) | (go_simp; rfl))); all_goals skip; (try simp only [List.set_cons_succ, List.set_cons_zero])
  refine wpAnyH_done (by kernel_rfl) ?_ _
  go_wp2_with fail
  go_ret
  exact ⟨by simp, hE0.trans0 hS.ext⟩
set_option maxRecDepth 100000 in
set_option maxHeartbeats 4000000 in
theorem back_walk (v : Value) (xs : List Ent) (x : Ent) (w0 : World) (hr : RdS eCells 6 w0 v xs) (hok : ∀ x ∈ xs, EntOk x) (hm : Pth.ML w0) : Calls Tryz.prog 6 #[v, entV x] w0 fun e w' => e = .returned (.bool true) ∧ Ext0 w0 w' := by
  have hfew := fun {W : World} (h : Ext0 w0 W) => fewE_any v xs W (hr.keep h)
  have hl : (xs.take 40).length ≤ 40 := by rw [List.length_take]; omega
  have hokl : ∀ x ∈ xs.take 40, EntOk x := fun x hx => hok x (List.mem_of_mem_take hx)
  generalize xs.take 40 = l at hfew hl hokl
  obtain ⟨q, hq, hgood, _⟩ := good_both l (by omega) (ok_path hokl)
  have HM := Lib.hid hm
  have H : SH (fun _ => False) w0 w0 [] := SH.nil _ _
  cases q
  · obtain ⟨p, mode, time, block, at_, size⟩ := x
    simp only [entV]
    clear hr hok hokl hm hq
    go_enter Tryz.func6, Tryz.ntmps6
    go_wp2_with (first
      | (refine L_box rfl rfl H rfl rfl ?_; clear H; intro g w H; (try simp only [Act.eval, Array.getD_eq_getD_getElem?, List.getElem?_toArray, List.getElem?_cons_succ, List.getElem?_cons_zero, Option.getD_some, Value.cells] at H); (try simp only [Act.put, List.setIfInBounds_toArray, List.set_cons_succ, List.set_cons_zero, List.getElem_toArray, List.getElem_cons_succ, List.getElem_cons_zero]))
      | (go_at_call 8; refine (hfew H.ext).mono ?_; rintro e w9 ⟨⟨vf, rfl, hf⟩, hw9⟩; replace hw9 := hw9.symm; subst hw9)
      | (go_at_call 11; refine (hgood _ _ (HM.out.ext H.ext) hf).mono ?_; rintro e w4 ⟨rfl, hE⟩; replace H := H.calls hE; clear hE hf)
      | (go_at_call 10; refine (awakeC_any _ (HM.out.ext H.ext)).mono ?_; rintro e w3 ⟨rfl, hE⟩; replace H := H.calls hE; clear hE))
    go_ret
    exact ⟨by simp, H.ext⟩
  · have hcg := hq.1 rfl
    have henc : ∀ {W : World} {u : Value}, Ext0 w0 W → RdS eCells 6 W u l → Calls Tryz.prog 7 #[u] W (EncK (encCat l) 0 W) := fun {W u} hE h => by
      refine (encode_any u l W h (by omega) (ok_path hokl) (HM.out.ext hE)).mono ?_
      rintro e w' ⟨⟨_, v2, rfl, h2⟩ | ⟨hb, _⟩, hE2⟩
      · exact ⟨v2, rfl, h2, hE2⟩
      · exact (hb hcg).elim
    have hdok := decOk_enc hcg hokl
    have hel : (encCat l).length ≤ 1000000 := by
      have h1 := encTake_len l (good_path hcg)
      unfold encCat
      rw [List.length_append, be8_len]
      omega
    have hebt := encCat_bytes l
    have hdec : ∀ {W : World} {u : Value}, Ext0 w0 W → RdS (encInt .u8) 1 W u (encCat l) → Calls Tryz.prog 13 #[u] W (DecK l 0 W) := fun {W u} hE h => by
      refine (decodeC_any u _ W h hebt hel (HM.out.ext hE)).mono ?_
      rintro e w' ⟨⟨es, v2, h1, rfl, h2⟩ | ⟨hb, _⟩, hE2⟩
      · exact ⟨v2, rfl, (h1.uniq hdok) ▸ h2, hE2⟩
      · exact (hb _ hdok).elim
    generalize encCat l = eb at henc hdec
    have hwith := fun {W : World} {u : Value} (h : RdS eCells 6 W u l) => withE_any u l x W h (by omega)
    have hwl := withE_len l x
    obtain ⟨k, hk, hfk, hxk⟩ := back_find l x
    have hfw := fun {W : World} {u : Value} (h : RdS eCells 6 W u (withE l x)) => find_any u _ x.path W h (by omega)
    rw [hfk] at hfw
    have how := fun {W : World} {u : Value} (h : RdS eCells 6 W u (withE l x)) => without_any u _ x.path W h (by omega)
    rw [back_out l x] at how
    have hol := fun {W : World} {u : Value} (h : RdS eCells 6 W u l) => without_any u l x.path W h (by omega)
    have hlo := outE_len x.path l
    have hfo := fun {W : World} {u : Value} (h : RdS eCells 6 W u (outE x.path l)) => find_any u _ x.path W h (by omega)
    rw [back_gone] at hfo
    have hfl := fun {W : World} {u : Value} (h : RdS eCells 6 W u l) => find_any u l x.path W h (by omega)
    have hlen := back_len l x
    have hxk2 : ∃ h : k < (withE l x).length, (withE l x)[k] = x := ⟨hk, hxk⟩
    generalize withE l x = lw at hwith hwl hfw how hlen hk hxk2
    generalize outE x.path l = lo at how hol hlo hfo
    generalize findE x.path l = fq at hfl hlen
    obtain ⟨_, hxk⟩ := hxk2
    obtain ⟨p, mode, time, block, at_, size⟩ := x
    simp only [entV] at hwith ⊢
    simp only at hfw how hol hfo hfl
    have HXK := Lib.hid hxk
    have HLEN := Lib.hid hlen
    clear hr hok hokl hm hq hcg hdok hel hebt hfk hxk hlen
    have hki : (k : Int) < (lw.length : Int) := by omega
    go_enter Tryz.func6, Tryz.ntmps6
    go_upto_region 1 with (first
      | (refine L_box rfl rfl H rfl rfl ?_; clear H; intro g w H; (try simp only [Act.eval, Array.getD_eq_getD_getElem?, List.getElem?_toArray, List.getElem?_cons_succ, List.getElem?_cons_zero, Option.getD_some, Value.cells] at H); (try simp only [Act.put, List.setIfInBounds_toArray, List.set_cons_succ, List.set_cons_zero, List.getElem_toArray, List.getElem_cons_succ, List.getElem_cons_zero])))
    have hgx := oneEnt ⟨p, mode, time, block, at_, size⟩ (H.at_ 0 rfl)
    have hE0 := H.ext
    have hcp : w.cell? ⟨g, 0, none⟩ = some (.string p) := cell_of_row _ g 0 _ _ _ (H.at_ 0 rfl)
    have hrow := H.at_ 0 rfl
    have hci6 : ∀ j', j' < 6 → (#[Value.string p, .int .i64 mode, .int .i64 time, .int .i64 block, .int .i64 at_, .int .i64 size] : Array Value)[0 + j']? = [Value.string p, .int .i64 mode, .int .i64 time, .int .i64 block, .int .i64 at_, .int .i64 size][j']? := fun j _ => by rw [Nat.zero_add]; simp
    clear H
    have H := SH.nil (fun _ => False) w
    go_upto_region 10 with (first
      | (go_at_call 8; refine (hfew (hE0.trans0 H.ext)).mono ?_; rintro e w9 ⟨⟨vf, rfl, hf⟩, hw9⟩; replace hw9 := hw9.symm; subst hw9)
      | (go_at_call 11; refine (hgood _ _ (HM.out.ext (hE0.trans0 H.ext)) hf).mono ?_; rintro e w4 ⟨rfl, hE⟩; replace H := H.calls hE; replace hf := hf.keep hE; clear hE)
      | (go_at_call 7; refine (henc (hE0.trans0 H.ext) hf).mono ?_; rintro e w4 ⟨v1, rfl, hv1, hE⟩; replace H := H.calls hE; replace hf := hf.keep hE; clear hE)
      | (go_at_call 13; refine (hdec (hE0.trans0 H.ext) hv1).mono ?_; rintro e w4 ⟨v2, rfl, hv2, hE⟩; replace H := H.calls hE; replace hf := hf.keep hE; clear hE)
      | (go_at_call 15; refine (same_self (by omega) hf hv2).mono ?_; rintro e w4 ⟨rfl, hE⟩; replace H := H.calls hE; replace hf := hf.keep hE; clear hE)
      | (refine L_loadmidr rfl rfl H rfl hrow (fun e => e) Tryz.underlying39 rfl info39 [Value.string p, .int .i64 mode, .int .i64 time, .int .i64 block, .int .i64 at_, .int .i64 size] rfl hci6 ?_; (try simp only [Act.put, List.setIfInBounds_toArray, List.set_cons_succ, List.set_cons_zero, List.getElem_toArray, List.getElem_cons_succ, List.getElem_cons_zero]))
      | (go_at_call 18; refine (hwith hf).mono ?_; rintro e w4 ⟨v10, rfl, h10, hE⟩; replace H := H.calls hE; replace hf := hf.keep hE; clear hE)
      | (refine L_loadC rfl rfl rfl (H.ext.cell hcp (fun e => e)) Tryz.isAgg9 ?_; (try simp only [Act.put, List.setIfInBounds_toArray, List.set_cons_succ, List.set_cons_zero, List.getElem_toArray, List.getElem_cons_succ, List.getElem_cons_zero]))
      | (go_at_call 16; refine (hfw h10).mono ?_; rintro e w4 ⟨rfl, hE⟩; replace H := H.calls hE; replace hf := hf.keep hE; replace h10 := h10.keep hE; clear hE))
    replace hE0 := hE0.trans0 H.ext
    replace hgx := hgx.keep H.ext
    replace hcp := H.ext.cell hcp (fun e => e)
    clear H hrow hci6 hfew hgood henc hdec hwith hfw hv1 hv2
    obtain ⟨A10, c10, rfl, hc10⟩ := h10.len
    obtain ⟨bl, ol, _, _, _, rfl, hz1, hz2⟩ := h10.cell hk
    clear hz1 hz2
    obtain ⟨Af, cf, rfl, _⟩ := hf.len
    have hkn : ¬ (lw.length : Int) ≤ (k : Int) := by omega
    have hkn2 : ¬ lw.length ≤ k := by omega
    have hk0 : ¬ (k : Int) < 0 := by omega
    have H := SH.nil (fun _ => False) w4
    refine D_start H (by kernel_rfl) (fun hS => ?_)
    try simp only [Act.put, List.setIfInBounds_toArray, List.set_cons_succ, List.set_cons_zero]
    refine D_take 0 (v := ?_) rfl (by kernel_rfl) (by kernel_rfl) (by kernel_rfl) (fun _ _ _ h => h) rfl (by rfl) (fun W hS => ?_) hS ?_
    rotate_left; (focus (first | (go_simp; done) | (go_simp; with_reducible rfl) | (go_simp; rfl))); all_goals skip; (try simp only [List.set_cons_succ, List.set_cons_zero])
    refine D_take 1 (v := (.bool false)) rfl (by kernel_rfl) (by kernel_rfl) (by kernel_rfl) (fun _ _ _ h => h) rfl (by rfl) (fun W hS => by first | (go_simp; done) | (go_simp; rfl)) hS ?_; (try simp only [List.set_cons_succ, List.set_cons_zero])
    refine D_take 2 (v := ?_) rfl (by kernel_rfl) (by kernel_rfl) (by kernel_rfl) (fun _ _ _ h => h) rfl (by rfl) (fun W hS => ?_) hS ?_
    rotate_left; (focus (first | (go_simp; done) | (go_simp; with_reducible rfl) | (go_simp; rfl))); all_goals skip; (try simp only [List.set_cons_succ, List.set_cons_zero])
    refine D_take 3 (v := ?_) rfl (by kernel_rfl) (by kernel_rfl) (by kernel_rfl) (fun _ _ _ h => h) rfl (by rfl) (fun W hS => ?_) hS ?_
    rotate_left; (focus (first | (go_simp; done) | (go_simp; with_reducible rfl) | (go_simp; rfl))); all_goals skip; (try simp only [List.set_cons_succ, List.set_cons_zero])
    refine D_take 4 (v := ?_) rfl (by kernel_rfl) (by kernel_rfl) (by kernel_rfl) (fun _ _ _ h => h) rfl (by rfl) (fun W hS => ?_) hS ?_
    rotate_left; (focus (first | (go_simp; done) | (go_simp; with_reducible rfl) | (go_simp; rfl))); all_goals skip; (try simp only [List.set_cons_succ, List.set_cons_zero])
    refine D_take 5 (v := ?_) rfl (by kernel_rfl) (by kernel_rfl) (by kernel_rfl) (fun _ _ _ h => h) rfl (by rfl) (fun W hS => ?_) hS ?_
    rotate_left; (focus (first | (go_simp; done) | (go_simp; with_reducible rfl) | (go_simp; rfl))); all_goals skip; (try simp only [List.set_cons_succ, List.set_cons_zero])
    refine D_take 6 (v := (.bool false)) rfl (by kernel_rfl) (by kernel_rfl) (by kernel_rfl) (fun _ _ _ h => h) rfl (by rfl) (fun W hS => by first | (go_simp; done) | (go_simp; rfl)) hS ?_; (try simp only [List.set_cons_succ, List.set_cons_zero])
    refine D_take 7 (v := ?_) rfl (by kernel_rfl) (by kernel_rfl) (by kernel_rfl) (fun _ _ _ h => h) rfl (by rfl) (fun W hS => ?_) hS ?_
    rotate_left; (focus (first | (go_simp; done) | (go_simp; with_reducible rfl) | (go_simp; rfl))); all_goals skip; (try simp only [List.set_cons_succ, List.set_cons_zero])
    refine D_take 8 (v := ?_) rfl (by kernel_rfl) (by kernel_rfl) (by kernel_rfl) (fun _ _ _ h => h) rfl (by rfl) (fun W hS => ?_) hS ?_
    rotate_left; (focus (first | (go_simp; done) | (go_simp; with_reducible rfl) | (go_simp; rfl))); all_goals skip; (try simp only [List.set_cons_succ, List.set_cons_zero])
    refine D_take 9 (v := ?_) rfl (by kernel_rfl) (by kernel_rfl) (by kernel_rfl) (fun _ _ _ h => h) rfl (by rfl) (fun W hS => ?_) hS ?_
    rotate_left; (focus (first | (go_simp; done) | (go_simp; with_reducible rfl) | (go_simp; rfl))); all_goals skip; (try simp only [List.set_cons_succ, List.set_cons_zero])
    refine D_take 10 (v := ?_) rfl (by kernel_rfl) (by kernel_rfl) (by kernel_rfl) (fun _ _ _ h => h) rfl (by rfl) (fun W hS => ?_) hS ?_
    rotate_left; (focus (first | (go_simp; done) | (go_simp; with_reducible rfl) | (go_simp; rfl))); all_goals skip; (try simp only [List.set_cons_succ, List.set_cons_zero])
    refine D_take 11 (v := ?_) rfl (by kernel_rfl) (by kernel_rfl) (by kernel_rfl) (fun _ _ _ h => h) rfl (by rfl) (fun W hS => ?_) hS ?_
    rotate_left; (focus (first | (go_simp; done) | (go_simp; with_reducible rfl) | (go_simp; rfl))); all_goals skip; (try simp only [List.set_cons_succ, List.set_cons_zero])
    refine D_take 12 (v := (.agg #[.string p, .int .i64 mode, .int .i64 time, .int .i64 block, .int .i64 at_, .int .i64 size])) rfl (by kernel_rfl) (by kernel_rfl) (by kernel_rfl) (fun _ _ _ h => h) rfl (by rfl) (fun W hS => R_loadE (ty := 39) (x := .tmp 58) rfl (h10.keep hS.ext) (j := k) hk rfl (s := ⟨p, mode, time, block, at_, size⟩) HXK.out Tryz.underlying39 rfl info39) hS ?_; (try simp only [List.set_cons_succ, List.set_cons_zero])
    refine D_take 13 (v := (.agg #[.string p, .int .i64 mode, .int .i64 time, .int .i64 block, .int .i64 at_, .int .i64 size])) rfl (by kernel_rfl) (by kernel_rfl) (by kernel_rfl) (fun _ _ _ h => h) rfl (by rfl) (fun W hS => R_loadE (ty := 39) (x := .tmp 3) rfl (hgx.keep hS.ext) (j := 0) (by simp) rfl (s := ⟨p, mode, time, block, at_, size⟩) rfl Tryz.underlying39 rfl info39) hS ?_; (try simp only [List.set_cons_succ, List.set_cons_zero])
    refine D_take 14 (v := ?_) rfl (by kernel_rfl) (by kernel_rfl) (by kernel_rfl) (fun _ _ _ h => h) rfl (by rfl) (fun W hS => ?_) hS ?_
    rotate_left; (focus (first | (go_simp; done) | (go_simp; with_reducible rfl) | (go_simp; rfl))); all_goals skip; (try simp only [List.set_cons_succ, List.set_cons_zero])
    refine D_take 15 (v := ?_) rfl (by kernel_rfl) (by kernel_rfl) (by kernel_rfl) (fun _ _ _ h => h) rfl (by rfl) (fun W hS => ?_) hS ?_
    rotate_left; (focus (first | (go_simp; done) | (go_simp; with_reducible rfl) | (go_simp; rfl))); all_goals skip; (try simp only [List.set_cons_succ, List.set_cons_zero])
    refine D_take 16 (v := ?_) rfl (by kernel_rfl) (by kernel_rfl) (by kernel_rfl) (fun _ _ _ h => h) rfl (by rfl) (fun W hS => ?_) hS ?_
    rotate_left; (focus (first | (go_simp; done) | (go_simp; with_reducible rfl) | (go_simp; rfl))); all_goals skip; (try simp only [List.set_cons_succ, List.set_cons_zero])
    refine D_take 17 (v := ?_) rfl (by kernel_rfl) (by kernel_rfl) (by kernel_rfl) (fun _ _ _ h => h) rfl (by rfl) (fun W hS => ?_) hS ?_
    rotate_left; (focus (first | (go_simp; done) | (go_simp; with_reducible rfl) | (go_simp; rfl))); all_goals skip; (try simp only [List.set_cons_succ, List.set_cons_zero])
    refine D_take 18 (v := ?_) rfl (by kernel_rfl) (by kernel_rfl) (by kernel_rfl) (fun _ _ _ h => h) rfl (by rfl) (fun W hS => ?_) hS ?_
    rotate_left; (focus (first | (go_simp; done) | (go_simp; with_reducible rfl) | (go_simp; rfl))); all_goals skip; (try simp only [List.set_cons_succ, List.set_cons_zero])
    refine D_take 19 (v := (.string p)) rfl (by kernel_rfl) (by kernel_rfl) (by kernel_rfl) (fun _ _ _ h => h) rfl (by rfl) (fun W hS => R_loadCell' (ty := 9) (x := .tmp 65) rfl rfl (hS.ext.cell hcp (fun e => e)) Tryz.isAgg9) hS ?_; (try simp only [List.set_cons_succ, List.set_cons_zero])
    refine D_take 21 (v := ?_) rfl (by kernel_rfl) (by kernel_rfl) (by kernel_rfl) (fun _ _ _ h => h) rfl (by rfl) (fun W hS => ?_) hS ?_
    rotate_left; (focus (first | (go_simp; done) | (go_simp; with_reducible rfl) | (go_simp; rfl))); all_goals skip; (try simp only [List.set_cons_succ, List.set_cons_zero])
    refine D_take 22 (v := (.string p)) rfl (by kernel_rfl) (by kernel_rfl) (by kernel_rfl) (fun _ _ _ h => h) rfl (by rfl) (fun W hS => R_loadCell' (ty := 9) (x := .tmp 68) rfl rfl (hS.ext.cell hcp (fun e => e)) Tryz.isAgg9) hS ?_; (try simp only [List.set_cons_succ, List.set_cons_zero])
    refine D_one 20 rfl (by kernel_rfl) (by rfl) ?_
    refine R_call (f := 20) (args := #[.slice (some ⟨bl, ol, none⟩) lw.length c10, .string p]) (by first | (go_simp; done) | (go_simp; rfl)) (how (h10.keep hS.ext)) ?_
    rintro e w ⟨v67, rfl, h67, hE⟩
    have hS2 := hS.calls hE; clear hS; have hS := hS2; clear hS2 hE; refine ⟨_, rfl, hS, ?_⟩
    try simp only [Act.put, List.getElem_toArray, List.getElem_cons_succ, List.getElem_cons_zero, List.setIfInBounds_toArray, List.set_cons_succ, List.set_cons_zero]
    refine D_one 23 rfl (by kernel_rfl) (by rfl) ?_
    refine R_call (f := 16) (args := #[v67, .string p]) (by first | (go_simp; done) | (go_simp; rfl)) (hfo h67) ?_
    rintro e w ⟨rfl, hE⟩
    have hS2 := hS.calls hE; clear hS; have hS := hS2; clear hS2 hE; refine ⟨_, rfl, hS, ?_⟩
    try simp only [Act.put, List.getElem_toArray, List.getElem_cons_succ, List.getElem_cons_zero, List.setIfInBounds_toArray, List.set_cons_succ, List.set_cons_zero]
    refine D_take 24 (v := ?_) rfl (by kernel_rfl) (by kernel_rfl) (by kernel_rfl) (fun _ _ _ h => h) rfl (by rfl) (fun W hS => ?_) hS ?_
    rotate_left; (focus (first | (go_simp; done) | (go_simp; with_reducible rfl) | (go_simp; rfl))); all_goals skip; (try simp only [List.set_cons_succ, List.set_cons_zero])
    refine D_take 25 (v := ?_) rfl (by kernel_rfl) (by kernel_rfl) (by kernel_rfl) (fun _ _ _ h => h) rfl (by rfl) (fun W hS => ?_) hS ?_
    rotate_left; (focus (first | (go_simp; done) | (go_simp; with_reducible rfl) | (go_simp; rfl))); all_goals skip; (try simp only [List.set_cons_succ, List.set_cons_zero])
    refine wpAnyH_done (by kernel_rfl) ?_ _
    replace hE0 := hE0.trans0 hS.ext
    replace hgx := hgx.keep hS.ext
    replace hcp := hS.ext.cell hcp (fun e => e)
    replace h10 := h10.keep hS.ext
    replace hf := hf.keep hS.ext
    clear H hS h67
    have H := SH.nil (fun _ => False) w
    go_upto_region 12 with fail
    rcases HLEN.out with ⟨hfq, hll⟩ | ⟨hfq, hll⟩
    · have hllb : ((lw.length : Int) == (l.length : Int)) = true := by simp [hll]
      have hfqb : decide (0 ≤ fq) = true := by simp [hfq]
      clear hll
      refine D_start H (by kernel_rfl) (fun hS => ?_)
      try simp only [Act.put, List.setIfInBounds_toArray, List.set_cons_succ, List.set_cons_zero]
      refine D_one 0 rfl (by kernel_rfl) (by rfl) ?_
      refine R_call (f := 10) (args := #[]) (by first | (go_simp; done) | (go_simp; rfl)) (awakeC_any _ (HM.out.ext (hE0.trans0 hS.ext))) ?_
      rintro e w ⟨rfl, hE⟩
      have hS2 := hS.calls hE; clear hS; have hS := hS2; clear hS2 hE; refine ⟨_, rfl, hS, ?_⟩
      try simp only [Act.put, List.getElem_toArray, List.getElem_cons_succ, List.getElem_cons_zero, List.setIfInBounds_toArray, List.set_cons_succ, List.set_cons_zero]
      refine D_take 1 (v := ?_) rfl (by kernel_rfl) (by kernel_rfl) (by kernel_rfl) (fun _ _ _ h => h) rfl (by rfl) (fun W hS => ?_) hS ?_
      rotate_left; (focus (first | (go_simp; done) | (go_simp; with_reducible rfl) | (go_simp; rfl))); all_goals skip; (try simp only [List.set_cons_succ, List.set_cons_zero])
      refine D_take 2 (v := ?_) rfl (by kernel_rfl) (by kernel_rfl) (by kernel_rfl) (fun _ _ _ h => h) rfl (by rfl) (fun W hS => ?_) hS ?_
      rotate_left; (focus (first | (go_simp; done) | (go_simp; with_reducible rfl) | (go_simp; rfl))); all_goals skip; (try simp only [List.set_cons_succ, List.set_cons_zero])
      refine D_take 3 (v := ?_) rfl (by kernel_rfl) (by kernel_rfl) (by kernel_rfl) (fun _ _ _ h => h) rfl (by rfl) (fun W hS => ?_) hS ?_
      rotate_left; (focus (first | (go_simp; done) | (go_simp; with_reducible rfl) | (go_simp; rfl))); all_goals skip; (try simp only [List.set_cons_succ, List.set_cons_zero])
      refine D_take 4 (v := (.string p)) rfl (by kernel_rfl) (by kernel_rfl) (by kernel_rfl) (fun _ _ _ h => h) rfl (by rfl) (fun W hS => R_loadCell' (ty := 9) (x := .tmp 76) rfl rfl (hS.ext.cell hcp (fun e => e)) Tryz.isAgg9) hS ?_; (try simp only [List.set_cons_succ, List.set_cons_zero])
      refine D_take 6 (v := ?_) rfl (by kernel_rfl) (by kernel_rfl) (by kernel_rfl) (fun _ _ _ h => h) rfl (by rfl) (fun W hS => ?_) hS ?_
      rotate_left; (focus (first | (go_simp; done) | (go_simp; with_reducible rfl) | (go_simp; rfl))); all_goals skip; (try simp only [List.set_cons_succ, List.set_cons_zero])
      refine D_take 7 (v := ?_) rfl (by kernel_rfl) (by kernel_rfl) (by kernel_rfl) (fun _ _ _ h => h) rfl (by rfl) (fun W hS => ?_) hS ?_
      rotate_left; (focus (first | (go_simp; done) | (go_simp; with_reducible rfl) | (go_simp; rfl))); all_goals skip; (try simp only [List.set_cons_succ, List.set_cons_zero])
      refine D_take 8 (v := (.string p)) rfl (by kernel_rfl) (by kernel_rfl) (by kernel_rfl) (fun _ _ _ h => h) rfl (by rfl) (fun W hS => R_loadCell' (ty := 9) (x := .tmp 80) rfl rfl (hS.ext.cell hcp (fun e => e)) Tryz.isAgg9) hS ?_; (try simp only [List.set_cons_succ, List.set_cons_zero])
      refine D_one 5 rfl (by kernel_rfl) (by rfl) ?_
      refine R_call (f := 20) (args := #[.slice (some ⟨bl, ol, none⟩) lw.length c10, .string p]) (by first | (go_simp; done) | (go_simp; rfl)) (how (h10.keep hS.ext)) ?_
      rintro e w ⟨v78, rfl, h78, hE⟩
      have hS2 := hS.calls hE; clear hS; have hS := hS2; clear hS2 hE; refine ⟨_, rfl, hS, ?_⟩
      try simp only [Act.put, List.getElem_toArray, List.getElem_cons_succ, List.getElem_cons_zero, List.setIfInBounds_toArray, List.set_cons_succ, List.set_cons_zero]
      refine D_one 9 rfl (by kernel_rfl) (by rfl) ?_
      refine R_call (f := 20) (args := #[.slice Af l.length cf, .string p]) (by first | (go_simp; done) | (go_simp; rfl)) (hol (hf.keep hS.ext)) ?_
      rintro e w ⟨v82, rfl, h82, hE⟩
      replace h78 := h78.keep hE
      have hS2 := hS.calls hE; clear hS; have hS := hS2; clear hS2 hE; refine ⟨_, rfl, hS, ?_⟩
      try simp only [Act.put, List.getElem_toArray, List.getElem_cons_succ, List.getElem_cons_zero, List.setIfInBounds_toArray, List.set_cons_succ, List.set_cons_zero]
      refine D_one 10 rfl (by kernel_rfl) (by rfl) ?_
      refine R_call (f := 15) (args := #[v78, v82]) (by first | (go_simp; done) | (go_simp; rfl)) (same_self (by omega) h78 h82) ?_
      rintro e w ⟨rfl, hE⟩
      have hS2 := hS.calls hE; clear hS; have hS := hS2; clear hS2 hE; refine ⟨_, rfl, hS, ?_⟩
      try simp only [Act.put, List.getElem_toArray, List.getElem_cons_succ, List.getElem_cons_zero, List.setIfInBounds_toArray, List.set_cons_succ, List.set_cons_zero]
      refine D_take 11 (v := ?_) rfl (by kernel_rfl) (by kernel_rfl) (by kernel_rfl) (fun _ _ _ h => h) rfl (by rfl) (fun W hS => ?_) hS ?_
      rotate_left; (focus (first | (go_simp; done) | (go_simp; with_reducible rfl) | (go_simp; rfl))); all_goals skip; (try simp only [List.set_cons_succ, List.set_cons_zero])
      refine D_take 12 (v := ?_) rfl (by kernel_rfl) (by kernel_rfl) (by kernel_rfl) (fun _ _ _ h => h) rfl (by rfl) (fun W hS => ?_) hS ?_
      rotate_left; (focus (first | (go_simp; done) | (go_simp; with_reducible rfl) | (go_simp; rfl))); all_goals skip; (try simp only [List.set_cons_succ, List.set_cons_zero])
      refine D_take 13 (v := ?_) rfl (by kernel_rfl) (by kernel_rfl) (by kernel_rfl) (fun _ _ _ h => h) rfl (by rfl) (fun W hS => ?_) hS ?_
      rotate_left; (focus (first | (go_simp; done) | (go_simp; with_reducible rfl) | (go_simp; rfl))); all_goals skip; (try simp only [List.set_cons_succ, List.set_cons_zero])
      refine D_take 14 (v := ?_) rfl (by kernel_rfl) (by kernel_rfl) (by kernel_rfl) (fun _ _ _ h => h) rfl (by rfl) (fun W hS => ?_) hS ?_
      rotate_left; (focus (first | (go_simp; done) | (go_simp; with_reducible rfl) | (go_simp; rfl))); all_goals skip; (try simp only [List.set_cons_succ, List.set_cons_zero])
      refine D_take 15 (v := (.string p)) rfl (by kernel_rfl) (by kernel_rfl) (by kernel_rfl) (fun _ _ _ h => h) rfl (by rfl) (fun W hS => R_loadCell' (ty := 9) (x := .tmp 87) rfl rfl (hS.ext.cell hcp (fun e => e)) Tryz.isAgg9) hS ?_; (try simp only [List.set_cons_succ, List.set_cons_zero])
      refine D_one 16 rfl (by kernel_rfl) (by rfl) ?_
      refine R_call (f := 16) (args := #[.slice Af l.length cf, .string p]) (by first | (go_simp; done) | (go_simp; rfl)) (hfl (hf.keep hS.ext)) ?_
      rintro e w ⟨rfl, hE⟩
      have hS2 := hS.calls hE; clear hS; have hS := hS2; clear hS2 hE; refine ⟨_, rfl, hS, ?_⟩
      try simp only [Act.put, List.getElem_toArray, List.getElem_cons_succ, List.getElem_cons_zero, List.setIfInBounds_toArray, List.set_cons_succ, List.set_cons_zero]
      refine D_take 17 (v := ?_) rfl (by kernel_rfl) (by kernel_rfl) (by kernel_rfl) (fun _ _ _ h => h) rfl (by rfl) (fun W hS => ?_) hS ?_
      rotate_left; (focus (first | (go_simp; done) | (go_simp; with_reducible rfl) | (go_simp; rfl))); all_goals skip; (try simp only [List.set_cons_succ, List.set_cons_zero])
      refine D_take 18 (v := ?_) rfl (by kernel_rfl) (by kernel_rfl) (by kernel_rfl) (fun _ _ _ h => h) rfl (by rfl) (fun W hS => ?_) hS ?_
      rotate_left; (focus (first | (go_simp; done) | (go_simp; with_reducible rfl) | (go_simp; rfl))); all_goals skip; (try simp only [List.set_cons_succ, List.set_cons_zero])
      refine D_take 19 (v := ?_) rfl (by kernel_rfl) (by kernel_rfl) (by kernel_rfl) (fun _ _ _ h => h) rfl (by rfl) (fun W hS => ?_) hS ?_
      rotate_left; (focus (first | (go_simp; done) | (go_simp; with_reducible rfl) | (go_simp; rfl))); all_goals skip; (try simp only [List.set_cons_succ, List.set_cons_zero])
      refine D_take 20 (v := ?_) rfl (by kernel_rfl) (by kernel_rfl) (by kernel_rfl) (fun _ _ _ h => h) rfl (by rfl) (fun W hS => ?_) hS ?_
      rotate_left; (focus (first | (go_simp; done) | (go_simp; with_reducible rfl) | (go_simp; rfl))); all_goals skip; (try simp only [List.set_cons_succ, List.set_cons_zero])
      refine D_take 21 (v := ?_) rfl (by kernel_rfl) (by kernel_rfl) (by kernel_rfl) (fun _ _ _ h => h) rfl (by rfl) (fun W hS => ?_) hS ?_
      rotate_left; (focus (first | (go_simp; done) | (go_simp; with_reducible rfl) | (go_simp; rfl))); all_goals skip; (try simp only [List.set_cons_succ, List.set_cons_zero])
      refine D_take 22 (v := ?_) rfl (by kernel_rfl) (by kernel_rfl) (by kernel_rfl) (fun _ _ _ h => h) rfl (by rfl) (fun W hS => ?_) hS ?_
      rotate_left; (focus (first | (go_simp; done) | (go_simp; with_reducible rfl) | (go_simp; rfl))); all_goals skip; (try simp only [List.set_cons_succ, List.set_cons_zero])
      refine D_take 23 (v := ?_) rfl (by kernel_rfl) (by kernel_rfl) (by kernel_rfl) (fun _ _ _ h => h) rfl (by rfl) (fun W hS => ?_) hS ?_
      rotate_left; (focus (first | (go_simp; done) | (go_simp; with_reducible rfl) | (go_simp; rfl))); all_goals skip; (try simp only [List.set_cons_succ, List.set_cons_zero])
      refine D_take 24 (v := ?_) rfl (by kernel_rfl) (by kernel_rfl) (by kernel_rfl) (fun _ _ _ h => h) rfl (by rfl) (fun W hS => ?_) hS ?_
      rotate_left; (focus (first | (go_simp; done) | (go_simp; with_reducible rfl) | (go_simp; rfl))); all_goals skip; (try simp only [List.set_cons_succ, List.set_cons_zero])
      refine D_take 25 (v := ?_) rfl (by kernel_rfl) (by kernel_rfl) (by kernel_rfl) (fun _ _ _ h => h) rfl (by rfl) (fun W hS => ?_) hS ?_
      rotate_left; (focus (first | (go_simp; done) | (go_simp; with_reducible rfl) | (go_simp; rfl))); all_goals skip; (try simp only [List.set_cons_succ, List.set_cons_zero])
      refine D_skip 26 rfl (by kernel_rfl) (by kernel_rfl) (by kernel_rfl) (fun _ _ _ h => h) rfl (by rfl) hS ?_; (try simp only [List.set_cons_succ, List.set_cons_zero])
      refine D_skip 27 rfl (by kernel_rfl) (by kernel_rfl) (by kernel_rfl) (fun _ _ _ h => h) rfl (by rfl) hS ?_; (try simp only [List.set_cons_succ, List.set_cons_zero])
      refine D_skip 28 rfl (by kernel_rfl) (by kernel_rfl) (by kernel_rfl) (fun _ _ _ h => h) rfl (by rfl) hS ?_; (try simp only [List.set_cons_succ, List.set_cons_zero])
      refine D_skip 29 rfl (by kernel_rfl) (by kernel_rfl) (by kernel_rfl) (fun _ _ _ h => h) rfl (by rfl) hS ?_; (try simp only [List.set_cons_succ, List.set_cons_zero])
      refine D_skip 30 rfl (by kernel_rfl) (by kernel_rfl) (by kernel_rfl) (fun _ _ _ h => h) rfl (by rfl) hS ?_; (try simp only [List.set_cons_succ, List.set_cons_zero])
      refine D_skip 31 rfl (by kernel_rfl) (by kernel_rfl) (by kernel_rfl) (fun _ _ _ h => h) rfl (by rfl) hS ?_; (try simp only [List.set_cons_succ, List.set_cons_zero])
      refine D_take 32 (v := ?_) rfl (by kernel_rfl) (by kernel_rfl) (by kernel_rfl) (fun _ _ _ h => h) rfl (by rfl) (fun W hS => ?_) hS ?_
      rotate_left; (focus (first | (go_simp; done) | (go_simp; with_reducible rfl) | (go_simp; rfl))); all_goals skip; (try simp only [List.set_cons_succ, List.set_cons_zero])
      refine D_take 33 (v := ?_) rfl (by kernel_rfl) (by kernel_rfl) (by kernel_rfl) (fun _ _ _ h => h) rfl (by rfl) (fun W hS => ?_) hS ?_
      rotate_left; (focus (first | (go_simp; done) | (go_simp; with_reducible rfl) | (go_simp; rfl))); all_goals skip; (try simp only [List.set_cons_succ, List.set_cons_zero])
      refine D_take 34 (v := ?_) rfl (by kernel_rfl) (by kernel_rfl) (by kernel_rfl) (fun _ _ _ h => h) rfl (by rfl) (fun W hS => ?_) hS ?_
      rotate_left; (focus (first | (go_simp; done) | (go_simp; with_reducible rfl) | (go_simp; rfl))); all_goals skip; (try simp only [List.set_cons_succ, List.set_cons_zero])
      refine wpAnyH_done (by kernel_rfl) ?_ _
      go_wp2_with fail
      go_ret
      exact ⟨by simp, hE0.trans0 hS.ext⟩
    · have hllb : ((lw.length : Int) == (l.length : Int) + 1) = true := by simp [hll]
      have hlw1 : IntKind.i64.wrap ((l.length : Int) + 1) = (l.length : Int) + 1 := by rw [IntKind.wrap_i64]; omega
      clear hll
      subst hfq
      refine D_start H (by kernel_rfl) (fun hS => ?_)
      try simp only [Act.put, List.setIfInBounds_toArray, List.set_cons_succ, List.set_cons_zero]
      refine D_one 0 rfl (by kernel_rfl) (by rfl) ?_
      refine R_call (f := 10) (args := #[]) (by first | (go_simp; done) | (go_simp; rfl)) (awakeC_any _ (HM.out.ext (hE0.trans0 hS.ext))) ?_
      rintro e w ⟨rfl, hE⟩
      have hS2 := hS.calls hE; clear hS; have hS := hS2; clear hS2 hE; refine ⟨_, rfl, hS, ?_⟩
      try simp only [Act.put, List.getElem_toArray, List.getElem_cons_succ, List.getElem_cons_zero, List.setIfInBounds_toArray, List.set_cons_succ, List.set_cons_zero]
      refine D_take 1 (v := ?_) rfl (by kernel_rfl) (by kernel_rfl) (by kernel_rfl) (fun _ _ _ h => h) rfl (by rfl) (fun W hS => ?_) hS ?_
      rotate_left; (focus (first | (go_simp; done) | (go_simp; with_reducible rfl) | (go_simp; rfl))); all_goals skip; (try simp only [List.set_cons_succ, List.set_cons_zero])
      refine D_take 2 (v := ?_) rfl (by kernel_rfl) (by kernel_rfl) (by kernel_rfl) (fun _ _ _ h => h) rfl (by rfl) (fun W hS => ?_) hS ?_
      rotate_left; (focus (first | (go_simp; done) | (go_simp; with_reducible rfl) | (go_simp; rfl))); all_goals skip; (try simp only [List.set_cons_succ, List.set_cons_zero])
      refine D_take 3 (v := ?_) rfl (by kernel_rfl) (by kernel_rfl) (by kernel_rfl) (fun _ _ _ h => h) rfl (by rfl) (fun W hS => ?_) hS ?_
      rotate_left; (focus (first | (go_simp; done) | (go_simp; with_reducible rfl) | (go_simp; rfl))); all_goals skip; (try simp only [List.set_cons_succ, List.set_cons_zero])
      refine D_take 4 (v := (.string p)) rfl (by kernel_rfl) (by kernel_rfl) (by kernel_rfl) (fun _ _ _ h => h) rfl (by rfl) (fun W hS => R_loadCell' (ty := 9) (x := .tmp 76) rfl rfl (hS.ext.cell hcp (fun e => e)) Tryz.isAgg9) hS ?_; (try simp only [List.set_cons_succ, List.set_cons_zero])
      refine D_take 6 (v := ?_) rfl (by kernel_rfl) (by kernel_rfl) (by kernel_rfl) (fun _ _ _ h => h) rfl (by rfl) (fun W hS => ?_) hS ?_
      rotate_left; (focus (first | (go_simp; done) | (go_simp; with_reducible rfl) | (go_simp; rfl))); all_goals skip; (try simp only [List.set_cons_succ, List.set_cons_zero])
      refine D_take 7 (v := ?_) rfl (by kernel_rfl) (by kernel_rfl) (by kernel_rfl) (fun _ _ _ h => h) rfl (by rfl) (fun W hS => ?_) hS ?_
      rotate_left; (focus (first | (go_simp; done) | (go_simp; with_reducible rfl) | (go_simp; rfl))); all_goals skip; (try simp only [List.set_cons_succ, List.set_cons_zero])
      refine D_take 8 (v := (.string p)) rfl (by kernel_rfl) (by kernel_rfl) (by kernel_rfl) (fun _ _ _ h => h) rfl (by rfl) (fun W hS => R_loadCell' (ty := 9) (x := .tmp 80) rfl rfl (hS.ext.cell hcp (fun e => e)) Tryz.isAgg9) hS ?_; (try simp only [List.set_cons_succ, List.set_cons_zero])
      refine D_one 5 rfl (by kernel_rfl) (by rfl) ?_
      refine R_call (f := 20) (args := #[.slice (some ⟨bl, ol, none⟩) lw.length c10, .string p]) (by first | (go_simp; done) | (go_simp; rfl)) (how (h10.keep hS.ext)) ?_
      rintro e w ⟨v78, rfl, h78, hE⟩
      have hS2 := hS.calls hE; clear hS; have hS := hS2; clear hS2 hE; refine ⟨_, rfl, hS, ?_⟩
      try simp only [Act.put, List.getElem_toArray, List.getElem_cons_succ, List.getElem_cons_zero, List.setIfInBounds_toArray, List.set_cons_succ, List.set_cons_zero]
      refine D_one 9 rfl (by kernel_rfl) (by rfl) ?_
      refine R_call (f := 20) (args := #[.slice Af l.length cf, .string p]) (by first | (go_simp; done) | (go_simp; rfl)) (hol (hf.keep hS.ext)) ?_
      rintro e w ⟨v82, rfl, h82, hE⟩
      replace h78 := h78.keep hE
      have hS2 := hS.calls hE; clear hS; have hS := hS2; clear hS2 hE; refine ⟨_, rfl, hS, ?_⟩
      try simp only [Act.put, List.getElem_toArray, List.getElem_cons_succ, List.getElem_cons_zero, List.setIfInBounds_toArray, List.set_cons_succ, List.set_cons_zero]
      refine D_one 10 rfl (by kernel_rfl) (by rfl) ?_
      refine R_call (f := 15) (args := #[v78, v82]) (by first | (go_simp; done) | (go_simp; rfl)) (same_self (by omega) h78 h82) ?_
      rintro e w ⟨rfl, hE⟩
      have hS2 := hS.calls hE; clear hS; have hS := hS2; clear hS2 hE; refine ⟨_, rfl, hS, ?_⟩
      try simp only [Act.put, List.getElem_toArray, List.getElem_cons_succ, List.getElem_cons_zero, List.setIfInBounds_toArray, List.set_cons_succ, List.set_cons_zero]
      refine D_take 11 (v := ?_) rfl (by kernel_rfl) (by kernel_rfl) (by kernel_rfl) (fun _ _ _ h => h) rfl (by rfl) (fun W hS => ?_) hS ?_
      rotate_left; (focus (first | (go_simp; done) | (go_simp; with_reducible rfl) | (go_simp; rfl))); all_goals skip; (try simp only [List.set_cons_succ, List.set_cons_zero])
      refine D_take 12 (v := ?_) rfl (by kernel_rfl) (by kernel_rfl) (by kernel_rfl) (fun _ _ _ h => h) rfl (by rfl) (fun W hS => ?_) hS ?_
      rotate_left; (focus (first | (go_simp; done) | (go_simp; with_reducible rfl) | (go_simp; rfl))); all_goals skip; (try simp only [List.set_cons_succ, List.set_cons_zero])
      refine D_take 13 (v := ?_) rfl (by kernel_rfl) (by kernel_rfl) (by kernel_rfl) (fun _ _ _ h => h) rfl (by rfl) (fun W hS => ?_) hS ?_
      rotate_left; (focus (first | (go_simp; done) | (go_simp; with_reducible rfl) | (go_simp; rfl))); all_goals skip; (try simp only [List.set_cons_succ, List.set_cons_zero])
      refine D_take 14 (v := ?_) rfl (by kernel_rfl) (by kernel_rfl) (by kernel_rfl) (fun _ _ _ h => h) rfl (by rfl) (fun W hS => ?_) hS ?_
      rotate_left; (focus (first | (go_simp; done) | (go_simp; with_reducible rfl) | (go_simp; rfl))); all_goals skip; (try simp only [List.set_cons_succ, List.set_cons_zero])
      refine D_take 15 (v := (.string p)) rfl (by kernel_rfl) (by kernel_rfl) (by kernel_rfl) (fun _ _ _ h => h) rfl (by rfl) (fun W hS => R_loadCell' (ty := 9) (x := .tmp 87) rfl rfl (hS.ext.cell hcp (fun e => e)) Tryz.isAgg9) hS ?_; (try simp only [List.set_cons_succ, List.set_cons_zero])
      refine D_one 16 rfl (by kernel_rfl) (by rfl) ?_
      refine R_call (f := 16) (args := #[.slice Af l.length cf, .string p]) (by first | (go_simp; done) | (go_simp; rfl)) (hfl (hf.keep hS.ext)) ?_
      rintro e w ⟨rfl, hE⟩
      have hS2 := hS.calls hE; clear hS; have hS := hS2; clear hS2 hE; refine ⟨_, rfl, hS, ?_⟩
      try simp only [Act.put, List.getElem_toArray, List.getElem_cons_succ, List.getElem_cons_zero, List.setIfInBounds_toArray, List.set_cons_succ, List.set_cons_zero]
      refine D_take 17 (v := ?_) rfl (by kernel_rfl) (by kernel_rfl) (by kernel_rfl) (fun _ _ _ h => h) rfl (by rfl) (fun W hS => ?_) hS ?_
      rotate_left; (focus (first | (go_simp; done) | (go_simp; with_reducible rfl) | (go_simp; rfl))); all_goals skip; (try simp only [List.set_cons_succ, List.set_cons_zero])
      refine D_take 18 (v := ?_) rfl (by kernel_rfl) (by kernel_rfl) (by kernel_rfl) (fun _ _ _ h => h) rfl (by rfl) (fun W hS => ?_) hS ?_
      rotate_left; (focus (first | (go_simp; done) | (go_simp; with_reducible rfl) | (go_simp; rfl))); all_goals skip; (try simp only [List.set_cons_succ, List.set_cons_zero])
      refine D_skip 19 rfl (by kernel_rfl) (by kernel_rfl) (by kernel_rfl) (fun _ _ _ h => h) rfl (by rfl) hS ?_; (try simp only [List.set_cons_succ, List.set_cons_zero])
      refine D_skip 20 rfl (by kernel_rfl) (by kernel_rfl) (by kernel_rfl) (fun _ _ _ h => h) rfl (by rfl) hS ?_; (try simp only [List.set_cons_succ, List.set_cons_zero])
      refine D_skip 21 rfl (by kernel_rfl) (by kernel_rfl) (by kernel_rfl) (fun _ _ _ h => h) rfl (by rfl) hS ?_; (try simp only [List.set_cons_succ, List.set_cons_zero])
      refine D_skip 22 rfl (by kernel_rfl) (by kernel_rfl) (by kernel_rfl) (fun _ _ _ h => h) rfl (by rfl) hS ?_; (try simp only [List.set_cons_succ, List.set_cons_zero])
      refine D_skip 23 rfl (by kernel_rfl) (by kernel_rfl) (by kernel_rfl) (fun _ _ _ h => h) rfl (by rfl) hS ?_; (try simp only [List.set_cons_succ, List.set_cons_zero])
      refine D_take 24 (v := ?_) rfl (by kernel_rfl) (by kernel_rfl) (by kernel_rfl) (fun _ _ _ h => h) rfl (by rfl) (fun W hS => ?_) hS ?_
      rotate_left; (focus (first | (go_simp; done) | (go_simp; with_reducible rfl) | (go_simp; rfl))); all_goals skip; (try simp only [List.set_cons_succ, List.set_cons_zero])
      refine D_take 25 (v := ?_) rfl (by kernel_rfl) (by kernel_rfl) (by kernel_rfl) (fun _ _ _ h => h) rfl (by rfl) (fun W hS => ?_) hS ?_
      rotate_left; (focus (first | (go_simp; done) | (go_simp; with_reducible rfl) | (go_simp; rfl))); all_goals skip; (try simp only [List.set_cons_succ, List.set_cons_zero])
      refine D_take 26 (v := ?_) rfl (by kernel_rfl) (by kernel_rfl) (by kernel_rfl) (fun _ _ _ h => h) rfl (by rfl) (fun W hS => ?_) hS ?_
      rotate_left; (focus (first | (go_simp; done) | (go_simp; with_reducible rfl) | (go_simp; rfl))); all_goals skip; (try simp only [List.set_cons_succ, List.set_cons_zero])
      refine D_take 27 (v := ?_) rfl (by kernel_rfl) (by kernel_rfl) (by kernel_rfl) (fun _ _ _ h => h) rfl (by rfl) (fun W hS => ?_) hS ?_
      rotate_left; (focus (first | (go_simp; done) | (go_simp; with_reducible rfl) | (go_simp; rfl))); all_goals skip; (try simp only [List.set_cons_succ, List.set_cons_zero])
      refine D_take 28 (v := ?_) rfl (by kernel_rfl) (by kernel_rfl) (by kernel_rfl) (fun _ _ _ h => h) rfl (by rfl) (fun W hS => ?_) hS ?_
      rotate_left; (focus (first | (go_simp; done) | (go_simp; with_reducible rfl) | (go_simp; rfl))); all_goals skip; (try simp only [List.set_cons_succ, List.set_cons_zero])
      refine D_take 29 (v := ?_) rfl (by kernel_rfl) (by kernel_rfl) (by kernel_rfl) (fun _ _ _ h => h) rfl (by rfl) (fun W hS => ?_) hS ?_
      rotate_left; (focus (first | (go_simp; done) | (go_simp; with_reducible rfl) | (go_simp; rfl))); all_goals skip; (try simp only [List.set_cons_succ, List.set_cons_zero])
      refine D_take 30 (v := ?_) rfl (by kernel_rfl) (by kernel_rfl) (by kernel_rfl) (fun _ _ _ h => h) rfl (by rfl) (fun W hS => ?_) hS ?_
      rotate_left; (focus (first | (go_simp; done) | (go_simp; with_reducible rfl) | (go_simp; rfl))); all_goals skip; (try simp only [List.set_cons_succ, List.set_cons_zero])
      refine D_take 31 (v := ?_) rfl (by kernel_rfl) (by kernel_rfl) (by kernel_rfl) (fun _ _ _ h => h) rfl (by rfl) (fun W hS => ?_) hS ?_
      rotate_left; (focus (first | (go_simp; done) | (go_simp; with_reducible rfl) | (go_simp; rfl))); all_goals skip; (try simp only [List.set_cons_succ, List.set_cons_zero])
      refine D_take 32 (v := ?_) rfl (by kernel_rfl) (by kernel_rfl) (by kernel_rfl) (fun _ _ _ h => h) rfl (by rfl) (fun W hS => ?_) hS ?_
      rotate_left; (focus (first | (go_simp; done) | (go_simp; with_reducible rfl) | (go_simp; rfl))); all_goals skip; (try simp only [List.set_cons_succ, List.set_cons_zero])
      refine D_take 33 (v := ?_) rfl (by kernel_rfl) (by kernel_rfl) (by kernel_rfl) (fun _ _ _ h => h) rfl (by rfl) (fun W hS => ?_) hS ?_
      rotate_left; (focus (first | (go_simp; done) | (go_simp; with_reducible rfl) | (go_simp; rfl))); all_goals skip; (try simp only [List.set_cons_succ, List.set_cons_zero])
      refine D_take 34 (v := ?_) rfl (by kernel_rfl) (by kernel_rfl) (by kernel_rfl) (fun _ _ _ h => h) rfl (by rfl) (fun W hS => ?_) hS ?_
      rotate_left; (focus (first | (go_simp; done) | (go_simp; with_reducible rfl) | (go_simp; rfl))); all_goals skip; (try simp only [List.set_cons_succ, List.set_cons_zero])
      refine wpAnyH_done (by kernel_rfl) ?_ _
      go_wp2_with fail
      go_ret
      exact ⟨by simp, hE0.trans0 hS.ext⟩
end Go.Proofs.YtmfcccflohpjiaaGreatDoor
