/- Catalogues: the law's fixed fact. -/
import Derived.Test.YtmfcccflohpjiaaGreatDoorCtD
namespace Go.Proofs.YtmfcccflohpjiaaGreatDoor
set_option linter.unusedVariables false
set_option linter.unusedSimpArgs false
open Go.RowKit

theorem two_ne {w : World} {b off c g : Nat} {x y : Ent} {cs : Array Value} {T : TypeId} {fr : Nat × Nat} (h : RdS eCells 6 w (.slice (some ⟨b, off, none⟩) 2 c) [x, y]) (hg : w.heap[g]? = some (.cells cs T fr)) (hs : cs.size = 6) : b ≠ g := by
  rintro rfl
  obtain ⟨A, c', he, hc, h | ⟨b', off', cs', T', fr', rfl, hb, hcs⟩⟩ := h
  · cases h
  · cases he
    rw [hb] at hg
    cases hg
    have := hcs 1 (by simp) 5 (by omega)
    rw [Array.getElem?_eq_none (by omega)] at this
    cases this
theorem RdS.keepM {α : Type} {enc : α → List Value} {k : Nat} {w w' : World} {b off n c : Nat} {xs : List α} {M : Nat → Prop} (h : RdS enc k w (.slice (some ⟨b, off, none⟩) n c) xs) (e : Ext M w w') (hm : ¬ M b) : RdS enc k w' (.slice (some ⟨b, off, none⟩) n c) xs := by
  obtain ⟨A, c', he, hc, h | ⟨b', off', cs', T', fr', rfl, hb, hcs⟩⟩ := h
  · exact ⟨A, c', he, hc, .inl h⟩
  · cases he
    exact ⟨_, c, rfl, hc, .inr ⟨b, off, cs', T', fr', rfl, e.keep hb hm, hcs⟩⟩
theorem ext_own {w0 w w' : World} {g : Nat} (h : Ext0 w0 w) (k : Ext (fun i => i = g) w w') (hg : w0.heap.size ≤ g) : Ext0 w0 w' :=
  h.trans k (fun i hi e => by omega)
theorem twoE {w : World} {v : Value} {x y : Ent} (h : RdS eCells 6 w v [x, y]) : ∃ b off c, v = .slice (some ⟨b, off, none⟩) 2 c := by
  obtain ⟨A, c, rfl, _⟩ := h.len
  obtain ⟨b, off, _, _, _, rfl, _, _⟩ := h.cell (j := 0) (by simp)
  exact ⟨b, off, c, rfl⟩
theorem drop1B {w : World} {b off n c : Nat} {xs : List Int} (h : RdS (encInt .u8) 1 w (.slice (some ⟨b, off, none⟩) n c) xs) (h0 : 0 < n) : RdS (encInt .u8) 1 w (.slice (some ⟨b, off + 1, none⟩) (n - 1) (c - 1)) (xs.drop 1) := by
  obtain ⟨A, c', he, hc, hh⟩ := h
  cases he
  have := RdS.dropG (⟨_, c, rfl, hc, hh⟩ : RdS (encInt .u8) 1 w (.slice (some ⟨b, off, none⟩) xs.length c) xs) 1 (by omega)
  exact this
set_option maxRecDepth 100000 in
set_option maxHeartbeats 4000000 in
theorem awakeC_any (w0 : World) (hm : Pth.ML w0) : Calls Tryz.prog 10 #[] w0 fun e w' => e = .returned (.bool true) ∧ Ext0 w0 w' := by
  have H : SH (fun _ => False) w0 w0 [] := SH.nil _ _
  have hw1 : ∀ {W : World}, Calls Tryz.prog 18 #[.slice none 0 0, .agg #[.string ⟨#[98]⟩, .int .i64 420, .int .i64 7, .int .i64 1, .int .i64 3, .int .i64 4]] W (GivesE W [awX]) := fun {W} => by
    have := withE_any (.slice none 0 0) [] awX W (RdS.nil _ _ _) (by simp)
    rw [aw_with1] at this
    exact this
  have hw2 : ∀ {W : World} {v : Value}, RdS eCells 6 W v [awX] → Calls Tryz.prog 18 #[v, .agg #[.string ⟨#[97]⟩, .int .i64 0, .int .i64 0, .int .i64 1, .int .i64 0, .int .i64 3]] W (GivesE W [awY, awX]) := fun {W v} h => by
    have := withE_any v [awX] awY W h (by simp)
    rw [aw_with2] at this
    exact this
  have hw3 : ∀ {W : World} {v : Value}, RdS eCells 6 W v [awY, awX] → Calls Tryz.prog 18 #[v, .agg #[.string ⟨#[97]⟩, .int .i64 0, .int .i64 0, .int .i64 1, .int .i64 0, .int .i64 4]] W (GivesE W [awZ, awX]) := fun {W v} h => by
    have := withE_any v [awY, awX] awZ W h (by simp)
    rw [aw_with3] at this
    exact this
  obtain ⟨eb, heb⟩ : ∃ eb, encCat [awY, awX] = eb := ⟨_, rfl⟩
  have henc : ∀ {W : World} {v : Value}, Ext0 w0 W → RdS eCells 6 W v [awY, awX] → Calls Tryz.prog 7 #[v] W fun e w' => (∃ v2, e = .returned (.tuple #[v2, .int .i64 0]) ∧ RdS (encInt .u8) 1 w' v2 eb) ∧ Ext0 W w' := fun {W v} hE h => by
    refine (encode_any v [awY, awX] W h (by simp) (ok_path aw_ok) (hm.ext hE)).mono ?_
    rintro e w' ⟨⟨_, v2, rfl, h2⟩ | ⟨hb, _⟩, hE2⟩
    · exact ⟨⟨v2, rfl, heb ▸ h2⟩, hE2⟩
    · exact (hb aw_good).elim
  have hlen : eb.length = 94 := heb ▸ aw_len
  have hbyt : ∀ x ∈ eb, 0 ≤ x ∧ x ≤ 255 := heb ▸ encCat_bytes _
  have hdok : DecOk eb [awY, awX] := heb ▸ decOk_enc aw_good aw_ok
  have hdno : ∀ es, ¬ DecOk (eb.drop 1) es := heb ▸ aw_dec1
  have hdec : ∀ {W : World} {v : Value}, Ext0 w0 W → RdS (encInt .u8) 1 W v eb → Calls Tryz.prog 13 #[v] W fun e w' => (∃ v2, e = .returned (.tuple #[v2, .int .i64 0]) ∧ RdS eCells 6 w' v2 [awY, awX]) ∧ Ext0 W w' := fun {W v} hE h => by
    refine (decodeC_any v eb W h hbyt (by omega) (hm.ext hE)).mono ?_
    rintro e w' ⟨⟨es, v2, h1, rfl, h2⟩ | ⟨hb, _⟩, hE2⟩
    · exact ⟨⟨v2, rfl, (h1.uniq hdok) ▸ h2⟩, hE2⟩
    · exact (hb _ hdok).elim
  have hdec1 : ∀ {W : World} {v : Value}, Ext0 w0 W → RdS (encInt .u8) 1 W v (eb.drop 1) → Calls Tryz.prog 13 #[v] W fun e w' => e = .returned (.tuple #[.slice none 0 0, .int .i64 12]) ∧ Ext0 W w' := fun {W v} hE h => by
    refine (decodeC_any v (eb.drop 1) W h (fun x hx => hbyt x (List.mem_of_mem_drop hx)) (by rw [List.length_drop]; omega) (hm.ext hE)).mono ?_
    rintro e w' ⟨⟨es, v2, h1, _, _⟩ | ⟨_, rfl⟩, hE2⟩
    · exact (hdno _ h1).elim
    · exact ⟨rfl, hE2⟩
  have hgood : ∀ {W : World} {v : Value}, Ext0 w0 W → RdS eCells 6 W v [awZ, awX] → Calls Tryz.prog 11 #[v] W fun e w' => e = .returned (.bool false) ∧ Ext0 W w' := fun {W v} hE h => by
    refine (catGood_any v [awZ, awX] W h (by simp) (ok_path aw_okz) (hm.ext hE)).mono ?_
    rintro e w' ⟨⟨q, rfl, hq⟩, hE2⟩
    refine ⟨?_, hE2⟩
    cases q
    · rfl
    · exact (aw_bad ((catGood_iff _).1 (hq.out.1 rfl))).elim
  have hsame : ∀ {W : World} {v u : Value}, RdS eCells 6 W v [awY, awX] → RdS eCells 6 W u [awY, awX] → Calls Tryz.prog 15 #[v, u] W fun e w' => e = .returned (.bool true) ∧ Ext0 W w' := fun {W v u} h h2 => by
    refine (sameC_any v u _ _ W h h2 (by simp) (by simp)).mono ?_
    rintro e w' ⟨⟨q, rfl, hq⟩, hE2⟩
    exact ⟨by rw [hq.2 rfl], hE2⟩
  have hfb : ∀ {W : World} {v : Value}, RdS eCells 6 W v [awY, awX] → Calls Tryz.prog 16 #[v, .string ⟨#[98]⟩] W fun e w' => e = .returned (.int .i64 1) ∧ Ext0 W w' := fun {W v} h => by
    have := find_any v _ ⟨#[98]⟩ W h (by simp)
    rw [aw_findb] at this
    exact this
  have hfc : ∀ {W : World} {v : Value}, RdS eCells 6 W v [awY, awX] → Calls Tryz.prog 16 #[v, .string ⟨#[99]⟩] W fun e w' => e = .returned (.int .i64 (-1)) ∧ Ext0 W w' := fun {W v} h => by
    have := find_any v _ ⟨#[99]⟩ W h (by simp)
    rw [aw_findc] at this
    exact this
  have hwo : ∀ {W : World} {v : Value}, RdS eCells 6 W v [awY, awX] → Calls Tryz.prog 20 #[v, .string ⟨#[97]⟩] W fun e w' => (∃ A c, e = .returned (.slice A 1 c)) ∧ Ext0 W w' := fun {W v} h => by
    have := without_any v _ ⟨#[97]⟩ W h (by simp)
    rw [aw_out] at this
    refine this.mono ?_
    rintro e w' ⟨v2, rfl, hr, hE⟩
    obtain ⟨A, c, rfl, _⟩ := hr.len
    exact ⟨⟨A, c, rfl⟩, hE⟩
  clear hdok hdno heb hm
  go_enter Tryz.func10, Tryz.ntmps10
  go_upto_region 3 with (first
    | (refine L_alloc (L := []) rfl rfl H Tryz.zeroValue39 ?_; clear H; intro gx w H; simp only [Value.cells] at H; (try simp only [Act.put, List.setIfInBounds_toArray, List.set_cons_succ, List.set_cons_zero, List.getElem_toArray, List.getElem_cons_succ, List.getElem_cons_zero]))
    | (refine L_alloc (L := [_]) rfl rfl H Tryz.zeroValue39 ?_; clear H; intro gy w H; simp only [Value.cells] at H; (try simp only [Act.put, List.setIfInBounds_toArray, List.set_cons_succ, List.set_cons_zero, List.getElem_toArray, List.getElem_cons_succ, List.getElem_cons_zero]))
    | (refine L_storerow rfl rfl H 0 rfl rfl rfl info39 rfl rfl (oneE _ _ _ _ _ _) ?_; clear H; intro w H; simp only [List.set_cons_zero] at H; (try simp only [Act.put, List.setIfInBounds_toArray, List.set_cons_succ, List.set_cons_zero, List.getElem_toArray, List.getElem_cons_succ, List.getElem_cons_zero])))
  refine D_start H (by kernel_rfl) (fun hS => ?_)
  try simp only [Act.put, List.setIfInBounds_toArray, List.set_cons_succ, List.set_cons_zero]
  refine D_take 0 (v := (.agg #[.string ⟨#[98]⟩, .int .i64 420, .int .i64 7, .int .i64 1, .int .i64 3, .int .i64 4])) rfl (by kernel_rfl) (by kernel_rfl) (by kernel_rfl) (fun _ _ _ h => h) rfl (by rfl) (fun W hS => R_loadrow (ty := 39) (x := .tmp 1) rfl hS 1 rfl rfl Tryz.underlying39 rfl info39 rfl) hS ?_; (try simp only [List.set_cons_succ, List.set_cons_zero])
  refine D_take 2 (v := (.agg #[.string ⟨#[97]⟩, .int .i64 0, .int .i64 0, .int .i64 1, .int .i64 0, .int .i64 3])) rfl (by kernel_rfl) (by kernel_rfl) (by kernel_rfl) (fun _ _ _ h => h) rfl (by rfl) (fun W hS => R_loadrow (ty := 39) (x := .tmp 2) rfl hS 0 rfl rfl Tryz.underlying39 rfl info39 rfl) hS ?_; (try simp only [List.set_cons_succ, List.set_cons_zero])
  refine D_one 1 rfl (by kernel_rfl) (by rfl) ?_
  refine R_call (f := 18) (args := #[.slice none 0 0, .agg #[.string ⟨#[98]⟩, .int .i64 420, .int .i64 7, .int .i64 1, .int .i64 3, .int .i64 4]]) (by first | (go_simp; done) | (go_simp; rfl)) (hw1) ?_
  rintro e w ⟨v1, rfl, hr1, hE⟩
  have hS2 := hS.calls hE
  clear hS
  have hS := hS2
  clear hS2 hE
  refine ⟨_, rfl, hS, ?_⟩
  try simp only [Act.put, List.getElem_toArray, List.getElem_cons_succ, List.getElem_cons_zero, List.setIfInBounds_toArray, List.set_cons_succ, List.set_cons_zero]
  refine D_one 3 rfl (by kernel_rfl) (by rfl) ?_
  refine R_call (f := 18) (args := #[v1, .agg #[.string ⟨#[97]⟩, .int .i64 0, .int .i64 0, .int .i64 1, .int .i64 0, .int .i64 3]]) (by first | (go_simp; done) | (go_simp; rfl)) (hw2 hr1) ?_
  rintro e w ⟨v3, rfl, hr3, hE⟩
  have hS2 := hS.calls hE
  clear hS
  have hS := hS2
  clear hS2 hE hr1
  refine ⟨_, rfl, hS, ?_⟩
  try simp only [Act.put, List.getElem_toArray, List.getElem_cons_succ, List.getElem_cons_zero, List.setIfInBounds_toArray, List.set_cons_succ, List.set_cons_zero]
  refine D_take 4 (v := ?_) rfl (by kernel_rfl) (by kernel_rfl) (by kernel_rfl) (fun _ _ _ h => h) rfl (by rfl) (fun W hS => ?_) hS ?_
  rotate_left; (focus (first | (go_simp; done) | (go_simp; with_reducible rfl) | (go_simp; rfl))); all_goals skip; (try simp only [List.set_cons_succ, List.set_cons_zero])
  refine wpAnyH_done (by kernel_rfl) ?_ _
  clear H hw1 hw2
  have H := hS
  clear hS
  obtain ⟨bl, ol, cl, rfl⟩ := twoE hr3
  go_upto_region 7 with (first
    | (go_at_call 7; refine (henc H.ext hr3).mono ?_; rintro e w4 ⟨⟨v4, rfl, hv4⟩, hE⟩; replace H := H.calls hE; replace hr3 := hr3.keep hE; clear hE; obtain ⟨A4, c4, rfl, hc4⟩ := hv4.len; rw [hlen] at hv4 hc4 ⊢))
  go_upto_region 8 with (first
    | (go_at_call 13; refine (hdec H.ext hv4).mono ?_; rintro e w5 ⟨⟨v6, rfl, hv6⟩, hE⟩; replace H := H.calls hE; replace hr3 := hr3.keep hE; replace hv4 := hv4.keep hE; clear hE))
  obtain ⟨bm, om, cm, rfl⟩ := twoE hv6
  obtain ⟨b4, o4, cs4, T4, fr4, rfl, hz1, hz2⟩ := hv4.cell (show 0 < eb.length by omega)
  clear hz1 hz2
  have hc4i : (94 : Int) ≤ (c4 : Int) := by omega
  have hc4n : ¬ c4 = 1 := by omega
  have hv5 := drop1B hv4 (by omega)
  go_upto_region 9 with (first
    | (go_at_call 13; refine (hdec1 H.ext hv5).mono ?_; rintro e w7 ⟨rfl, hE⟩; replace H := H.calls hE; replace hr3 := hr3.keep hE; replace hv6 := hv6.keep hE; clear hE hv5 hv4))
  clear hdec hdec1 henc hbyt
  have hgx := H.at_ 1 rfl
  have hgy := H.at_ 0 rfl
  have hne1 := two_ne hr3 hgy rfl
  have hne2 := two_ne hv6 hgy rfl
  have hne3 : gx ≠ gy := fun e => H.sep 1 0 (by omega) rfl rfl gx rfl e
  have hown : w0.heap.size ≤ gy := (H.own _ List.mem_cons_self gy rfl).resolve_left (fun e => e)
  have hE0 := H.ext
  have HF := Lib.hid (And.intro hr3 (And.intro hv6 (And.intro hgx (And.intro hne1 (And.intro hne2 (And.intro hne3 (And.intro hown hE0)))))))
  have H9 : SH (fun i => i = gy) w7 w7 [pt gy (.cells #[.string ⟨#[97]⟩, .int .i64 0, .int .i64 0, .int .i64 1, .int .i64 0, .int .i64 3] 39 (0, 0))] :=
    ⟨Ext.refl _ _, fun A hA => by rw [List.mem_singleton.1 hA]; exact hgy, fun A hA i hi => by rw [List.mem_singleton.1 hA] at hi; cases hi; exact blk_lt' hgy, fun A hA i hi => by rw [List.mem_singleton.1 hA] at hi; exact .inl hi, List.pairwise_singleton _ _⟩
  clear H hr3 hv6 hgx hgy hne1 hne2 hne3 hown hE0
  have H := H9
  clear H9
  go_upto_region 10 with (first | (refine L_store1 rfl rfl H 0 rfl rfl rfl rfl rfl (Nat.le_of_ble_eq_true rfl) Tryz.sizeOf3 ?_; clear H; intro w H; simp only [List.set_cons_zero, List.set_cons_succ, List.setIfInBounds_toArray, Act.eval, Array.getD_eq_getD_getElem?, List.getElem?_toArray, List.getElem?_cons_succ, List.getElem?_cons_zero, Option.getD_some] at H; (try simp only [Act.put, List.setIfInBounds_toArray, List.set_cons_succ, List.set_cons_zero, List.getElem_toArray, List.getElem_cons_succ, List.getElem_cons_zero])))
  have hr3 := HF.out.1.keepM H.ext HF.out.2.2.2.1
  have hv6 := HF.out.2.1.keepM H.ext HF.out.2.2.2.2.1
  have hgx := oneEnt awX (H.ext.keep HF.out.2.2.1 HF.out.2.2.2.2.2.1)
  have hgy := oneEnt awZ (H.at_ 0 rfl)
  have hE0 := ext_own HF.out.2.2.2.2.2.2.2 H.ext HF.out.2.2.2.2.2.2.1
  clear HF H
  have H := SH.nil (fun _ => False) w
  refine D_start H (by kernel_rfl) (fun hS => ?_)
  try simp only [Act.put, List.setIfInBounds_toArray, List.set_cons_succ, List.set_cons_zero]
  refine D_take 0 (v := ?_) rfl (by kernel_rfl) (by kernel_rfl) (by kernel_rfl) (fun _ _ _ h => h) rfl (by rfl) (fun W hS => ?_) hS ?_
  rotate_left; (focus (first | (go_simp; done) | (go_simp; with_reducible rfl) | (go_simp; rfl))); all_goals skip; (try simp only [List.set_cons_succ, List.set_cons_zero])
  refine D_take 1 (v := ?_) rfl (by kernel_rfl) (by kernel_rfl) (by kernel_rfl) (fun _ _ _ h => h) rfl (by rfl) (fun W hS => ?_) hS ?_
  rotate_left; (focus (first | (go_simp; done) | (go_simp; with_reducible rfl) | (go_simp; rfl))); all_goals skip; (try simp only [List.set_cons_succ, List.set_cons_zero])
  refine D_one 2 rfl (by kernel_rfl) (by rfl) ?_
  refine R_call (f := 15) (args := #[.slice (some ⟨bl, ol, none⟩) 2 cl, .slice (some ⟨bm, om, none⟩) 2 cm]) (by first | (go_simp; done) | (go_simp; rfl)) (hsame (hr3.keep hS.ext) (hv6.keep hS.ext)) ?_
  rintro e w ⟨rfl, hE⟩
  have hS2 := hS.calls hE
  clear hS
  have hS := hS2
  clear hS2 hE
  refine ⟨_, rfl, hS, ?_⟩
  try simp only [Act.put, List.getElem_toArray, List.getElem_cons_succ, List.getElem_cons_zero, List.setIfInBounds_toArray, List.set_cons_succ, List.set_cons_zero]
  refine D_take 3 (v := ?_) rfl (by kernel_rfl) (by kernel_rfl) (by kernel_rfl) (fun _ _ _ h => h) rfl (by rfl) (fun W hS => ?_) hS ?_
  rotate_left; (focus (first | (go_simp; done) | (go_simp; with_reducible rfl) | (go_simp; rfl))); all_goals skip; (try simp only [List.set_cons_succ, List.set_cons_zero])
  refine D_take 4 (v := ?_) rfl (by kernel_rfl) (by kernel_rfl) (by kernel_rfl) (fun _ _ _ h => h) rfl (by rfl) (fun W hS => ?_) hS ?_
  rotate_left; (focus (first | (go_simp; done) | (go_simp; with_reducible rfl) | (go_simp; rfl))); all_goals skip; (try simp only [List.set_cons_succ, List.set_cons_zero])
  refine D_take 5 (v := ?_) rfl (by kernel_rfl) (by kernel_rfl) (by kernel_rfl) (fun _ _ _ h => h) rfl (by rfl) (fun W hS => ?_) hS ?_
  rotate_left; (focus (first | (go_simp; done) | (go_simp; with_reducible rfl) | (go_simp; rfl))); all_goals skip; (try simp only [List.set_cons_succ, List.set_cons_zero])
  refine D_take 6 (v := ?_) rfl (by kernel_rfl) (by kernel_rfl) (by kernel_rfl) (fun _ _ _ h => h) rfl (by rfl) (fun W hS => ?_) hS ?_
  rotate_left; (focus (first | (go_simp; done) | (go_simp; with_reducible rfl) | (go_simp; rfl))); all_goals skip; (try simp only [List.set_cons_succ, List.set_cons_zero])
  refine D_take 7 (v := ?_) rfl (by kernel_rfl) (by kernel_rfl) (by kernel_rfl) (fun _ _ _ h => h) rfl (by rfl) (fun W hS => ?_) hS ?_
  rotate_left; (focus (first | (go_simp; done) | (go_simp; with_reducible rfl) | (go_simp; rfl))); all_goals skip; (try simp only [List.set_cons_succ, List.set_cons_zero])
  refine D_take 8 (v := ?_) rfl (by kernel_rfl) (by kernel_rfl) (by kernel_rfl) (fun _ _ _ h => h) rfl (by rfl) (fun W hS => ?_) hS ?_
  rotate_left; (focus (first | (go_simp; done) | (go_simp; with_reducible rfl) | (go_simp; rfl))); all_goals skip; (try simp only [List.set_cons_succ, List.set_cons_zero])
  refine D_take 9 (v := ?_) rfl (by kernel_rfl) (by kernel_rfl) (by kernel_rfl) (fun _ _ _ h => h) rfl (by rfl) (fun W hS => ?_) hS ?_
  rotate_left; (focus (first | (go_simp; done) | (go_simp; with_reducible rfl) | (go_simp; rfl))); all_goals skip; (try simp only [List.set_cons_succ, List.set_cons_zero])
  refine D_take 10 (v := ?_) rfl (by kernel_rfl) (by kernel_rfl) (by kernel_rfl) (fun _ _ _ h => h) rfl (by rfl) (fun W hS => ?_) hS ?_
  rotate_left; (focus (first | (go_simp; done) | (go_simp; with_reducible rfl) | (go_simp; rfl))); all_goals skip; (try simp only [List.set_cons_succ, List.set_cons_zero])
  refine D_take 11 (v := (.agg #[.string ⟨#[98]⟩, .int .i64 420, .int .i64 7, .int .i64 1, .int .i64 3, .int .i64 4])) rfl (by kernel_rfl) (by kernel_rfl) (by kernel_rfl) (fun _ _ _ h => h) rfl (by rfl) (fun W hS => R_loadE (ty := 39) (x := .tmp 51) rfl (hr3.keep hS.ext) (j := 1) (by simp) rfl (s := awX) rfl Tryz.underlying39 rfl info39) hS ?_; (try simp only [List.set_cons_succ, List.set_cons_zero])
  refine D_take 12 (v := (.agg #[.string ⟨#[98]⟩, .int .i64 420, .int .i64 7, .int .i64 1, .int .i64 3, .int .i64 4])) rfl (by kernel_rfl) (by kernel_rfl) (by kernel_rfl) (fun _ _ _ h => h) rfl (by rfl) (fun W hS => R_loadE (ty := 39) (x := .tmp 1) rfl (hgx.keep hS.ext) (j := 0) (by simp) rfl (s := awX) rfl Tryz.underlying39 rfl info39) hS ?_; (try simp only [List.set_cons_succ, List.set_cons_zero])
  refine D_take 13 (v := ?_) rfl (by kernel_rfl) (by kernel_rfl) (by kernel_rfl) (fun _ _ _ h => h) rfl (by rfl) (fun W hS => ?_) hS ?_
  rotate_left; (focus (first | (go_simp; done) | (go_simp; with_reducible rfl) | (go_simp; rfl))); all_goals skip; (try simp only [List.set_cons_succ, List.set_cons_zero])
  refine D_take 14 (v := ?_) rfl (by kernel_rfl) (by kernel_rfl) (by kernel_rfl) (fun _ _ _ h => h) rfl (by rfl) (fun W hS => ?_) hS ?_
  rotate_left; (focus (first | (go_simp; done) | (go_simp; with_reducible rfl) | (go_simp; rfl))); all_goals skip; (try simp only [List.set_cons_succ, List.set_cons_zero])
  refine D_take 15 (v := ?_) rfl (by kernel_rfl) (by kernel_rfl) (by kernel_rfl) (fun _ _ _ h => h) rfl (by rfl) (fun W hS => ?_) hS ?_
  rotate_left; (focus (first | (go_simp; done) | (go_simp; with_reducible rfl) | (go_simp; rfl))); all_goals skip; (try simp only [List.set_cons_succ, List.set_cons_zero])
  refine D_take 16 (v := ?_) rfl (by kernel_rfl) (by kernel_rfl) (by kernel_rfl) (fun _ _ _ h => h) rfl (by rfl) (fun W hS => ?_) hS ?_
  rotate_left; (focus (first | (go_simp; done) | (go_simp; with_reducible rfl) | (go_simp; rfl))); all_goals skip; (try simp only [List.set_cons_succ, List.set_cons_zero])
  refine D_take 17 (v := ?_) rfl (by kernel_rfl) (by kernel_rfl) (by kernel_rfl) (fun _ _ _ h => h) rfl (by rfl) (fun W hS => ?_) hS ?_
  rotate_left; (focus (first | (go_simp; done) | (go_simp; with_reducible rfl) | (go_simp; rfl))); all_goals skip; (try simp only [List.set_cons_succ, List.set_cons_zero])
  refine D_take 18 (v := ?_) rfl (by kernel_rfl) (by kernel_rfl) (by kernel_rfl) (fun _ _ _ h => h) rfl (by rfl) (fun W hS => ?_) hS ?_
  rotate_left; (focus (first | (go_simp; done) | (go_simp; with_reducible rfl) | (go_simp; rfl))); all_goals skip; (try simp only [List.set_cons_succ, List.set_cons_zero])
  refine D_take 19 (v := ?_) rfl (by kernel_rfl) (by kernel_rfl) (by kernel_rfl) (fun _ _ _ h => h) rfl (by rfl) (fun W hS => ?_) hS ?_
  rotate_left; (focus (first | (go_simp; done) | (go_simp; with_reducible rfl) | (go_simp; rfl))); all_goals skip; (try simp only [List.set_cons_succ, List.set_cons_zero])
  refine D_take 20 (v := ?_) rfl (by kernel_rfl) (by kernel_rfl) (by kernel_rfl) (fun _ _ _ h => h) rfl (by rfl) (fun W hS => ?_) hS ?_
  rotate_left; (focus (first | (go_simp; done) | (go_simp; with_reducible rfl) | (go_simp; rfl))); all_goals skip; (try simp only [List.set_cons_succ, List.set_cons_zero])
  refine D_take 21 (v := ?_) rfl (by kernel_rfl) (by kernel_rfl) (by kernel_rfl) (fun _ _ _ h => h) rfl (by rfl) (fun W hS => ?_) hS ?_
  rotate_left; (focus (first | (go_simp; done) | (go_simp; with_reducible rfl) | (go_simp; rfl))); all_goals skip; (try simp only [List.set_cons_succ, List.set_cons_zero])
  refine D_take 22 (v := ?_) rfl (by kernel_rfl) (by kernel_rfl) (by kernel_rfl) (fun _ _ _ h => h) rfl (by rfl) (fun W hS => ?_) hS ?_
  rotate_left; (focus (first | (go_simp; done) | (go_simp; with_reducible rfl) | (go_simp; rfl))); all_goals skip; (try simp only [List.set_cons_succ, List.set_cons_zero])
  refine D_take 23 (v := ?_) rfl (by kernel_rfl) (by kernel_rfl) (by kernel_rfl) (fun _ _ _ h => h) rfl (by rfl) (fun W hS => ?_) hS ?_
  rotate_left; (focus (first | (go_simp; done) | (go_simp; with_reducible rfl) | (go_simp; rfl))); all_goals skip; (try simp only [List.set_cons_succ, List.set_cons_zero])
  refine D_take 24 (v := ?_) rfl (by kernel_rfl) (by kernel_rfl) (by kernel_rfl) (fun _ _ _ h => h) rfl (by rfl) (fun W hS => ?_) hS ?_
  rotate_left; (focus (first | (go_simp; done) | (go_simp; with_reducible rfl) | (go_simp; rfl))); all_goals skip; (try simp only [List.set_cons_succ, List.set_cons_zero])
  refine D_take 25 (v := ?_) rfl (by kernel_rfl) (by kernel_rfl) (by kernel_rfl) (fun _ _ _ h => h) rfl (by rfl) (fun W hS => ?_) hS ?_
  rotate_left; (focus (first | (go_simp; done) | (go_simp; with_reducible rfl) | (go_simp; rfl))); all_goals skip; (try simp only [List.set_cons_succ, List.set_cons_zero])
  refine D_take 26 (v := ?_) rfl (by kernel_rfl) (by kernel_rfl) (by kernel_rfl) (fun _ _ _ h => h) rfl (by rfl) (fun W hS => ?_) hS ?_
  rotate_left; (focus (first | (go_simp; done) | (go_simp; with_reducible rfl) | (go_simp; rfl))); all_goals skip; (try simp only [List.set_cons_succ, List.set_cons_zero])
  refine D_take 27 (v := ?_) rfl (by kernel_rfl) (by kernel_rfl) (by kernel_rfl) (fun _ _ _ h => h) rfl (by rfl) (fun W hS => ?_) hS ?_
  rotate_left; (focus (first | (go_simp; done) | (go_simp; with_reducible rfl) | (go_simp; rfl))); all_goals skip; (try simp only [List.set_cons_succ, List.set_cons_zero])
  refine D_take 28 (v := ?_) rfl (by kernel_rfl) (by kernel_rfl) (by kernel_rfl) (fun _ _ _ h => h) rfl (by rfl) (fun W hS => ?_) hS ?_
  rotate_left; (focus (first | (go_simp; done) | (go_simp; with_reducible rfl) | (go_simp; rfl))); all_goals skip; (try simp only [List.set_cons_succ, List.set_cons_zero])
  refine D_take 29 (v := ?_) rfl (by kernel_rfl) (by kernel_rfl) (by kernel_rfl) (fun _ _ _ h => h) rfl (by rfl) (fun W hS => ?_) hS ?_
  rotate_left; (focus (first | (go_simp; done) | (go_simp; with_reducible rfl) | (go_simp; rfl))); all_goals skip; (try simp only [List.set_cons_succ, List.set_cons_zero])
  refine D_take 30 (v := ?_) rfl (by kernel_rfl) (by kernel_rfl) (by kernel_rfl) (fun _ _ _ h => h) rfl (by rfl) (fun W hS => ?_) hS ?_
  rotate_left; (focus (first | (go_simp; done) | (go_simp; with_reducible rfl) | (go_simp; rfl))); all_goals skip; (try simp only [List.set_cons_succ, List.set_cons_zero])
  refine D_take 31 (v := ?_) rfl (by kernel_rfl) (by kernel_rfl) (by kernel_rfl) (fun _ _ _ h => h) rfl (by rfl) (fun W hS => ?_) hS ?_
  rotate_left; (focus (first | (go_simp; done) | (go_simp; with_reducible rfl) | (go_simp; rfl))); all_goals skip; (try simp only [List.set_cons_succ, List.set_cons_zero])
  refine D_take 32 (v := ?_) rfl (by kernel_rfl) (by kernel_rfl) (by kernel_rfl) (fun _ _ _ h => h) rfl (by rfl) (fun W hS => ?_) hS ?_
  rotate_left; (focus (first | (go_simp; done) | (go_simp; with_reducible rfl) | (go_simp; rfl))); all_goals skip; (try simp only [List.set_cons_succ, List.set_cons_zero])
  refine D_take 33 (v := ?_) rfl (by kernel_rfl) (by kernel_rfl) (by kernel_rfl) (fun _ _ _ h => h) rfl (by rfl) (fun W hS => ?_) hS ?_
  rotate_left; (focus (first | (go_simp; done) | (go_simp; with_reducible rfl) | (go_simp; rfl))); all_goals skip; (try simp only [List.set_cons_succ, List.set_cons_zero])
  refine D_take 34 (v := (.agg #[.string ⟨#[97]⟩, .int .i64 0, .int .i64 0, .int .i64 1, .int .i64 0, .int .i64 4])) rfl (by kernel_rfl) (by kernel_rfl) (by kernel_rfl) (fun _ _ _ h => h) rfl (by rfl) (fun W hS => R_loadE (ty := 39) (x := .tmp 2) rfl (hgy.keep hS.ext) (j := 0) (by simp) rfl (s := awZ) rfl Tryz.underlying39 rfl info39) hS ?_; (try simp only [List.set_cons_succ, List.set_cons_zero])
  refine D_one 35 rfl (by kernel_rfl) (by rfl) ?_
  refine R_call (f := 18) (args := #[.slice (some ⟨bl, ol, none⟩) 2 cl, .agg #[.string ⟨#[97]⟩, .int .i64 0, .int .i64 0, .int .i64 1, .int .i64 0, .int .i64 4]]) (by first | (go_simp; done) | (go_simp; rfl)) (hw3 (hr3.keep hS.ext)) ?_
  rintro e w ⟨v76, rfl, hr76, hE⟩
  have hS2 := hS.calls hE
  clear hS
  have hS := hS2
  clear hS2 hE
  refine ⟨_, rfl, hS, ?_⟩
  try simp only [Act.put, List.getElem_toArray, List.getElem_cons_succ, List.getElem_cons_zero, List.setIfInBounds_toArray, List.set_cons_succ, List.set_cons_zero]
  refine D_one 36 rfl (by kernel_rfl) (by rfl) ?_
  refine R_call (f := 11) (args := #[v76]) (by first | (go_simp; done) | (go_simp; rfl)) (hgood (hE0.trans0 hS.ext) hr76) ?_
  rintro e w ⟨rfl, hE⟩
  have hS2 := hS.calls hE
  clear hS
  have hS := hS2
  clear hS2 hE hr76
  refine ⟨_, rfl, hS, ?_⟩
  try simp only [Act.put, List.getElem_toArray, List.getElem_cons_succ, List.getElem_cons_zero, List.setIfInBounds_toArray, List.set_cons_succ, List.set_cons_zero]
  refine D_take 37 (v := ?_) rfl (by kernel_rfl) (by kernel_rfl) (by kernel_rfl) (fun _ _ _ h => h) rfl (by rfl) (fun W hS => ?_) hS ?_
  rotate_left; (focus (first | (go_simp; done) | (go_simp; with_reducible rfl) | (go_simp; rfl))); all_goals skip; (try simp only [List.set_cons_succ, List.set_cons_zero])
  refine D_take 38 (v := ?_) rfl (by kernel_rfl) (by kernel_rfl) (by kernel_rfl) (fun _ _ _ h => h) rfl (by rfl) (fun W hS => ?_) hS ?_
  rotate_left; (focus (first | (go_simp; done) | (go_simp; with_reducible rfl) | (go_simp; rfl))); all_goals skip; (try simp only [List.set_cons_succ, List.set_cons_zero])
  refine D_take 39 (v := ?_) rfl (by kernel_rfl) (by kernel_rfl) (by kernel_rfl) (fun _ _ _ h => h) rfl (by rfl) (fun W hS => ?_) hS ?_
  rotate_left; (focus (first | (go_simp; done) | (go_simp; with_reducible rfl) | (go_simp; rfl))); all_goals skip; (try simp only [List.set_cons_succ, List.set_cons_zero])
  refine D_take 40 (v := ?_) rfl (by kernel_rfl) (by kernel_rfl) (by kernel_rfl) (fun _ _ _ h => h) rfl (by rfl) (fun W hS => ?_) hS ?_
  rotate_left; (focus (first | (go_simp; done) | (go_simp; with_reducible rfl) | (go_simp; rfl))); all_goals skip; (try simp only [List.set_cons_succ, List.set_cons_zero])
  refine D_one 41 rfl (by kernel_rfl) (by rfl) ?_
  refine R_call (f := 16) (args := #[.slice (some ⟨bl, ol, none⟩) 2 cl, .string ⟨#[98]⟩]) (by first | (go_simp; done) | (go_simp; rfl)) (hfb (hr3.keep hS.ext)) ?_
  rintro e w ⟨rfl, hE⟩
  have hS2 := hS.calls hE
  clear hS
  have hS := hS2
  clear hS2 hE
  refine ⟨_, rfl, hS, ?_⟩
  try simp only [Act.put, List.getElem_toArray, List.getElem_cons_succ, List.getElem_cons_zero, List.setIfInBounds_toArray, List.set_cons_succ, List.set_cons_zero]
  refine D_take 42 (v := ?_) rfl (by kernel_rfl) (by kernel_rfl) (by kernel_rfl) (fun _ _ _ h => h) rfl (by rfl) (fun W hS => ?_) hS ?_
  rotate_left; (focus (first | (go_simp; done) | (go_simp; with_reducible rfl) | (go_simp; rfl))); all_goals skip; (try simp only [List.set_cons_succ, List.set_cons_zero])
  refine D_take 43 (v := ?_) rfl (by kernel_rfl) (by kernel_rfl) (by kernel_rfl) (fun _ _ _ h => h) rfl (by rfl) (fun W hS => ?_) hS ?_
  rotate_left; (focus (first | (go_simp; done) | (go_simp; with_reducible rfl) | (go_simp; rfl))); all_goals skip; (try simp only [List.set_cons_succ, List.set_cons_zero])
  refine D_take 44 (v := ?_) rfl (by kernel_rfl) (by kernel_rfl) (by kernel_rfl) (fun _ _ _ h => h) rfl (by rfl) (fun W hS => ?_) hS ?_
  rotate_left; (focus (first | (go_simp; done) | (go_simp; with_reducible rfl) | (go_simp; rfl))); all_goals skip; (try simp only [List.set_cons_succ, List.set_cons_zero])
  refine D_take 45 (v := ?_) rfl (by kernel_rfl) (by kernel_rfl) (by kernel_rfl) (fun _ _ _ h => h) rfl (by rfl) (fun W hS => ?_) hS ?_
  rotate_left; (focus (first | (go_simp; done) | (go_simp; with_reducible rfl) | (go_simp; rfl))); all_goals skip; (try simp only [List.set_cons_succ, List.set_cons_zero])
  refine D_one 46 rfl (by kernel_rfl) (by rfl) ?_
  refine R_call (f := 16) (args := #[.slice (some ⟨bl, ol, none⟩) 2 cl, .string ⟨#[99]⟩]) (by first | (go_simp; done) | (go_simp; rfl)) (hfc (hr3.keep hS.ext)) ?_
  rintro e w ⟨rfl, hE⟩
  have hS2 := hS.calls hE
  clear hS
  have hS := hS2
  clear hS2 hE
  refine ⟨_, rfl, hS, ?_⟩
  try simp only [Act.put, List.getElem_toArray, List.getElem_cons_succ, List.getElem_cons_zero, List.setIfInBounds_toArray, List.set_cons_succ, List.set_cons_zero]
  refine D_take 47 (v := ?_) rfl (by kernel_rfl) (by kernel_rfl) (by kernel_rfl) (fun _ _ _ h => h) rfl (by rfl) (fun W hS => ?_) hS ?_
  rotate_left; (focus (first | (go_simp; done) | (go_simp; with_reducible rfl) | (go_simp; rfl))); all_goals skip; (try simp only [List.set_cons_succ, List.set_cons_zero])
  refine D_take 48 (v := ?_) rfl (by kernel_rfl) (by kernel_rfl) (by kernel_rfl) (fun _ _ _ h => h) rfl (by rfl) (fun W hS => ?_) hS ?_
  rotate_left; (focus (first | (go_simp; done) | (go_simp; with_reducible rfl) | (go_simp; rfl))); all_goals skip; (try simp only [List.set_cons_succ, List.set_cons_zero])
  refine D_take 49 (v := ?_) rfl (by kernel_rfl) (by kernel_rfl) (by kernel_rfl) (fun _ _ _ h => h) rfl (by rfl) (fun W hS => ?_) hS ?_
  rotate_left; (focus (first | (go_simp; done) | (go_simp; with_reducible rfl) | (go_simp; rfl))); all_goals skip; (try simp only [List.set_cons_succ, List.set_cons_zero])
  refine D_take 50 (v := ?_) rfl (by kernel_rfl) (by kernel_rfl) (by kernel_rfl) (fun _ _ _ h => h) rfl (by rfl) (fun W hS => ?_) hS ?_
  rotate_left; (focus (first | (go_simp; done) | (go_simp; with_reducible rfl) | (go_simp; rfl))); all_goals skip; (try simp only [List.set_cons_succ, List.set_cons_zero])
  refine D_one 51 rfl (by kernel_rfl) (by rfl) ?_
  refine R_call (f := 20) (args := #[.slice (some ⟨bl, ol, none⟩) 2 cl, .string ⟨#[97]⟩]) (by first | (go_simp; done) | (go_simp; rfl)) (hwo (hr3.keep hS.ext)) ?_
  rintro e w ⟨⟨A9, c9, rfl⟩, hE⟩
  have hS2 := hS.calls hE
  clear hS
  have hS := hS2
  clear hS2 hE
  refine ⟨_, rfl, hS, ?_⟩
  try simp only [Act.put, List.getElem_toArray, List.getElem_cons_succ, List.getElem_cons_zero, List.setIfInBounds_toArray, List.set_cons_succ, List.set_cons_zero]
  refine D_take 52 (v := ?_) rfl (by kernel_rfl) (by kernel_rfl) (by kernel_rfl) (fun _ _ _ h => h) rfl (by rfl) (fun W hS => ?_) hS ?_
  rotate_left; (focus (first | (go_simp; done) | (go_simp; with_reducible rfl) | (go_simp; rfl))); all_goals skip; (try simp only [List.set_cons_succ, List.set_cons_zero])
  refine D_take 53 (v := ?_) rfl (by kernel_rfl) (by kernel_rfl) (by kernel_rfl) (fun _ _ _ h => h) rfl (by rfl) (fun W hS => ?_) hS ?_
  rotate_left; (focus (first | (go_simp; done) | (go_simp; with_reducible rfl) | (go_simp; rfl))); all_goals skip; (try simp only [List.set_cons_succ, List.set_cons_zero])
  refine D_take 54 (v := ?_) rfl (by kernel_rfl) (by kernel_rfl) (by kernel_rfl) (fun _ _ _ h => h) rfl (by rfl) (fun W hS => ?_) hS ?_
  rotate_left; (focus (first | (go_simp; done) | (go_simp; with_reducible rfl) | (go_simp; rfl))); all_goals skip; (try simp only [List.set_cons_succ, List.set_cons_zero])
  refine D_take 55 (v := ?_) rfl (by kernel_rfl) (by kernel_rfl) (by kernel_rfl) (fun _ _ _ h => h) rfl (by rfl) (fun W hS => ?_) hS ?_
  rotate_left; (focus (first | (go_simp; done) | (go_simp; with_reducible rfl) | (go_simp; rfl))); all_goals skip; (try simp only [List.set_cons_succ, List.set_cons_zero])
  refine wpAnyH_done (by kernel_rfl) ?_ _
  go_wp2_with fail
  go_ret
  exact ⟨rfl, hE0.trans0 hS.ext⟩
end Go.Proofs.YtmfcccflohpjiaaGreatDoor
