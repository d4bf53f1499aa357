/- Catalogues: the document's Decode. -/
import Derived.Test.YtmfcccflohpjiaaGreatDoorCtB
import Derived.Test.YtmfcccflohpjiaaGreatDoorCatN
import Derived.Test.YtmfcccflohpjiaaGreatDoorCatO
namespace Go.Proofs.YtmfcccflohpjiaaGreatDoor
set_option linter.unusedVariables false
set_option linter.unusedSimpArgs false
open Go.RowKit

theorem AtR.atEnd {xs : List Int} {a : Int} {rd : Rd} (h : AtR xs a rd) (he : a = (xs.length : Int)) : rd = some [] := by
  rcases h with ⟨rfl, rfl⟩ | ⟨k, rfl, hk, rfl⟩
  · omega
  · rw [List.drop_of_length_le (by omega)]
theorem AtR.notEnd {xs : List Int} {a : Int} {rd : Rd} (h : AtR xs a rd) (he : a ≠ (xs.length : Int)) : rd ≠ some [] := by
  rcases h with ⟨rfl, rfl⟩ | ⟨k, rfl, hk, rfl⟩
  · simp
  · intro h
    have h1 := congrArg List.length (Option.some.inj h)
    rw [List.length_drop] at h1
    simp at h1
    omega
theorem rdEnt_none : (rdEnt none).2 = none := rfl
theorem rdEnts_none : ∀ n, (rdEnts n none).2 = none
  | 0 => rfl
  | n + 1 => by rw [rdEnts_succ, rdEnts_none n]; rfl
def NumK (xs : List Int) (n : Int) (r : Rd) (W : World) (e : Ending) (w' : World) : Prop := ∃ a, e = .returned (.tuple #[.int .i64 n, .int .i64 a]) ∧ AtR xs a r ∧ w' = W
def WordK (xs : List Int) (s : ByteArray) (r : Rd) (W : World) (e : Ending) (w' : World) : Prop := ∃ a, e = .returned (.tuple #[.string s, .int .i64 a]) ∧ AtR xs a r ∧ Ext0 W w'
def RDecRelC (xs : List Int) (n : Nat) (r1 : Rd) (w0 : World) (va s6 vi : Value) (wr : World) : Prop :=
  ∃ (j : Nat) (a : Int) (ps : List Ent) (rd : Rd), va = .int .i64 a ∧ AtR xs a rd ∧ vi = .int .i64 (j : Int) ∧ j ≤ n ∧ Hid (ps.length = j ∧ rdEnts j r1 = (ps, rd) ∧ ∀ p ∈ ps, Fit6 p) ∧
    SH (fun _ => False) w0 wr [ownA 39 6 s6 j (cellsOf eCells ps)]
set_option maxRecDepth 100000 in
set_option maxHeartbeats 4000000 in
theorem refDecodeC_any (v : Value) (xs : List Int) (w0 : World) (hv : RdS (encInt .u8) 1 w0 v xs) (hx : ∀ x ∈ xs, 0 ≤ x ∧ x ≤ 255) (hl : xs.length ≤ 1000000) :
    Calls Tryz.prog 14 #[v] w0 fun e w' => DecE xs e w' ∧ Ext0 w0 w' := by
  have H : SH (fun _ => False) w0 w0 [] := SH.nil _ _
  have hnum : ∀ (rd : Rd) (n : Int) (r : Rd) (_ : rdN rd = (n, r)) (W : World) (a : Int), Ext0 w0 W → AtR xs a rd → Calls Tryz.prog 41 #[v, .int .i64 a] W (NumK xs n r W) := fun rd n r hr W a hE ha => by
    have := number_any v xs a rd W (hv.keep hE) hx hl ha
    unfold NumE at this
    rw [hr] at this
    exact this
  have hword : ∀ (rd : Rd) (f : List Int) (r : Rd) (_ : rdW 32 rd = (f, r)) (W : World) (a : Int), Ext0 w0 W → AtR xs a rd → Calls Tryz.prog 42 #[v, .int .i64 a, .int .i64 32] W (WordK xs (strOfNums f) r W) := fun rd f r hr W a hE ha => by
    have := word_any v xs a rd W (hv.keep hE) hx hl ha
    unfold WordE at this
    rw [hr] at this
    exact this
  obtain ⟨n1, r1, h1⟩ : ∃ x y, rdN (some xs) = (x, y) := ⟨_, _, rfl⟩
  have hN1 := fun {W : World} {a : Int} => hnum (some xs) n1 r1 h1 W a
  have ha : AtR xs 0 (some xs) := .inr ⟨0, rfl, Nat.zero_le _, by simp⟩
  have HV := Lib.hid (And.intro hv (And.intro hx (And.intro hl h1)))
  have HNUM := Lib.hid hnum
  have HWORD := Lib.hid hword
  obtain ⟨A, cap, rfl, _⟩ := hv.len
  clear hv hx hl hnum hword h1
  go_enter Tryz.func14, Tryz.ntmps14
  go_upto_region 2 with (first
    | (go_at_call 41; refine (hN1 H.ext ha).mono ?_; clear ha; rintro e w9 ⟨a, rfl, ha, hw9⟩; replace hw9 := hw9.symm; subst hw9))
  clear hN1
  have hno : (r1 = none ∨ n1 < 0 ∨ 12 < n1) → ∀ es, ¬ DecOk xs es := fun hc es ⟨n, r, h, ha, hb, h2, _⟩ => by
    rw [HV.out.2.2.2] at h
    cases h
    rcases hc with rfl | hc | hc
    · have := congrArg (·.2) h2
      simp only [rdEnts_none] at this
      cases this
    · omega
    · omega
  have HNO := Lib.hid hno
  clear hno
  rcases ha with ⟨rfl, hr1⟩ | ⟨k, rfl, hk, hr1⟩
  · have HNO2 := Lib.hid (HNO.out (.inl hr1))
    clear hr1
    go_wp2_with fail
    go_ret2
    exact ⟨.inr ⟨HNO2.out, rfl⟩, H.ext⟩
  have hk0 : ¬ (k : Int) < 0 := by omega
  by_cases hbad : n1 < 0 ∨ 12 < n1
  · have HNO2 := Lib.hid (HNO.out (.inr hbad))
    clear hk hr1
    rcases hbad with hb | hb
    · go_wp2_with fail
      go_ret2
      exact ⟨.inr ⟨HNO2.out, rfl⟩, H.ext⟩
    · have hb2 : ¬ n1 < 0 := by omega
      go_wp2_with fail
      go_ret2
      exact ⟨.inr ⟨HNO2.out, rfl⟩, H.ext⟩
  have ha : AtR xs (k : Int) r1 := .inr ⟨k, rfl, hk, hr1⟩
  clear hk hr1
  obtain ⟨n, rfl⟩ := Int.eq_ofNat_of_zero_le (show 0 ≤ n1 by omega)
  have hn12 : n ≤ 12 := by omega
  have hA : ¬ (n : Int) < 0 := by omega
  have hB : ¬ 12 < (n : Int) := by omega
  clear hbad
  go_wp2_with fail
  replace H := (H.alloc (.cells #[] 39)).toOwn 0 rfl 6 0 0 (Nat.le_refl _) (Nat.zero_le _) rfl [] rfl
  simp only [List.set_cons_zero] at H
  go_loopw [5, 6, 7] (fun va s6 vi wr => RDecRelC xs n r1 w0 va s6 vi wr) (fun _ _ vi _ => n - (intOf vi).toNat)
  case atStart => exact ⟨0, _, [], r1, rfl, ha, rfl, by omega, Lib.hid ⟨rfl, rfl, by simp⟩, H⟩
  case round =>
    clear H hA hB ha hk0
    obtain ⟨j, a, ps, rd, rfl, ha, rfl, hj12, HP, H⟩ := hrel
    by_cases hjn : j < n
    · have hji : (j : Int) < (n : Int) := by omega
      obtain ⟨f, q0, hq0⟩ : ∃ x y, rdW 32 rd = (x, y) := ⟨_, _, rfl⟩
      have hT := fun {W : World} {a : Int} => HWORD.out rd f q0 hq0 W a
      obtain ⟨b1, q1, hq1⟩ : ∃ x y, rdN q0 = (x, y) := ⟨_, _, rfl⟩
      have hI1 := fun {W : World} {a : Int} => HNUM.out q0 b1 q1 hq1 W a
      obtain ⟨b2, q2, hq2⟩ : ∃ x y, rdN q1 = (x, y) := ⟨_, _, rfl⟩
      have hI2 := fun {W : World} {a : Int} => HNUM.out q1 b2 q2 hq2 W a
      obtain ⟨b3, q3, hq3⟩ : ∃ x y, rdN q2 = (x, y) := ⟨_, _, rfl⟩
      have hI3 := fun {W : World} {a : Int} => HNUM.out q2 b3 q3 hq3 W a
      obtain ⟨b4, q4, hq4⟩ : ∃ x y, rdN q3 = (x, y) := ⟨_, _, rfl⟩
      have hI4 := fun {W : World} {a : Int} => HNUM.out q3 b4 q4 hq4 W a
      obtain ⟨b5, q5, hq5⟩ : ∃ x y, rdN q4 = (x, y) := ⟨_, _, rfl⟩
      have hI5 := fun {W : World} {a : Int} => HNUM.out q4 b5 q5 hq5 W a
      have hent : rdEnt rd = (⟨strOfNums f, b1, b2, b3, b4, b5⟩, q5) := by
        unfold rdEnt
        simp only [hq0, hq1, hq2, hq3, hq4, hq5]
      have hfit : Fit6 ⟨strOfNums f, b1, b2, b3, b4, b5⟩ := by
        have h0 := rdW_len rd
        have h4 := rdN_rng q3
        have h5 := rdN_rng q4
        rw [hq0] at h0
        rw [hq4] at h4
        rw [hq5] at h5
        exact ⟨by rw [strOfNums_size]; exact h0, h4, h5⟩
      have hrb2 : rdEnts (j + 1) r1 = (ps ++ [⟨strOfNums f, b1, b2, b3, b4, b5⟩], q5) := by
        rw [rdEnts_succ, HP.out.2.1, hent]
      have HRB := Lib.hid (And.intro hrb2 hfit)
      clear hent hrb2 hfit hq0 hq1 hq2 hq3 hq4 hq5
      generalize strOfNums f = fs at *
      have hb1' : (j + 1) * 56 ≤ 140737488355328 := by omega
      have hm1' : j + 1 ≤ maxLen := by simp only [maxLen]; omega
      go_wp2_with (first
        | (refine L_alloc rfl rfl H Tryz.zeroValue39 ?_; clear H; intro g8 w H; simp only [Value.cells] at H; (try simp only [Act.put, List.setIfInBounds_toArray, List.set_cons_succ, List.set_cons_zero, List.getElem_toArray, List.getElem_cons_succ, List.getElem_cons_zero]))
        | (go_at_call 42; go_loud (refine (hT H.ext ha).mono ?_); clear ha; rintro e w9 ⟨a, rfl, ha, hE⟩; replace H := H.calls hE; clear hE)
        | (go_at_call 41; refine (hI1 H.ext ha).mono ?_; clear ha; rintro e w9 ⟨a, rfl, ha, hw9⟩; replace hw9 := hw9.symm; subst hw9) | (go_at_call 41; refine (hI2 H.ext ha).mono ?_; clear ha; rintro e w9 ⟨a, rfl, ha, hw9⟩; replace hw9 := hw9.symm; subst hw9) | (go_at_call 41; refine (hI3 H.ext ha).mono ?_; clear ha; rintro e w9 ⟨a, rfl, ha, hw9⟩; replace hw9 := hw9.symm; subst hw9) | (go_at_call 41; refine (hI4 H.ext ha).mono ?_; clear ha; rintro e w9 ⟨a, rfl, ha, hw9⟩; replace hw9 := hw9.symm; subst hw9) | (go_at_call 41; refine (hI5 H.ext ha).mono ?_; clear ha; rintro e w9 ⟨a, rfl, ha, hw9⟩; replace hw9 := hw9.symm; subst hw9)
        | (refine L_store1 rfl rfl H 0 rfl rfl rfl rfl rfl (Nat.le_of_ble_eq_true rfl) Tryz.sizeOf3 ?_; clear H; intro w H; simp only [List.set_cons_zero, List.set_cons_succ, List.setIfInBounds_toArray, Act.eval, Array.getD_eq_getD_getElem?, List.getElem?_toArray, List.getElem?_cons_succ, List.getElem?_cons_zero, Option.getD_some] at H; (try simp only [Act.put, List.setIfInBounds_toArray, List.set_cons_succ, List.set_cons_zero, List.getElem_toArray, List.getElem_cons_succ, List.getElem_cons_zero])) | (refine L_store1 rfl rfl H 0 rfl rfl rfl rfl rfl (Nat.le_of_ble_eq_true rfl) Tryz.sizeOf9 ?_; clear H; intro w H; simp only [List.set_cons_zero, List.set_cons_succ, List.setIfInBounds_toArray, Act.eval, Array.getD_eq_getD_getElem?, List.getElem?_toArray, List.getElem?_cons_succ, List.getElem?_cons_zero, Option.getD_some] at H; (try simp only [Act.put, List.setIfInBounds_toArray, List.set_cons_succ, List.set_cons_zero, List.getElem_toArray, List.getElem_cons_succ, List.getElem_cons_zero]))
        | (refine L_storerow rfl rfl H 0 rfl rfl rfl info39 rfl rfl (oneE _ _ _ _ _ _) ?_; clear H; intro w H; simp only [List.set_cons_zero] at H; (try simp only [Act.put, List.setIfInBounds_toArray, List.set_cons_succ, List.set_cons_zero, List.getElem_toArray, List.getElem_cons_succ, List.getElem_cons_zero]))
        | (refine L_loadrow rfl rfl H 0 rfl rfl Tryz.underlying39 rfl info39 rfl ?_; (try simp only [Act.put, List.setIfInBounds_toArray, List.set_cons_succ, List.set_cons_zero, List.getElem_toArray, List.getElem_cons_succ, List.getElem_cons_zero]))
        | (refine L_litE (e := 39) (cs := #[.string fs, .int .i64 b1, .int .i64 b2, .int .i64 b3, .int .i64 b4, .int .i64 b5]) rfl rfl H (by intro _; first | (go_simp; done) | (go_simp; rfl)) ?_; clear H; intro gl w H hEx; clear hEx)
        | (refine L_append eLen eOne rfl rfl Tryz.underlying22 infoEZ rfl (by decide) H 2 rfl rfl rfl (oneEnt ⟨fs, b1, b2, b3, b4, b5⟩ (H.at_ 0 rfl)) hb1' hm1' ?_; clear H; intro v2 w H hnn; clear hnn; simp only [List.set_cons_succ, List.set_cons_zero] at H))
      go_roundw
      case rel =>
        refine ⟨j + 1, _, ps ++ [⟨fs, b1, b2, b3, b4, b5⟩], q5, rfl, ha, by go_num, by omega, Lib.hid ⟨by rw [List.length_append, HP.out.1]; rfl, HRB.out.1, fun p hp => ?_⟩, by rw [cellsOf_append]; exact H.drop (List.Sublist.cons _ (List.Sublist.cons _ (List.Sublist.refl _)))⟩
        rcases List.mem_append.1 hp with hp | hp
        · exact HP.out.2.2 p hp
        · rw [List.mem_singleton.1 hp]
          exact HRB.out.2
      case measure => simp [intOf]; omega
    · obtain ⟨Abv, cbv, rfl⟩ := own_slice (H.get 0 rfl)
      obtain rfl : j = n := by omega
      have hjn2 : ¬ ((j : Int) < (j : Int)) := by omega
      have henc := fun {W : World} (hb : RdS eCells 6 W (.slice Abv j cbv) ps) => refEncodeC_any _ ps W hb (by have := HP.out.1; omega) (fit_path HP.out.2.2)
      have hokk : ∀ es, DecOk xs es → es = ps ∧ rd = some [] ∧ CatGood ps ∧ encCat ps = xs := fun es ⟨n, r, h, ha, hb, h2, h3, h4⟩ => by
        rw [HV.out.2.2.2] at h
        cases h
        rw [Int.toNat_natCast, HP.out.2.1] at h2
        cases h2
        exact ⟨rfl, rfl, h3, h4⟩
      have hyes : rd = some [] → CatGood ps → encCat ps = xs → DecOk xs ps := fun h1 h2 h3 => ⟨_, _, HV.out.2.2.2, by omega, by omega, by rw [Int.toNat_natCast, HP.out.2.1, h1], h2, h3⟩
      have HK := Lib.hid (And.intro hokk hyes)
      have HAT := Lib.hid ha
      clear hokk hyes ha
      go_upto_region 17 with (first
        | (go_at_call 9; refine (henc (RdS.own eLen HP.out.1.symm (H.get 0 rfl))).mono ?_; rintro e w ⟨hg, hE2⟩; rcases hg with ⟨hgood, v2, rfl, hv2⟩ | ⟨hgood, rfl⟩; all_goals (replace H := H.calls hE2; clear hE2)))
      · have HG := Lib.hid hgood
        clear hgood henc
        by_cases hae : a = (xs.length : Int)
        · have HRD := Lib.hid (HAT.out.atEnd hae)
          subst hae
          have hcv1 := run_string (src := 23) (dst := 9) hv2 Tryz.underlying23 Tryz.underlying5 Tryz.underlying9
          have hcv2 := run_string (src := 23) (dst := 9) (HV.out.1.keep H.ext) Tryz.underlying23 Tryz.underlying5 Tryz.underlying9
          have hetb := encCat_bytes ps
          have heq : ((strOfNums (encCat ps)).toList == (strOfNums xs).toList) = decide (encCat ps = xs) := by
            by_cases hq : encCat ps = xs
            · simp [hq]
            · have : (strOfNums (encCat ps)).toList ≠ (strOfNums xs).toList := fun h => hq (str_inj hetb HV.out.2.1 h)
              simp [hq, this]
          by_cases hq : encCat ps = xs
          · have HY := Lib.hid (HK.out.2 HRD.out HG.out hq)
            rw [hq] at hcv1
            generalize strOfNums xs = sx at hcv1 hcv2
            clear heq hetb hq
            go_wp2_with fail
            go_ret2
            exact ⟨.inl ⟨ps, _, HY.out, rfl, RdS.own eLen HP.out.1.symm (H.get 0 rfl)⟩, H.ext⟩
          · have HNO3 := Lib.hid (show ∀ es, ¬ DecOk xs es from fun es h => hq (HK.out.1 es h).2.2.2)
            rw [decide_eq_false hq] at heq
            generalize strOfNums xs = sx at hcv2 heq
            generalize strOfNums (encCat ps) = se at hcv1 heq
            clear hetb hq
            go_wp2_with fail
            go_ret2
            exact ⟨.inr ⟨HNO3.out, rfl⟩, H.ext⟩
        · have hrd := HAT.out.notEnd hae
          have HNO3 := Lib.hid (show ∀ es, ¬ DecOk xs es from fun es h => hrd (HK.out.1 es h).2.1)
          have hae2 : (a == (xs.length : Int)) = false := by simp [hae]
          clear hrd
          go_wp2_with fail
          go_ret2
          exact ⟨.inr ⟨HNO3.out, rfl⟩, H.ext⟩
      · have HNO3 := Lib.hid (show ∀ es, ¬ DecOk xs es from fun es h => hgood (HK.out.1 es h).2.2.1)
        clear hgood henc
        go_wp2_with fail
        go_ret2
        exact ⟨.inr ⟨HNO3.out, rfl⟩, H.ext⟩
end Go.Proofs.YtmfcccflohpjiaaGreatDoor
