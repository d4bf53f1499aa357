/- Names of files: the document's answer walked. -/
import Derived.Test.YtmfcccflohpjiaaGreatDoorCatPA
import Derived.Shelf.Strings.Prefix
import Derived.Deep.RegionWith
namespace Go.Proofs.YtmfcccflohpjiaaGreatDoor.Pth
set_option linter.unusedVariables false
set_option linter.unusedSimpArgs false
open Go.RowKit Go.Shelf

def prefixL_ren : Go.Shelf.Ren := ⟨fun | 99 => 53 | 206 => 62 | n => n, fun | 9 => 9 | 4 => 4 | 3 => 3 | n => n, fun | n => n⟩
theorem prefixL : Go.Proofs.Lays.n99 Tryz.prog prefixL_ren where
  mixed := by kernel_rfl
  f99 := Tryz.func53.trans (congrArg some (by kernel_rfl))
  f206 := Tryz.func62.trans (congrArg some (by kernel_rfl))
  t3 := Tryz.underlying3
  a3 := Tryz.isAgg3
  z3 := Tryz.sizeOf3
  v3 := Tryz.zeroValue3
  t4 := Tryz.underlying4
  a4 := Tryz.isAgg4
  z4 := Tryz.sizeOf4
  v4 := Tryz.zeroValue4
  t9 := Tryz.underlying9
  a9 := Tryz.isAgg9
  z9 := Tryz.sizeOf9
  v9 := Tryz.zeroValue9

theorem encB_len (l : List UInt8) : (encB l).length = 1 := rfl
theorem encB_one (l : List UInt8) : ∀ u ∈ encB l, u.oneCell' = true := by intro u hu; simp [encB] at hu; subst hu; rfl
theorem info9 : (Tryz.prog.info? 9).map (fun i => (i.zero, i.size, i.bytes)) = some (some (.string ByteArray.empty), 1, 16) := by kernel_rfl
theorem oneB {w : World} {g : Nat} {T : TypeId} {fr : Nat × Nat} {s : ByteArray} (hg : w.heap[g]? = some (.cells #[.string s] T fr)) : RdS encB 1 w (.slice (some ⟨g, 0, none⟩) 1 1) [lst s] :=
  ⟨_, 1, rfl, Nat.le_refl _, .inr ⟨g, 0, _, T, fr, rfl, hg, fun j hj i hi => by
    obtain rfl : i = 0 := by omega
    obtain rfl : j = 0 := by simp at hj; omega
    simp [encB, bs_lst]⟩⟩

/-- Behind so many bytes. -/
def RefAt (s : ByteArray) (ps : List (List UInt8)) (f i : Nat) : Prop :=
  f ≤ i ∧ ps.length ≤ i ∧ ((i ≤ s.size ∧ refGo [] (lst s) = (refGo (((lst s).drop f).take (i - f)) ((lst s).drop i)).map (ps ++ ·)) ∨ (i = s.size + 1 ∧ refGo [] (lst s) = some ps))
theorem RefAt.start (s : ByteArray) : RefAt s [] 0 0 := ⟨Nat.le_refl _, Nat.le_refl _, .inl ⟨Nat.zero_le _, by simp⟩⟩
theorem lst_len (s : ByteArray) : (lst s).length = s.size := Array.length_toList
theorem RefAt.bad {s : ByteArray} {ps : List (List UInt8)} {f i : Nat} (h : RefAt s ps f i) (hi : i < s.size) {c : UInt8} (hc : (lst s)[i]? = some c) (h47 : c ≠ 47) (hb : badB c = true) : refGo [] (lst s) = none := by
  obtain ⟨_, _, ⟨_, h⟩ | ⟨h, _⟩⟩ := h
  · have hl : i < (lst s).length := by rw [lst_len]; exact hi
    rw [h, List.drop_eq_getElem_cons hl, refGo]
    rw [List.getElem?_eq_getElem hl] at hc
    rw [Option.some.inj hc, if_neg h47, if_pos hb]
    rfl
  · omega
theorem RefAt.next {s : ByteArray} {ps : List (List UInt8)} {f i : Nat} (h : RefAt s ps f i) (hi : i < s.size) {c : UInt8} (hc : (lst s)[i]? = some c) (h47 : c ≠ 47) (hb : badB c = false) : RefAt s ps f (i + 1) := by
  obtain ⟨h1, h2, ⟨_, h⟩ | ⟨h, _⟩⟩ := h
  · refine ⟨by omega, by omega, .inl ⟨hi, ?_⟩⟩
    have hl : i < (lst s).length := by rw [lst_len]; exact hi
    rw [List.getElem?_eq_getElem hl] at hc
    rw [h, List.drop_eq_getElem_cons hl, refGo, Option.some.inj hc, if_neg h47, if_neg (by simp [hb])]
    congr 2
    rw [show i + 1 - f = (i - f) + 1 by omega, List.take_add_one, List.getElem?_drop, show f + (i - f) = i by omega, List.getElem?_eq_getElem hl, Option.some.inj hc]
    rfl
  · omega
/-- At a part's end. -/
theorem RefAt.ends {s : ByteArray} {ps : List (List UInt8)} {f i : Nat} (h : RefAt s ps f i) (hi : i ≤ s.size) (hc : i < s.size → (lst s)[i]? = some 47) {p : List UInt8} (hp : ((lst s).drop f).take (i - f) = p) (hne : (p.isEmpty || p == [46] || p == [46, 46]) = false) : RefAt s (ps ++ [p]) (i + 1) (i + 1) := by
  obtain ⟨h1, h2, ⟨_, h⟩ | ⟨h, _⟩⟩ := h
  · refine ⟨by omega, by simp; omega, ?_⟩
    by_cases hl : i < s.size
    · left
      refine ⟨hl, ?_⟩
      have hl2 : i < (lst s).length := by rw [lst_len]; exact hl
      have hc := hc hl
      rw [List.getElem?_eq_getElem hl2] at hc
      rw [h, List.drop_eq_getElem_cons hl2, Option.some.inj hc, hp, refGo, if_pos rfl, hne]
      simp [Function.comp_def]
    · right
      refine ⟨by omega, ?_⟩
      rw [h, hp, List.drop_eq_nil_of_le (by rw [lst_len]; omega), refGo, hne]
      rfl
  · omega
theorem RefAt.none {s : ByteArray} {ps : List (List UInt8)} {f i : Nat} (h : RefAt s ps f i) (hi : i ≤ s.size) (hc : i < s.size → (lst s)[i]? = some 47) {p : List UInt8} (hp : ((lst s).drop f).take (i - f) = p) (hne : (p.isEmpty || p == [46] || p == [46, 46]) = true) : refGo [] (lst s) = none := by
  obtain ⟨h1, h2, ⟨_, h⟩ | ⟨h, _⟩⟩ := h
  · by_cases hl : i < s.size
    · have hl2 : i < (lst s).length := by rw [lst_len]; exact hl
      have hc := hc hl
      rw [List.getElem?_eq_getElem hl2] at hc
      rw [h, List.drop_eq_getElem_cons hl2, Option.some.inj hc, hp, refGo, if_pos rfl, hne]
      rfl
    · rw [h, hp, List.drop_eq_nil_of_le (by rw [lst_len]; omega), refGo, hne]
      rfl
  · omega
theorem RefAt.all {s : ByteArray} {ps : List (List UInt8)} {f i : Nat} (h : RefAt s ps f i) (hi : ¬ i ≤ s.size) : refGo [] (lst s) = some ps := by
  obtain ⟨h1, h2, ⟨h, _⟩ | ⟨_, h⟩⟩ := h
  · exact absurd h hi
  · exact h

theorem badB_iff (c : UInt8) : badB c = true ↔ ((c.toNat : Int) ≤ 32 ∨ 126 < (c.toNat : Int) ∨ (c.toNat : Int) = 92 ∨ (c.toNat : Int) = 58 ∨ (c.toNat : Int) = 42 ∨ (c.toNat : Int) = 63) := by
  rw [← badR_byte]
  simp only [badR, Bool.or_eq_true, decide_eq_true_eq, beq_iff_eq]
  omega

def RefRel (s : ByteArray) (w0 : World) (vo vf vi : Value) (wr : World) : Prop :=
  ∃ (ps : List (List UInt8)) (f i : Nat), vf = .int .i64 (f : Int) ∧ vi = .int .i64 (i : Int) ∧ Hid (RefAt s ps f i) ∧ f ≤ i ∧ ps.length ≤ i ∧ i ≤ s.size + 1 ∧ SH (fun _ => False) w0 wr [ownA 9 1 vo ps.length (cellsOf encB ps)]

set_option maxRecDepth 100000 in
set_option maxHeartbeats 2000000 in
theorem refParts_any (s : ByteArray) (w0 : World) (hs : s.size < 4294967281) : Calls Tryz.prog 64 #[.string s] w0 fun e w' => (∃ v, e = .returned v ∧ RdS encB 1 w' v (partsL (lst s))) ∧ Ext0 w0 w' := by
  have H : SH (fun _ => False) w0 w0 [] := SH.nil _ _
  have hpr : partsL (lst s) = if 32 < s.size then [] else (refGo [] (lst s)).getD [] := by rw [parts_ref, lst_len]
  have HP := Lib.hid hpr
  clear hpr
  go_enter Tryz.func64, Tryz.ntmps64
  go_wp2_with (first | (refine L_lit (e := ?_) (cs := ?_) rfl rfl H ?_ ?_; rotate_left 2; (focus (intro _; first | (go_simp; done) | (go_simp; with_reducible rfl) | (go_simp; rfl))); all_goals skip; clear H; intro g w H; (try simp only [Act.put, List.setIfInBounds_toArray, List.set_cons_succ, List.set_cons_zero, List.getElem_toArray, List.getElem_cons_succ, List.getElem_cons_zero])))
  replace H := H.toOwn 0 rfl 1 0 0 (Nat.le_refl _) (Nat.zero_le _) rfl [] rfl
  simp only [List.set_cons_zero] at H
  go_loopw [3, 4, 5, 6, 7] (fun vo vf vi _ _ wr => RefRel s w0 vo vf vi wr) (fun _ _ vi _ _ _ => s.size + 1 - (intOf vi).toNat)
  case atStart => exact ⟨[], 0, 0, rfl, rfl, Lib.hid (RefAt.start s), Nat.le_refl _, Nat.zero_le _, Nat.zero_le _, H⟩
  case round =>
    clear H
    obtain ⟨ps, f, i, rfl, rfl, HA, hfi, hpi, hin, H⟩ := hrel
    have hps : ps.length ≤ 4294967281 := by omega
    by_cases hi : i ≤ s.size
    · have hi' : (i : Int) ≤ (s.size : Int) := by omega
      have hex : lst (s.extract f i) = ((lst s).drop f).take (i - f) := by
        exact Lib.extract_data s f i
      obtain ⟨pt, hpt⟩ : ∃ pt, lst (s.extract f i) = pt := ⟨_, rfl⟩
      have hq2 : ∀ q, (pt.isEmpty || pt == [46] || pt == [46, 46]) = q → ((s.extract f i).toList.isEmpty || (s.extract f i).toList == [46] || (s.extract f i).toList == [46, 46]) = q := fun q h => by rw [Go.ByteArray.toList_eq, show (s.extract f i).data.toList = pt from hpt]; exact h
      have HL := Lib.hid hpt
      have HL2 := Lib.hid (hex.symm.trans hpt)
      clear hex hpt
      have hnb : (ps.length + [pt].length) * 16 ≤ 140737488355328 := by simp only [List.length_cons, List.length_nil]; omega
      have hnm : ps.length + [pt].length ≤ maxLen := by simp only [maxLen, List.length_cons, List.length_nil]; omega
      by_cases hl : i < s.size
      · have hl' : (i : Int) < (s.size : Int) := by omega
        have hc : (lst s)[i]? = some s[i] := by
          rw [List.getElem?_eq_getElem (by rw [lst_len]; exact hl)]
          rfl
        by_cases h47 : s[i] = 47
        · have h47' : (s[i].toNat : Int) = 47 := by rw [h47]; rfl
          have HE := Lib.hid (fun (_ : i < s.size) => h47 ▸ hc)
          clear hc h47
          cases hq : (pt.isEmpty || pt == [46] || pt == [46, 46])
          · have HQ2 := Lib.hid (hq2 _ hq)
            have HQ := Lib.hid hq
            clear hq hq2
            go_wp2_with (first
              | (refine L_lit (e := ?_) (cs := ?_) rfl rfl H ?_ ?_; rotate_left 2; (focus (intro _; first | (go_simp; done) | (go_simp; with_reducible rfl) | (go_simp; rfl))); all_goals skip; clear H; intro g w H; (try simp only [Act.put, List.setIfInBounds_toArray, List.set_cons_succ, List.set_cons_zero, List.getElem_toArray, List.getElem_cons_succ, List.getElem_cons_zero]))
              | (refine L_append encB_len encB_one rfl rfl Tryz.underlying81 info9 rfl (Nat.le_refl _) H 1 rfl rfl rfl (oneB (H.at_ 0 rfl)) hnb hnm ?_; clear H; intro v w H hnn))
            all_goals first
              | (go_ret
                 exact ⟨⟨_, rfl, by rw [HP.out, HA.out.none hi HE.out HL2.out HQ.out]; simpa using RdS.nil _ _ _⟩, H.ext⟩)
              | (exfalso; have := HQ2.out; simp_all; done)
              | (simp only [List.set_cons_succ, List.set_cons_zero] at H
                 have H2 := H.drop (List.sublist_cons_self _ _)
                 rw [HL.out, ← cellsOf_append] at H2
                 refine ⟨⟨ps ++ [pt], i + 1, i + 1, by go_num, by go_num, Lib.hid (HA.out.ends hi HE.out HL2.out HQ.out), Nat.le_refl _, by simp; omega, by omega, by simpa using H2⟩, ?_⟩
                 simp [intOf]; omega)
          · have HQ2 := Lib.hid (hq2 _ hq)
            have HQ := Lib.hid hq
            clear hq hq2
            go_wp2_with (first
              | (refine L_lit (e := ?_) (cs := ?_) rfl rfl H ?_ ?_; rotate_left 2; (focus (intro _; first | (go_simp; done) | (go_simp; with_reducible rfl) | (go_simp; rfl))); all_goals skip; clear H; intro g w H; (try simp only [Act.put, List.setIfInBounds_toArray, List.set_cons_succ, List.set_cons_zero, List.getElem_toArray, List.getElem_cons_succ, List.getElem_cons_zero]))
              | (refine L_append encB_len encB_one rfl rfl Tryz.underlying81 info9 rfl (Nat.le_refl _) H 1 rfl rfl rfl (oneB (H.at_ 0 rfl)) hnb hnm ?_; clear H; intro v w H hnn))
            all_goals first
              | (go_ret
                 exact ⟨⟨_, rfl, by rw [HP.out, HA.out.none hi HE.out HL2.out HQ.out]; simpa using RdS.nil _ _ _⟩, H.ext⟩)
              | (exfalso; have := HQ2.out; simp_all; done)
              | (simp only [List.set_cons_succ, List.set_cons_zero] at H
                 have H2 := H.drop (List.sublist_cons_self _ _)
                 rw [HL.out, ← cellsOf_append] at H2
                 refine ⟨⟨ps ++ [pt], i + 1, i + 1, by go_num, by go_num, Lib.hid (HA.out.ends hi HE.out HL2.out HQ.out), Nat.le_refl _, by simp; omega, by omega, by simpa using H2⟩, ?_⟩
                 simp [intOf]; omega)
        · have h47' : ¬ (s[i].toNat : Int) = 47 := fun e => h47 (UInt8.toNat_inj.1 (by show s[i].toNat = 47; omega))
          have HC := Lib.hid (And.intro hc h47)
          clear hc h47 hq2
          cases hb : badB s[i]
          · have HB := Lib.hid (show (badB s[i] = false) ∧ ¬ ((s[i].toNat : Int) ≤ 32 ∨ 126 < (s[i].toNat : Int) ∨ (s[i].toNat : Int) = 92 ∨ (s[i].toNat : Int) = 58 ∨ (s[i].toNat : Int) = 42 ∨ (s[i].toNat : Int) = 63) from ⟨hb, fun h => by rw [(badB_iff _).2 h] at hb; cases hb⟩)
            clear hb
            go_wp2
            all_goals first
              | (exfalso; have := HB.out.2; (try simp only [beq_iff_eq, beq_eq_false_iff_ne, ne_eq] at *); omega)
              | (refine ⟨⟨ps, f, i + 1, by go_num, by go_num, Lib.hid (HA.out.next hl HC.out.1 HC.out.2 HB.out.1), by omega, by omega, by omega, H⟩, ?_⟩
                 simp [intOf]; omega)
          · have HB := Lib.hid (show (badB s[i] = true) ∧ ((s[i].toNat : Int) ≤ 32 ∨ 126 < (s[i].toNat : Int) ∨ (s[i].toNat : Int) = 92 ∨ (s[i].toNat : Int) = 58 ∨ (s[i].toNat : Int) = 42 ∨ (s[i].toNat : Int) = 63) from ⟨hb, (badB_iff _).1 hb⟩)
            clear hb
            go_wp2
            all_goals first
              | (go_ret
                 exact ⟨⟨_, rfl, by rw [HP.out, HA.out.bad hl HC.out.1 HC.out.2 HB.out.1]; simpa using RdS.nil _ _ _⟩, H.ext⟩)
              | (exfalso; have := HB.out.2; (try simp only [beq_iff_eq, beq_eq_false_iff_ne, ne_eq] at *); omega)
      · have hl' : ¬ (i : Int) < (s.size : Int) := by omega
        have HE : Hid (i < s.size → (lst s)[i]? = some 47) := Lib.hid (fun h => absurd h hl)
        cases hq : (pt.isEmpty || pt == [46] || pt == [46, 46])
        · have HQ2 := Lib.hid (hq2 _ hq)
          have HQ := Lib.hid hq
          clear hq hq2
          go_wp2_with (first
            | (refine L_lit (e := ?_) (cs := ?_) rfl rfl H ?_ ?_; rotate_left 2; (focus (intro _; first | (go_simp; done) | (go_simp; with_reducible rfl) | (go_simp; rfl))); all_goals skip; clear H; intro g w H; (try simp only [Act.put, List.setIfInBounds_toArray, List.set_cons_succ, List.set_cons_zero, List.getElem_toArray, List.getElem_cons_succ, List.getElem_cons_zero]))
            | (refine L_append encB_len encB_one rfl rfl Tryz.underlying81 info9 rfl (Nat.le_refl _) H 1 rfl rfl rfl (oneB (H.at_ 0 rfl)) hnb hnm ?_; clear H; intro v w H hnn))
          all_goals first
            | (go_ret
               exact ⟨⟨_, rfl, by rw [HP.out, HA.out.none hi HE.out HL2.out HQ.out]; simpa using RdS.nil _ _ _⟩, H.ext⟩)
            | (exfalso; have := HQ2.out; simp_all; done)
            | (simp only [List.set_cons_succ, List.set_cons_zero] at H
               have H2 := H.drop (List.sublist_cons_self _ _)
               rw [HL.out, ← cellsOf_append] at H2
               refine ⟨⟨ps ++ [pt], i + 1, i + 1, by go_num, by go_num, Lib.hid (HA.out.ends hi HE.out HL2.out HQ.out), Nat.le_refl _, by simp; omega, by omega, by simpa using H2⟩, ?_⟩
               simp [intOf]; omega)
        · have HQ2 := Lib.hid (hq2 _ hq)
          have HQ := Lib.hid hq
          clear hq hq2
          go_wp2_with (first
            | (refine L_lit (e := ?_) (cs := ?_) rfl rfl H ?_ ?_; rotate_left 2; (focus (intro _; first | (go_simp; done) | (go_simp; with_reducible rfl) | (go_simp; rfl))); all_goals skip; clear H; intro g w H; (try simp only [Act.put, List.setIfInBounds_toArray, List.set_cons_succ, List.set_cons_zero, List.getElem_toArray, List.getElem_cons_succ, List.getElem_cons_zero]))
            | (refine L_append encB_len encB_one rfl rfl Tryz.underlying81 info9 rfl (Nat.le_refl _) H 1 rfl rfl rfl (oneB (H.at_ 0 rfl)) hnb hnm ?_; clear H; intro v w H hnn))
          all_goals first
            | (go_ret
               exact ⟨⟨_, rfl, by rw [HP.out, HA.out.none hi HE.out HL2.out HQ.out]; simpa using RdS.nil _ _ _⟩, H.ext⟩)
            | (exfalso; have := HQ2.out; simp_all; done)
            | (simp only [List.set_cons_succ, List.set_cons_zero] at H
               have H2 := H.drop (List.sublist_cons_self _ _)
               rw [HL.out, ← cellsOf_append] at H2
               refine ⟨⟨ps ++ [pt], i + 1, i + 1, by go_num, by go_num, Lib.hid (HA.out.ends hi HE.out HL2.out HQ.out), Nat.le_refl _, by simp; omega, by omega, by simpa using H2⟩, ?_⟩
               simp [intOf]; omega)
    · have hi' : ¬ (i : Int) ≤ (s.size : Int) := by omega
      have hall := HA.out.all hi
      rw [hall] at HP
      by_cases h32 : 32 < s.size
      · have h32' : (32 : Int) < (s.size : Int) := by omega
        go_wp2
        go_ret
        exact ⟨⟨_, rfl, by rw [HP.out, if_pos h32]; exact RdS.nil _ _ _⟩, H.ext⟩
      · have h32' : ¬ (32 : Int) < (s.size : Int) := by omega
        go_wp2
        go_ret
        exact ⟨⟨_, rfl, by rw [HP.out, if_neg h32]; exact RdS.own encB_len rfl (H.get 0 rfl)⟩, H.ext⟩

/-! Good, Under. -/
set_option maxHeartbeats 1000000 in
theorem good_any (s : ByteArray) (w : World) (hs : s.size < 4294967281) (hm : ML w) : Calls Tryz.prog 52 #[.string s] w fun e w' => e = .returned (.bool (goodL (lst s))) ∧ Ext0 w w' := by
  have hp := parts_any s w hs hm
  have HG := Lib.hid (show goodL (lst s) = !(partsL (lst s)).isEmpty from rfl)
  generalize goodL (lst s) = q at HG ⊢
  generalize partsL (lst s) = ps at hp HG
  go_enter Tryz.func52, Tryz.ntmps52
  go_wp2_with (go_at_call 61; refine hp.mono ?_; rintro e w' ⟨⟨v, rfl, ⟨hps, rfl⟩ | ⟨hps, b, T, fr, rfl, hb⟩⟩, H⟩)
  · go_ret
    exact ⟨by rw [HG.out, hps]; rfl, H⟩
  · go_ret
    refine ⟨?_, H⟩
    rw [HG.out]
    cases ps with
    | nil => exact absurd rfl hps
    | cons p r => rfl
set_option maxHeartbeats 1000000 in
theorem refGood_any (s : ByteArray) (w : World) (hs : s.size < 4294967281) : Calls Tryz.prog 55 #[.string s] w fun e w' => e = .returned (.bool (goodL (lst s))) ∧ Ext0 w w' := by
  have hp := refParts_any s w hs
  have HG := Lib.hid (parts_good (lst s))
  generalize goodL (lst s) = q at HG ⊢
  generalize partsL (lst s) = ps at hp HG
  go_enter Tryz.func55, Tryz.ntmps55
  go_wp2_with (go_at_call 64; refine hp.mono ?_; rintro e w' ⟨⟨v, rfl, ⟨A, cap, rfl, hc, hr⟩⟩, H⟩)
  go_ret
  exact ⟨by rw [HG.out]; simp, H⟩

theorem hasPrefix_any (s p : ByteArray) (w : World) : Calls Tryz.prog 53 #[.string s, .string p] w fun e w' => e = .returned (.bool ((lst p).isPrefixOf (lst s))) ∧ w' = w := Any.strings_HasPrefix prefixL s p w
set_option maxHeartbeats 1000000 in
theorem under_any (s t : ByteArray) (w : World) (hs : s.size < 4294967281) (ht : t.size < 4294967281) (hm : ML w) : Calls Tryz.prog 30 #[.string s, .string t] w fun e w' => e = .returned (.bool (underL (lst s) (lst t))) ∧ Ext0 w w' := by
  have hg1 := good_any s w hs hm
  have hg2 := fun {w' : World} (e : Ext0 w w') => good_any t w' ht (hm.ext e)
  have hx := fun W => hasPrefix_any s (t ++ ⟨#[47]⟩) W
  have HU := Lib.hid (show underL (lst s) (lst t) = (goodL (lst s) && goodL (lst t) && (lst (t ++ ⟨#[47]⟩)).isPrefixOf (lst s)) from by
    have : lst (t ++ ⟨#[47]⟩) = lst t ++ [47] := by simp [lst, ByteArray.data_append]
    rw [this]; rfl)
  have hgl := fun h => good_len (s := lst t) h
  rw [lst_len] at hgl
  generalize underL (lst s) (lst t) = q at HU ⊢
  generalize (lst (t ++ ⟨#[47]⟩)).isPrefixOf (lst s) = px at hx HU
  generalize goodL (lst s) = q1 at hg1 HU
  generalize goodL (lst t) = q2 at hg2 HU hgl
  cases q1
  · go_enter Tryz.func30, Tryz.ntmps30
    go_wp2_with (first
      | (go_at_call 52; refine hg1.mono ?_; rintro e w1 ⟨rfl, H1⟩))
    go_ret
    exact ⟨by rw [HU.out]; rfl, H1⟩
  · cases q2
    · clear hgl
      go_enter Tryz.func30, Tryz.ntmps30
      go_wp2_with (first
        | (go_at_call_of 52 (Value.string s); refine hg1.mono ?_; clear hg1; rintro e w1 ⟨rfl, H1⟩)
        | (go_at_call 52; refine (hg2 H1).mono ?_; rintro e w2 ⟨rfl, H2⟩))
      go_ret
      exact ⟨by rw [HU.out]; rfl, H1.trans0 H2⟩
    · have hz := hgl rfl
      clear hgl
      go_enter Tryz.func30, Tryz.ntmps30
      go_wp2_with (first
        | (go_at_call_of 52 (Value.string s); refine hg1.mono ?_; clear hg1; rintro e w1 ⟨rfl, H1⟩)
        | (go_at_call 52; refine (hg2 H1).mono ?_; clear hg2; rintro e w2 ⟨rfl, H2⟩)
        | (go_at_call 53; refine (hx _).mono ?_; rintro e w3 ⟨rfl, rfl⟩))
      go_ret
      exact ⟨by rw [HU.out]; simp, H1.trans0 H2⟩
end Go.Proofs.YtmfcccflohpjiaaGreatDoor.Pth
