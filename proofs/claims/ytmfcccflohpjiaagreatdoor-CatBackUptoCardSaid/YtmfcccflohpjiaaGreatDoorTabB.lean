/- Numbers and texts put down as bytes: walked. -/
import Derived.Test.YtmfcccflohpjiaaGreatDoorTabA
namespace Go.Proofs.YtmfcccflohpjiaaGreatDoor
set_option linter.unusedVariables false
set_option linter.unusedSimpArgs false
open Go.RowKit

theorem beh_set (xs bs : List Int) (k : Nat) (hk : k < bs.length) : (xs ++ (bs.take k ++ List.replicate (bs.length - k) 0)).set (xs.length + k) bs[k] = xs ++ (bs.take (k + 1) ++ List.replicate (bs.length - (k + 1)) 0) := by
  rw [List.set_append_right _ _ (by omega), Nat.add_sub_cancel_left, List.set_append_right _ _ (by simp; omega)]
  have h1 : k - (bs.take k).length = 0 := by simp; omega
  rw [h1, show bs.length - k = (bs.length - (k + 1)) + 1 by omega, List.replicate_succ, List.set_cons_zero, List.take_add_one (i := k), List.getElem?_eq_getElem hk]
  simp only [Option.toList_some, List.append_assoc, List.cons_append, List.nil_append]
def BehRel (g : Nat) (xs bs : List Int) (w0 : World) (vi : Value) (wr : World) : Prop :=
  ∃ k : Nat, vi = .int .i64 (k : Int) ∧ k ≤ bs.length ∧ SH (fun _ => False) w0 wr [pt g (.cells (bcells (xs ++ (bs.take k ++ List.replicate (bs.length - k) 0))) 5 (0, 0))]
theorem beN_at (m : Int) (size k : Nat) (hk : k < size) : (beN m size)[k]? = some (m / 2 ^ (8 * (size - 1 - k)) % 256) := by simp [beN, hk]
set_option maxRecDepth 100000 in
set_option maxHeartbeats 1000000 in
theorem behind_any (v : Value) (xs : List Int) (m : Int) (size : Nat) (w0 : World) (hr : RdS (encInt .u8) 1 w0 v xs) (hl : xs.length ≤ 1000000000) (hs0 : 0 < size) (hs : size ≤ 8) (hm0 : 0 ≤ m) (hm : m < 18446744073709551616) :
    Calls Tryz.prog 51 #[v, .int .u64 m, .int .i64 (size : Int)] w0 (GivesBytes w0 (xs ++ beN m size)) := by
  obtain ⟨i0, hi, hz, hsz, hby⟩ := info_parts info5
  have hs1 : (Tryz.prog.info? 5).map (·.size) = some 1 := by rw [hi]; simp [hsz]
  have H : SH (fun _ => False) w0 w0 [] := SH.nil _ _
  obtain ⟨A, cap, rfl, hcap⟩ := hr.len
  have hbl := beN_len m size
  have hba := fun k (hk : k < size) => beN_at m size k hk
  generalize beN m size = bs at *
  have HX := Lib.hid (And.intro hbl hba)
  clear hbl hba
  go_enter Tryz.func51, Tryz.ntmps51
  go_wp2_with (first
    | (refine L_make (n := xs.length + size) rfl rfl H Tryz.underlying23 hi hz rfl rfl (by rw [hby]; omega) (by simp only [maxLen]; omega) ?_; clear H; intro g w H; rw [hsz, made_bytes] at H)
    | (refine L_copyB rfl rfl Tryz.underlying23 hs1 H 0 rfl rfl rfl (hr.keep H.ext) (by omega) (by simp) ?_; clear H; intro w H))
  have h0 : SH (fun _ => False) w0 w [pt g (.cells (bcells (xs ++ (bs.take 0 ++ List.replicate (bs.length - 0) 0))) 5 (0, 0))] := by
    simp only [List.set_cons_zero] at H
    rw [HX.out.1]
    simpa using H
  clear H
  go_loopw [19] (fun vi wr => BehRel g xs bs w0 vi wr) (fun vi _ => size - (intOf vi).toNat)
  case atStart => exact ⟨0, rfl, Nat.zero_le _, h0⟩
  case round =>
    clear h0
    obtain ⟨k, rfl, hk, H⟩ := hrel
    rw [HX.out.1] at hk
    by_cases hkn : k < size
    · have hki : (k : Int) < (size : Int) := by omega
      have hkb : k < bs.length := by rw [HX.out.1]; exact hkn
      have hsz2 : xs.length + k < (bcells (xs ++ (bs.take k ++ List.replicate (bs.length - k) 0))).size := by rw [bcells_size, List.length_append, List.length_append, List.length_take, List.length_replicate]; omega
      have hbk := HX.out.2 k hkn
      have hset := beh_set xs bs k hkb
      rw [List.getElem?_eq_getElem hkb] at hbk
      rw [Option.some.inj hbk] at hset
      have HS := Lib.hid hset
      clear hset hbk hkb
      go_wp2_with (first | (refine L_store1 rfl rfl H 0 rfl rfl rfl rfl rfl hsz2 Tryz.sizeOf5 ?_; clear H; intro w H; simp only [List.set_cons_zero, List.set_cons_succ, List.setIfInBounds_toArray, Act.eval, Array.getD_eq_getD_getElem?, List.getElem?_toArray, List.getElem?_cons_succ, List.getElem?_cons_zero, Option.getD_some] at H))
      rw [bcells_set, HS.out] at H
      go_roundw
      case rel => exact ⟨k + 1, by go_num, by rw [HX.out.1]; omega, H⟩
      case measure => simp [intOf]; omega
    · obtain rfl : k = size := by omega
      go_wp2_with fail
      go_ret
      rw [HX.out.1, Nat.sub_self, List.replicate_zero, List.append_nil, List.take_of_length_le (by rw [HX.out.1]; exact Nat.le_refl _)] at H
      exact ⟨g, by rw [List.length_append, HX.out.1]; rfl, H⟩

theorem octInt_any (v : Value) (xs : List Int) (n : Int) (w0 : World) (hr : RdS (encInt .u8) 1 w0 v xs) (hl : xs.length ≤ 1000000000) :
    Calls Tryz.prog 22 #[v, .int .i64 n] w0 (GivesBytes w0 (xs ++ be8 n)) := by
  have hb := behind_any v xs (n % 18446744073709551616) 8 w0 hr hl (by omega) (by omega) (by omega) (by omega)
  rw [beN_eight] at hb
  generalize be8 n = bs at *
  go_enter Tryz.func22, Tryz.ntmps22
  go_wp2_with (go_at_call 51; refine Calls.mono (by first | exact hb | (rw [IntKind.wrap_u64]; exact hb)) ?_; rintro e w ⟨g, rfl, h⟩)
  go_ret
  exact ⟨g, by rw [List.length_append]; rfl, h⟩
theorem bytes_own {w0 w : World} {g n : Nat} {xs : List Int} (H : SH (fun _ => False) w0 w [pt g (.cells (bcells xs) 5 (0, 0))]) (hn : xs.length = n) (hm : n ≤ maxLen) : SH (fun _ => False) w0 w [ownA 5 1 (.slice (some ⟨g, 0, none⟩) n n) n (cellsOf (encInt .u8) xs)] := by
  subst hn
  exact H.toOwn 0 rfl 1 xs.length xs.length (Nat.le_refl _) hm (by simp [bcells_size]) (cellsOf (encInt .u8) xs) (by rw [cellsOf_int]; simp [bcells, List.take_of_length_le])
theorem octText_any (v : Value) (xs ys : List Int) (w0 : World) (hr : RdS (encInt .u8) 1 w0 v xs) (hl : xs.length ≤ 1000000000) (hy : ys.length ≤ 65535) (hyb : ∀ y ∈ ys, 0 ≤ y ∧ y ≤ 255) :
    Calls Tryz.prog 23 #[v, .string (strOfNums ys)] w0 fun e w' => (∃ v', e = .returned (.tuple #[v', .int .i64 0]) ∧ RdS (encInt .u8) 1 w' v' (xs ++ (be2 ys.length ++ ys))) ∧ Ext0 w0 w' := by
  have hb := behind_any v xs (ys.length : Int) 2 w0 hr hl (by omega) (by omega) (by omega) (by omega)
  rw [beN_two] at hb
  have hsz := strOfNums_size ys
  have hsc := strCells_nums hyb
  generalize strOfNums ys = s at *
  clear hyb
  have h65 : ¬ (65535 < (s.size : Int)) := by omega
  have HL := Lib.hid (And.intro hsz hy)
  have hb2 : Calls Tryz.prog 51 #[v, .int .u64 (s.size : Int), .int .i64 2] w0 (GivesBytes w0 (xs ++ be2 ys.length)) := by rw [hsz]; exact hb
  have hbl : (be2 ys.length).length = 2 := rfl
  generalize be2 ys.length = bs at *
  have HB := Lib.hid hbl
  have hmx2 : xs.length + bs.length + s.size ≤ 140737488355328 := by omega
  have hmx3 : xs.length + bs.length + s.size ≤ maxLen := by simp only [maxLen]; omega
  clear hbl
  obtain ⟨N, hN⟩ : ∃ N, (xs ++ (bs ++ ys)).length = N := ⟨_, rfl⟩
  have HN := Lib.hid hN
  have HRD := Lib.hid (show ∀ (W : World) (u : Value), W.ownsRow 0 5 1 u (xs.length + bs.length + s.size) (cellsOf (encInt .u8) (xs ++ bs) ++ Lib.strCells s) → RdS (encInt .u8) 1 W u (xs ++ (bs ++ ys)) from fun W u h => by
    rw [hsc, ← cellsOf_append, List.append_assoc] at h
    exact RdS.own (encInt_len .u8) (by rw [hsz]; simp; omega) h)
  clear hsc
  have hmx : xs.length + 2 + s.size ≤ 140737488355328 := by omega
  clear hb hsz hy hN
  go_enter Tryz.func23, Tryz.ntmps23
  go_wp2_with (first
    | (go_at_call 51; refine Calls.mono (by first | exact hb2 | (rw [IntKind.wrap_u64]; exact hb2)) ?_; rintro e w ⟨g, rfl, h⟩; have H := bytes_own h rfl (by rw [List.length_append, HB.out]; simp only [maxLen]; omega); rw [List.length_append] at H)
    | (refine L_appendStr (s := s) rfl rfl Tryz.underlying23 Tryz.underlying9 info5 H 0 rfl rfl rfl hmx2 hmx3 ?_; clear H; intro v2 w2 H; have hrd : RdS (encInt .u8) 1 w2 v2 (xs ++ (bs ++ ys)) := HRD.out _ _ (H.get 0 rfl); obtain ⟨A2, c2, hv2, hc2⟩ := hrd.len; rw [HN.out] at hv2 hc2; subst hv2; have hci : (N : Int) ≤ (c2 : Int) := (by omega); have HR := Lib.hid (And.intro hrd H.ext); clear hrd H hc2))
  go_ret2
  refine ⟨⟨_, rfl, ?_⟩, HR.out.2⟩
  obtain ⟨A', cap', he, hc, h⟩ := HR.out.1
  cases he
  exact ⟨_, _, by rw [HN.out]; rfl, by rw [HN.out]; exact Nat.le_refl _, h⟩

theorem r01_set (bs : List Int) (hl : bs.length = 8) (k : Nat) (hk : k < 8) {x : Int} (hx : bs[7 - k]? = some x) : (List.replicate (8 - k) (0 : Int) ++ bs.drop (8 - k)).set (7 - k) x = List.replicate (8 - (k + 1)) 0 ++ bs.drop (8 - (k + 1)) := by
  have h7 : 7 - k < bs.length := by omega
  rw [List.getElem?_eq_getElem h7] at hx
  cases Option.some.inj hx
  rw [show 8 - k = (7 - k) + 1 by omega, List.replicate_succ', List.append_assoc, List.set_append_right _ _ (by simp)]
  simp only [List.length_replicate, Nat.sub_self, List.cons_append, List.nil_append, List.set_cons_zero]
  rw [show 8 - (k + 1) = 7 - k by omega, List.drop_eq_getElem_cons h7]
def R01Rel (g : Nat) (m : Int) (bs : List Int) (w0 : World) (vu vi : Value) (wr : World) : Prop :=
  ∃ k : Nat, vi = .int .i64 (k : Int) ∧ vu = .int .u64 (m / 256 ^ k) ∧ k ≤ 8 ∧ SH (fun _ => False) w0 wr [pt g (.cells (bcells (List.replicate (8 - k) 0 ++ bs.drop (8 - k))) 5 (0, 0))]
theorem pow_step (m : Int) (h0 : 0 ≤ m) (k : Nat) : (m / 256 ^ k).tdiv 256 = m / 256 ^ (k + 1) := by
  rw [Int.tdiv_eq_ediv_of_nonneg (Int.ediv_nonneg h0 (Int.pow_nonneg (by decide))), Int.ediv_ediv_of_nonneg (Int.pow_nonneg (by decide)), Int.pow_succ]
theorem pow_wrap (m : Int) (h0 : 0 ≤ m) (h1 : m < 18446744073709551616) (k : Nat) : IntKind.u64.wrap (m / 256 ^ k) = m / 256 ^ k := by
  have h2 : 0 ≤ m / 256 ^ k := Int.ediv_nonneg h0 (Int.pow_nonneg (by decide))
  have h3 : m / 256 ^ k ≤ m := Int.ediv_le_self _ h0
  rw [IntKind.wrap_u64]
  exact Int.emod_eq_of_lt h2 (by omega)
theorem pow_bytes (m : Int) (k : Nat) (hk : k < 8) : m / 2 ^ (8 * (8 - 1 - (7 - k))) % 256 = m / 256 ^ k % 256 := by
  rw [show 8 * (8 - 1 - (7 - k)) = 8 * k by omega, Int.pow_mul]
  rfl
theorem empty_own {w0 w : World} {g : Nat} (H : SH (fun _ => False) w0 w [pt g (.cells #[] 5 (0, 0))]) : SH (fun _ => False) w0 w [ownA 5 1 (.slice (some ⟨g, 0, none⟩) 0 0) 0 []] :=
  H.toOwn 0 rfl 1 0 0 (Nat.le_refl _) (Nat.zero_le _) rfl [] rfl
set_option maxRecDepth 100000 in
set_option maxHeartbeats 1000000 in
theorem r01Int_any (v : Value) (xs : List Int) (n : Int) (w0 : World) (hr : RdS (encInt .u8) 1 w0 v xs) (hl : xs.length ≤ 1000000000) :
    Calls Tryz.prog 25 #[v, .int .i64 n] w0 (GivesB w0 (xs ++ be8 n)) := by
  obtain ⟨i0, hi, hz, hsz, hby⟩ := info_parts info5
  have H : SH (fun _ => False) w0 w0 [] := SH.nil _ _
  obtain ⟨A, cap, rfl, hcap⟩ := hr.len
  obtain ⟨m, hm⟩ : ∃ m, n % 18446744073709551616 = m := ⟨_, rfl⟩
  have hm0 : 0 ≤ m := by omega
  have hm1 : m < 18446744073709551616 := by omega
  have hb8 := beN_eight n
  rw [hm] at hb8
  have hba := fun k (hk : k < 8) => beN_at m 8 (7 - k) (by omega)
  have hbl := beN_len m 8
  rw [← hb8]
  generalize beN m 8 = bs at *
  have hw : IntKind.u64.wrap n = m := by rw [IntKind.wrap_u64]; exact hm
  have HX := Lib.hid (And.intro hbl hba)
  clear hbl hba hb8 hm
  go_enter Tryz.func25, Tryz.ntmps25
  go_wp2_with (first
    | (refine L_make (n := 8) rfl rfl H Tryz.underlying23 hi hz rfl rfl (by rw [hby]; omega) (by simp only [maxLen]; omega) ?_; clear H; intro g w H; rw [hsz, made_bytes] at H))
  go_loopw [6, 7] (fun vu vi wr => R01Rel g m bs w0 vu vi wr) (fun _ vi _ => 8 - (intOf vi).toNat)
  case atStart =>
    refine ⟨0, rfl, by simp, Nat.zero_le _, ?_⟩
    rw [show bs.drop (8 - 0) = [] from List.drop_eq_nil_of_le (by rw [HX.out.1]; exact Nat.le_refl _), List.append_nil]
    exact H
  case round =>
    clear H
    obtain ⟨k, rfl, rfl, hk, H⟩ := hrel
    by_cases hkn : k < 8
    · have hki : (k : Int) < 8 := by omega
      have hst := pow_step m hm0 k
      have hwr := pow_wrap m hm0 hm1 (k + 1)
      have hset := r01_set bs HX.out.1 k hkn ((HX.out.2 k hkn).trans (by rw [pow_bytes m k hkn]))
      have hu0 : 0 ≤ m / 256 ^ k := Int.ediv_nonneg hm0 (Int.pow_nonneg (by decide))
      have hsz2 : 7 - k < (bcells (List.replicate (8 - k) (0 : Int) ++ bs.drop (8 - k))).size := by rw [bcells_size, List.length_append, List.length_replicate]; omega
      obtain ⟨u2, hu2⟩ : ∃ u2, m / 256 ^ (k + 1) = u2 := ⟨_, rfl⟩
      rw [hu2] at hst hwr
      generalize m / 256 ^ k = u1 at *
      have HS := Lib.hid (And.intro hset (And.intro hst hwr))
      have HU := Lib.hid hu2
      clear hu2
      clear hset hst hwr
      have hix : (7 : Int) - (k : Int) = ((7 - k : Nat) : Int) := by omega
      go_wp2_with (first | (refine L_store1 (off := 7 - k) rfl rfl H 0 rfl rfl rfl rfl rfl hsz2 Tryz.sizeOf5 ?_; clear H; intro w H; simp only [List.set_cons_zero, List.set_cons_succ, List.setIfInBounds_toArray, Act.eval, Array.getD_eq_getD_getElem?, List.getElem?_toArray, List.getElem?_cons_succ, List.getElem?_cons_zero, Option.getD_some] at H))
      rw [bcells_set, HS.out.1] at H
      go_roundw
      case rel => exact ⟨k + 1, by go_num, by rw [HS.out.2.1, HS.out.2.2, HU.out], by omega, H⟩
      case measure => simp [intOf]; omega
    · obtain rfl : k = 8 := by omega
      have h1 : ¬ ((8 : Nat) : Int) < 8 := by omega
      rw [Nat.sub_self, List.replicate_zero, List.nil_append, List.drop_zero] at H
      have hb1 : (0 + xs.length) * 1 ≤ 140737488355328 := by omega
      have hb2 : 0 + xs.length ≤ maxLen := by simp only [maxLen]; omega
      have hb3 : (xs.length + bs.length) * 1 ≤ 140737488355328 := by have := HX.out.1; omega
      have hb4 : xs.length + bs.length ≤ maxLen := by have := HX.out.1; simp only [maxLen]; omega
      go_wp2_with (first
        | (refine L_lit (e := 5) (cs := #[]) rfl rfl H (by intro _; first | (go_simp; done) | (go_simp; rfl)) ?_; clear H; intro g2 w H; replace H := H.toOwn 0 rfl 1 0 0 (Nat.le_refl _) (Nat.zero_le _) rfl [] rfl; simp only [List.set_cons_zero] at H)
        | (refine L_append (encInt_len .u8) (encInt_one .u8) rfl rfl Tryz.underlying23 info5 rfl (by decide) H 0 rfl rfl rfl (hr.keep H.ext) hb1 hb2 ?_; clear H; intro v2 w H hnn; clear hnn; simp only [List.set_cons_zero, List.nil_append, Nat.zero_add] at H)
        | (refine L_append (encInt_len .u8) (encInt_one .u8) rfl rfl Tryz.underlying23 info5 rfl (by decide) H 0 rfl rfl (xv := .slice (some ⟨g, 0, none⟩) 8 8) rfl (by have := bytesRd (H.at_ 1 rfl); rw [HX.out.1] at this; exact this) hb3 hb4 ?_; clear H; intro v3 w H hnn; clear hnn; simp only [List.set_cons_zero] at H))
      go_ret
      refine ⟨_, rfl, ?_, H.ext⟩
      have := H.get 0 rfl
      rw [← cellsOf_append] at this
      exact RdS.own (encInt_len .u8) (by simp) this

set_option maxRecDepth 100000 in
set_option maxHeartbeats 1000000 in
theorem r01Text_any (v : Value) (xs ys : List Int) (w0 : World) (hr : RdS (encInt .u8) 1 w0 v xs) (hl : xs.length ≤ 1000000000) (hy : ys.length ≤ 65535) (hyb : ∀ y ∈ ys, 0 ≤ y ∧ y ≤ 255) :
    Calls Tryz.prog 26 #[v, .string (strOfNums ys)] w0 (GivesB w0 (xs ++ (be2 ys.length ++ ys))) := by
  have H : SH (fun _ => False) w0 w0 [] := SH.nil _ _
  obtain ⟨A, cap, rfl, hcap⟩ := hr.len
  have hsz := strOfNums_size ys
  have hsc := strCells_nums hyb
  generalize strOfNums ys = s at *
  obtain ⟨n, hn⟩ : ∃ n : Nat, ys.length = n := ⟨_, rfl⟩
  rw [hn] at hsz hy
  have hq1 : ((n : Int).tdiv 256) = (n : Int) / 256 := Int.tdiv_eq_ediv_of_nonneg (by omega)
  have hq2 : ((n : Int).tmod 256) = (n : Int) % 256 := Int.tmod_eq_emod_of_nonneg (by omega)
  have hq3 : IntKind.u8.wrap ((n : Int) / 256) = (n : Int) / 256 % 256 := by rw [IntKind.wrap_u8]
  have hq4 : IntKind.u8.wrap ((n : Int) % 256) = (n : Int) % 256 := by rw [IntKind.wrap_u8]; omega
  rw [hn, show be2 ((n : Nat) : Int) = [(n : Int) / 256 % 256, (n : Int) % 256] from rfl]
  have HQ := Lib.hid (And.intro hq3 hq4)
  clear hq3 hq4
  have hb1 : (0 + xs.length) * 1 ≤ 140737488355328 := by omega
  have hb2 : 0 + xs.length ≤ maxLen := by simp only [maxLen]; omega
  have hb3 : (xs.length + 2) * 1 ≤ 140737488355328 := by omega
  have hb4 : xs.length + 2 ≤ maxLen := by simp only [maxLen]; omega
  have hb5 : xs.length + 2 + s.size ≤ 140737488355328 := by omega
  have hb6 : xs.length + 2 + s.size ≤ maxLen := by simp only [maxLen]; omega
  have HSC := Lib.hid (And.intro hsc (And.intro hsz hn))
  have hs0 : (s.size : Int) = (n : Int) := by omega
  clear hsc hsz hn hyb
  go_enter Tryz.func26, Tryz.ntmps26
  go_wp2_with (first
    | (refine L_lit (e := 5) (cs := #[]) rfl rfl H (by intro _; first | (go_simp; done) | (go_simp; rfl)) ?_; clear H; intro g2 w H; replace H := H.toOwn 0 rfl 1 0 0 (Nat.le_refl _) (Nat.zero_le _) rfl [] rfl; simp only [List.set_cons_zero] at H)
    | (refine L_append (encInt_len .u8) (encInt_one .u8) rfl rfl Tryz.underlying23 info5 rfl (by decide) H 0 rfl rfl rfl (hr.keep H.ext) hb1 hb2 ?_; clear H; intro v2 w H hnn; clear hnn; simp only [List.set_cons_zero, List.nil_append, Nat.zero_add] at H)
    | (refine L_lit (e := 5) (cs := ?_) rfl rfl H ?_ ?_; rotate_left; (focus (intro _; first | (go_simp; done) | (go_simp; rfl))); all_goals skip; clear H; intro g3 w H)
    | (refine L_append (encInt_len .u8) (encInt_one .u8) rfl rfl Tryz.underlying23 info5 rfl (by decide) H 1 rfl rfl (xv := .slice (some ⟨g3, 0, none⟩) 2 2) (ys := [(n : Int) / 256, (n : Int) % 256]) rfl (bytesRd (xs := [(n : Int) / 256, (n : Int) % 256]) (H.at_ 0 rfl)) hb3 hb4 ?_; clear H; intro v3 w H hnn; clear hnn; simp only [List.set_cons_zero, List.set_cons_succ] at H)
    | (refine L_appendStr (s := s) rfl rfl Tryz.underlying23 Tryz.underlying9 info5 H 1 rfl rfl rfl hb5 hb6 ?_; clear H; intro v4 w H))
  go_ret
  refine ⟨_, rfl, ?_, H.ext⟩
  have := H.get 0 rfl
  rw [HSC.out.1, ← cellsOf_append, ← cellsOf_append] at this
  have h9 : xs ++ [(n : Int) / 256, (n : Int) % 256] ++ ys = xs ++ ([(n : Int) / 256 % 256, (n : Int) % 256] ++ ys) := by
    rw [List.append_assoc, show (n : Int) / 256 % 256 = (n : Int) / 256 by omega]
  rw [h9] at this
  exact RdS.own (encInt_len .u8) (by rw [HSC.out.2.1, ← HSC.out.2.2]; simp; omega) this
end Go.Proofs.YtmfcccflohpjiaaGreatDoor
