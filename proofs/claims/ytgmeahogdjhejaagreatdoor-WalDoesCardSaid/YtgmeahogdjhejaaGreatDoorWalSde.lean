/- The document's Lay. The document's Lift. -/
import Derived.Test.YtgmeahogdjhejaaGreatDoorWalSab
import Derived.Test.YtgmeahogdjhejaaGreatDoorWalSc
import Derived.Test.YtgmeahogdjhejaaGreatDoorWalL
import Derived.Test.YtgmeahogdjhejaaGreatDoorWalSm
namespace Go.Proofs.YtgmeahogdjhejaaGreatDoor
set_option linter.unusedVariables false
set_option linter.unusedSimpArgs false
open Go.RowKit Go.Shelf

def dataP (d : List Int) (i : Nat) : List Int := (List.range 24).map fun k => d.getD (24 * i + k) 0
theorem dataP_more (d : List Int) (i j : Nat) (hj : j < 24) : (dataP d i).take (j + 1) = (dataP d i).take j ++ [d.getD (24 * i + j) 0] := by
  unfold dataP
  rw [List.take_add_one]
  congr 1
  simp [hj]
def rowsL (m d : List Int) (i : Nat) : List Int := (List.range i).flatMap (sectP m d)
theorem rowsL_more (m d : List Int) (i : Nat) : rowsL m d (i + 1) = rowsL m d i ++ ((dataP d i).take 24 ++ m) := by
  have hl : (dataP d i).length = 24 := by simp [dataP]
  unfold rowsL
  rw [List.range_succ, List.flatMap_append, List.take_of_length_le (by omega)]
  simp [sectP, dataP]
theorem rowsL_len {m d : List Int} (hm : m.length = 8) (i : Nat) : (rowsL m d i).length = 32 * i := by
  unfold rowsL
  rw [flatR_len (fun i => sectP_len hm d i), Nat.mul_comm]
def LayO (m d : List Int) (c : Nat) (w : World) (v11 v12 : Value) (wr : World) : Prop :=
  ∃ (i : Nat) (v : Value), v = v11 ∧ v12 = .int .i64 (i : Int) ∧ i ≤ c ∧ SH (fun _ => False) w wr [ownA 5 1 v (32 * i) (cellsOf (encInt .u8) (rowsL m d i))]
def LayI (m d : List Int) (i : Nat) (w : World) (v11 v13 : Value) (wr : World) : Prop :=
  ∃ (j : Nat) (v : Value), v = v11 ∧ v13 = .int .i64 ((24 * i + j : Nat) : Int) ∧ j ≤ 24 ∧ SH (fun _ => False) w wr [ownA 5 1 v (32 * i + j) (cellsOf (encInt .u8) (rowsL m d i ++ (dataP d i).take j))]
theorem one_own {M : Nat → Prop} {w0 w : World} {L : List Asr} {g : Nat} {x : Int} (H : SH M w0 w (pt g (.cells #[.int .u8 x] 5 (0, 0)) :: L)) : RdS (encInt .u8) 1 w (.slice (some ⟨g, 0, none⟩) 1 1) [x] := by
  refine ⟨_, 1, rfl, Nat.le_refl _, .inr ⟨g, 0, _, 5, (0, 0), rfl, H.at_ 0 rfl, fun j hj i hi => ?_⟩⟩
  obtain rfl : j = 0 := by simpa using hj
  obtain rfl : i = 0 := by omega
  rfl
set_option maxRecDepth 100000 in
set_option maxHeartbeats 4000000 in
/-- The loops. -/
theorem refLay_any (e q : Int) (v : Value) (b : List Int) (w0 : World) (he : U32 e) (hq : U32 q) (hr : RdS (encInt .u8) 1 w0 v b) (hb : ∀ x ∈ b, 0 ≤ x ∧ x ≤ 255) (hl : b.length ≤ 65535) :
    Calls Tryz.prog 34 #[.int .i64 e, .int .i64 q, v] w0 (LayE (layP e q b) w0) := by
  obtain ⟨A, cap, rfl, hcap⟩ := hr.len
  have H : SH (fun _ => False) w0 w0 [] := SH.nil _ _
  have hmb : ∀ x ∈ markP e q, 0 ≤ x ∧ x ≤ 255 := fun x hx => by unfold markP at hx; rcases List.mem_append.1 hx with h | h <;> exact be4_bytes _ x h
  have hm0l : (matter0 b).length = b.length + 2 := by unfold matter0; simp [be2]
  have hm0b : ∀ x ∈ matter0 b, 0 ≤ x ∧ x ≤ 255 := fun x hx => by unfold matter0 at hx; rcases List.mem_append.1 hx with h | h; exact be2_bytes _ x h; exact hb x h
  have hml := matterP_len e q b
  have h1 : ¬ e < 0 := by unfold U32 at he; omega
  have h2 : ¬ q < 0 := by unfold U32 at hq; omega
  have h3 : ¬ 4294967296 ≤ e := by unfold U32 at he; omega
  have h4 : ¬ 4294967296 ≤ q := by unfold U32 at hq; omega
  have hcr0 := crcMore_rng 0 (markP e q)
  have hcr := crcMore_rng (crcMore 0 (markP e q)) (matter0 b)
  have hcr1 : crcMore (crcMore 0 (markP e q)) (matter0 b) = crcTwo (markP e q) (matter0 b) := rfl
  have hmo1 := fun {w : World} {v : Value} (h : RdS (encInt .u8) 1 w v (markP e q)) => refMoreI_any 0 ⟨by omega, by omega⟩ v (markP e q) w h hmb (by rw [markP_len]; omega)
  have hmo2 := fun {w : World} {v : Value} (h : RdS (encInt .u8) 1 w v (matter0 b)) => refMoreI_any _ hcr0 v (matter0 b) w h hm0b (by rw [hm0l]; omega)
  obtain ⟨c0, hc0⟩ : ∃ c0, crcMore 0 (markP e q) = c0 := ⟨_, rfl⟩
  rw [hc0] at hmo1 hmo2 hcr hcr1
  obtain ⟨c1, hc1⟩ : ∃ c1, crcMore c0 (matter0 b) = c1 := ⟨_, rfl⟩
  rw [hc1] at hmo2 hcr hcr1
  have hwc := u32_int hcr
  obtain ⟨n, hn⟩ : ∃ n, b.length = n := ⟨_, rfl⟩
  have hn2 : ¬ 65535 < (n : Int) := by omega
  have hb2 : be2 (n : Int) = [(n : Int) / 256, (n : Int) % 256] := by
    unfold be2
    rw [show (n : Int) / 256 % 256 = (n : Int) / 256 by omega]
  have hcnt := fun {w : World} => refCount_any n (by omega) w
  have hlay : layP e q b = rowsL (markP e q) (matterP e q b) (countP n) := by rw [← hn]; rfl
  have hmat : matterP e q b = matter0 b ++ be4 c1 := by rw [hcr1]; rfl
  have hmt0 : matter0 b = [(n : Int) / 256, (n : Int) % 256] ++ b := by unfold matter0; rw [hn, hb2]
  have hcle : countP n ≤ 3000 := by unfold countP; omega
  rw [hlay]
  obtain ⟨c, hc⟩ : ∃ c, countP n = c := ⟨_, rfl⟩
  rw [hc] at hcnt hcle ⊢
  rw [hn] at hml hm0l hcap hl hr ⊢
  obtain ⟨m, hm⟩ : ∃ m, markP e q = m := ⟨_, rfl⟩
  obtain ⟨d, hd⟩ : ∃ d, matterP e q b = d := ⟨_, rfl⟩
  rw [hm] at hmo1
  rw [hd] at hmat hml
  rw [hm, hd]
  have hmc : cellsOf (encInt .u8) (be4 e) ++ cellsOf (encInt .u8) (be4 q) = cellsOf (encInt .u8) m := by rw [← cellsOf_append, ← hm]; rfl
  have hmlen : m.length = 8 := by rw [← hm]; rfl
  have hb1 : (4 + (be4 q).length) * 1 ≤ 140737488355328 := by rw [be4_len]; omega
  have hb1m : 4 + (be4 q).length ≤ maxLen := by rw [be4_len]; simp only [maxLen]; omega
  have hb2' : (2 + b.length) * 1 ≤ 140737488355328 := by omega
  have hb2m : 2 + b.length ≤ maxLen := by simp only [maxLen]; omega
  have hb3 : (2 + b.length + (be4 c1).length) * 1 ≤ 140737488355328 := by rw [be4_len]; omega
  have hb3m : 2 + b.length + (be4 c1).length ≤ maxLen := by rw [be4_len]; simp only [maxLen]; omega
  have HF := Lib.hid (And.intro hmc (And.intro hmlen (And.intro hmt0 (And.intro hmat (And.intro hml (And.intro hm0l hn))))))
  clear hmc hmlen hmt0 hmat hml hm0l hn hb hmb hm0b hcr hcr0 hcr1 hc0 hc1 hm hd hlay hc hb2 he hq
  go_enter Tryz.func34, Tryz.ntmps34
  go_upto_region 7 with (first
    | (go_at_call 63; refine (four_any _ _).mono ?_; rintro e1 w1 ⟨v9, rfl, h⟩; replace H := H.cat h; clear h; simp only [List.cons_append, List.nil_append] at H)
    | (at_builtin; refine L_appendP rfl rfl Tryz.underlying22 info5 rfl H 1 rfl rfl (by simp [be4]) rfl (partA.rd (H.get 0 rfl)) hb1 hb1m ?_; clear H; intro vm w H; simp only [List.set_cons_zero, List.set_cons_succ] at H))
  replace H := H.drop (L' := [_]) (.cons _ (List.Sublist.refl _))
  rw [HF.out.1] at H
  go_upto_region 8 with (first
    | ((refine L_lit (e := ?_) (cs := ?_) rfl rfl H ?_ ?_; rotate_left 2; (focus (intro _; first | (go_simp; done) | (go_simp; with_reducible rfl) | (go_simp; rfl))); all_goals skip; clear H; intro g w H; (try simp only [Act.put, List.setIfInBounds_toArray, List.set_cons_succ, List.set_cons_zero, List.getElem_toArray, List.getElem_cons_succ, List.getElem_cons_zero])); replace H := H.toOwn 0 rfl 1 2 2 (Nat.le_refl _) (by decide) rfl [.int .u8 ((n : Int) / 256), .int .u8 ((n : Int) % 256)] rfl; simp only [List.set_cons_zero] at H)
    | (at_builtin; go_loud (refine L_append (ys := b) (encInt_len .u8) (encInt_one .u8) rfl rfl Tryz.underlying22 info5 rfl (by decide) H 0 rfl rfl rfl (hr.keep H.ext) hb2' hb2m ?_); clear H; intro vd0 w H hnn; clear hnn; simp only [List.set_cons_zero] at H))
  have hd0 : [Value.int .u8 ((n : Int) / 256), .int .u8 ((n : Int) % 256)] ++ cellsOf (encInt .u8) b = cellsOf (encInt .u8) (matter0 b) := by rw [HF.out.2.2.1, cellsOf_append]; rfl
  rw [hd0] at H
  clear hd0
  go_upto_region 9 with (first
    | (go_at_call_of 64 (Value.int IntKind.u32 0); refine (hmo1 (partA.rd (H.get 1 rfl))).mono ?_; rintro e1 w1 ⟨rfl, hE⟩; replace H := H.calls hE; clear hE)
    | (go_at_call_of 64 (Value.int IntKind.u32 c0); refine (hmo2 (own_rd (H.get 0 rfl) (by rw [HF.out.2.2.2.2.2.1, HF.out.2.2.2.2.2.2]; omega))).mono ?_; rintro e1 w1 ⟨rfl, hE⟩; replace H := H.calls hE; clear hE)
    | (go_at_call 63; refine (four_any _ _).mono ?_; rintro e1 w1 ⟨v9, rfl, h⟩; replace H := H.cat h; clear h; simp only [List.cons_append, List.nil_append] at H)
    | (at_builtin; go_loud (refine L_append (ys := be4 c1) (encInt_len .u8) (encInt_one .u8) rfl rfl Tryz.underlying22 info5 rfl (by decide) H 1 rfl rfl rfl (partA.rd (H.get 0 rfl)) hb3 hb3m ?_); clear H; intro vd w H hnn; clear hnn; simp only [List.set_cons_zero, List.set_cons_succ] at H))
  have hd1 : cellsOf (encInt .u8) (matter0 b) ++ cellsOf (encInt .u8) (be4 c1) = cellsOf (encInt .u8) d := by rw [← cellsOf_append, ← HF.out.2.2.2.1]
  rw [hd1] at H
  clear hd1
  have hvm := partA.rd (H.get 2 rfl)
  obtain ⟨gd, cd, rfl, hcd⟩ := own_some (H.get 1 rfl) (by rw [be4_len]; omega)
  have hdn : 2 + b.length + (be4 c1).length = n + 6 := by rw [be4_len, HF.out.2.2.2.2.2.2]; omega
  rw [hdn] at H
  have hvd := own_rd (H.get 1 rfl) HF.out.2.2.2.2.1.symm
  have hcell : ∀ k (hk : k < d.length), w.cell? ⟨gd, k, none⟩ = some (.int .u8 d[k]) := fun k hk => by
    obtain ⟨bb, off, he, hcs⟩ := byte_cell hvd hk
    cases he
    have := hcs k hk
    rwa [Nat.zero_add] at this
  have hext := H.ext
  have HW := Lib.hid (And.intro hvm (And.intro hvd (And.intro hcell hext)))
  clear hvm hvd hcell hext hmo1 hmo2 hb1 hb1m hb2' hb2m hb3 hb3m h1 h2 h3 h4 hn2 hwc hr hcap
  rw [hdn]
  clear hdn H
  have H : SH (fun _ => False) w w [] := SH.nil _ _
  obtain ⟨wd, hwd⟩ : ∃ wd, w = wd := ⟨_, rfl⟩
  rw [hwd] at HW
  have H : SH (fun _ => False) wd w [] := by rw [← hwd]; exact SH.nil _ _
  clear hwd
  go_upto_region 10 with (first
    | ((refine L_lit (e := ?_) (cs := ?_) rfl rfl H ?_ ?_; rotate_left 2; (focus (intro _; first | (go_simp; done) | (go_simp; with_reducible rfl) | (go_simp; rfl))); all_goals skip; clear H; intro g w H; (try simp only [Act.put, List.setIfInBounds_toArray, List.set_cons_succ, List.set_cons_zero, List.getElem_toArray, List.getElem_cons_succ, List.getElem_cons_zero])); replace H := H.toOwn 0 rfl 1 0 0 (Nat.le_refl _) (Nat.zero_le _) rfl [] rfl; simp only [List.set_cons_zero] at H))
  have hst : LayO m d c wd (.slice (some ⟨g, 0, none⟩) 0 0) (.int .i64 0) w := ⟨0, _, rfl, rfl, Nat.zero_le _, H⟩
  clear H
  go_wp2_with fail
  go_loopw [11, 12] (fun v11 v12 wr => LayO m d c wd v11 v12 wr) (fun _ vi _ => c - (intOf vi).toNat)
  case atStart => exact hst
  case round =>
    clear hst
    obtain ⟨i, v9, rfl, rfl, hi, H⟩ := hrel
    by_cases hic : i < c
    · have hici : (i : Int) < (c : Int) := by omega
      have hwi : IntKind.i64.wrap ((i : Int) + 1) = ((i + 1 : Nat) : Int) := by rw [IntKind.wrap_i64]; omega
      have hw24 : IntKind.i64.wrap (24 * (i : Int)) = ((24 * i : Nat) : Int) := by rw [IntKind.wrap_i64]; omega
      have hw24b : IntKind.i64.wrap (((24 * i : Nat) : Int) + 24) = ((24 * i + 24 : Nat) : Int) := by rw [IntKind.wrap_i64]; omega
      obtain ⟨i1, hi1⟩ : ∃ i1, i + 1 = i1 := ⟨_, rfl⟩
      obtain ⟨k0, hk0⟩ : ∃ k0, 24 * i = k0 := ⟨_, rfl⟩
      rw [hi1] at hwi
      rw [hk0] at hw24 hw24b
      obtain ⟨k9, hk9⟩ : ∃ k9, k0 + 24 = k9 := ⟨_, rfl⟩
      rw [hk9] at hw24b
      have HI := Lib.hid (And.intro hi1 (And.intro hk0 hk9))
      have hst2 : LayI m d i wd v9 (.int .i64 ((k0 : Nat) : Int)) wr := ⟨0, _, rfl, by rw [hk0]; rfl, Nat.zero_le _, by rw [List.take_zero, List.append_nil]; exact H⟩
      have hil : i < 3000 := by omega
      clear hi1 hk0 hk9 H
      go_upto_region 14 with (first
        | (go_at_call 55; refine hcnt.mono ?_; rintro e1 w1 ⟨rfl, hw9⟩; replace hw9 := hw9.symm; subst hw9))
      go_loopw [11, 13] (fun v11 v13 wr => LayI m d i wd v11 v13 wr) (fun _ vi _ => k9 - (intOf vi).toNat)
      case atStart => exact hst2
      case round =>
        clear hst2
        obtain ⟨j, v8, rfl, h13, hj, H⟩ := hrel
        rw [HI.out.2.1] at h13
        subst h13
        have hkk := HI.out.2.2
        by_cases hj24 : j < 24
        · obtain ⟨k, hk⟩ : ∃ k, k0 + j = k := ⟨_, rfl⟩
          rw [hk]
          have hkl : (k : Int) < (k9 : Int) := by omega
          have hwk : IntKind.i64.wrap ((k : Int) + 1) = ((k + 1 : Nat) : Int) := by rw [IntKind.wrap_i64]; have := HI.out.2.1; omega
          have hgb : (32 * i + j + [(0 : Int)].length) * 1 ≤ 140737488355328 := by show (32 * i + j + 1) * 1 ≤ _; omega
          have hgm : 32 * i + j + [(0 : Int)].length ≤ maxLen := by show 32 * i + j + 1 ≤ _; simp only [maxLen]; omega
          have hmore := dataP_more d i j hj24
          rw [HI.out.2.1, hk] at hmore
          have hrel2 : 24 * i + (j + 1) = k + 1 := by have := HI.out.2.1; omega
          clear hkk
          by_cases hkn : k < n + 6
          · have hkni : (k : Int) < (n : Int) + 6 := by omega
            have hkni2 : (k : Int) < ((n + 6 : Nat) : Int) := by omega
            have hkd : k < d.length := by rw [HF.out.2.2.2.2.1]; exact hkn
            have hcl := H.ext.cell (HW.out.2.2.1 k hkd) (fun h => h)
            rw [List.getD_eq_getElem?_getD, List.getElem?_eq_getElem hkd] at hmore
            obtain ⟨x, hx⟩ : ∃ x, d[k] = x := ⟨_, rfl⟩
            rw [hx] at hcl hmore
            have HM := Lib.hid (And.intro hmore (And.intro hrel2 hk))
            clear hmore hx hrel2 hk hkd
            go_wp2_with (first
              | ((refine L_lit (e := ?_) (cs := ?_) rfl rfl H ?_ ?_; rotate_left 2; (focus (intro _; first | (go_simp; done) | (go_simp; with_reducible rfl) | (go_simp; rfl))); all_goals skip; clear H; intro g w H; (try simp only [Act.put, List.setIfInBounds_toArray, List.set_cons_succ, List.set_cons_zero, List.getElem_toArray, List.getElem_cons_succ, List.getElem_cons_zero])))
              | (at_builtin; go_loud (refine L_append (ys := [x]) (encInt_len .u8) (encInt_one .u8) rfl rfl Tryz.underlying22 info5 rfl (by decide) H 1 rfl rfl rfl (one_own H) hgb hgm ?_); clear H; intro v7 w H hnn; clear hnn; simp only [List.set_cons_zero, List.set_cons_succ] at H))
            replace H := H.drop (L' := [_]) (.cons _ (List.Sublist.refl _))
            go_roundw
            case rel =>
              refine ⟨j + 1, _, rfl, by rw [HM.out.2.1]; rfl, by omega, ?_⟩
              rw [HM.out.1, ← List.append_assoc, cellsOf_append]
              exact H
            case measure => simp [intOf]; omega
          · have hkni : ¬ (k : Int) < (n : Int) + 6 := by omega
            have hkni2 : ¬ (k : Int) < ((n + 6 : Nat) : Int) := by omega
            rw [List.getD_eq_getElem?_getD, List.getElem?_eq_none (by rw [HF.out.2.2.2.2.1]; omega)] at hmore
            have HM := Lib.hid (And.intro hmore (And.intro hrel2 hk))
            clear hmore hrel2 hk
            go_wp2_with (first
              | ((refine L_lit (e := ?_) (cs := ?_) rfl rfl H ?_ ?_; rotate_left 2; (focus (intro _; first | (go_simp; done) | (go_simp; with_reducible rfl) | (go_simp; rfl))); all_goals skip; clear H; intro g w H; (try simp only [Act.put, List.setIfInBounds_toArray, List.set_cons_succ, List.set_cons_zero, List.getElem_toArray, List.getElem_cons_succ, List.getElem_cons_zero])))
              | (at_builtin; go_loud (refine L_append (ys := [0]) (encInt_len .u8) (encInt_one .u8) rfl rfl Tryz.underlying22 info5 rfl (by decide) H 1 rfl rfl rfl (one_own H) hgb hgm ?_); clear H; intro v7 w H hnn; clear hnn; simp only [List.set_cons_zero, List.set_cons_succ] at H))
            replace H := H.drop (L' := [_]) (.cons _ (List.Sublist.refl _))
            go_roundw
            case rel =>
              refine ⟨j + 1, _, rfl, by rw [HM.out.2.1]; rfl, by omega, ?_⟩
              rw [HM.out.1, ← List.append_assoc, cellsOf_append]
              exact H
            case measure => simp [intOf]; omega
        · obtain rfl : j = 24 := by omega
          have hk9e : ¬ ((k0 + 24 : Nat) : Int) < (k9 : Int) := by omega
          have hgb : (32 * i + 24 + m.length) * 1 ≤ 140737488355328 := by rw [HF.out.2.1]; omega
          have hgm : 32 * i + 24 + m.length ≤ maxLen := by rw [HF.out.2.1]; simp only [maxLen]; omega
          clear hkk
          go_wp2_with (first
            | (at_builtin; go_loud (refine L_append (ys := m) (encInt_len .u8) (encInt_one .u8) rfl rfl Tryz.underlying22 info5 rfl (by decide) H 0 rfl rfl rfl (HW.out.1.keep H.ext) hgb hgm ?_); clear H; intro v7 w H hnn; clear hnn; simp only [List.set_cons_zero] at H))
          go_roundw
          case rel =>
            refine ⟨i1, _, rfl, rfl, by have := HI.out.1; omega, ?_⟩
            rw [← HI.out.1, rowsL_more, ← List.append_assoc, cellsOf_append, show 32 * (i + 1) = 32 * i + 24 + m.length by rw [HF.out.2.1]; omega]
            exact H
          case measure => simp [intOf]; have := HI.out.1; omega
    · obtain rfl : i = c := by omega
      have hcc : ¬ (i : Int) < (i : Int) := by omega
      go_wp2_with (first
        | (go_at_call 55; refine hcnt.mono ?_; rintro e1 w1 ⟨rfl, hw9⟩; replace hw9 := hw9.symm; subst hw9))
      (try simp only [Exit.inBlock, Exit.then])
      refine bodyPost_ret (results_tmp2 rfl _ _ _) rfl ?_
      refine ⟨v9, rfl, own_rd (H.get 0 rfl) (by rw [rowsL_len HF.out.2.1]), HW.out.2.2.2.trans0 H.ext, fun j hj => ?_⟩
      have h9 := (H.own _ List.mem_cons_self j hj).resolve_left (fun h => h)
      exact Nat.le_trans HW.out.2.2.2.size h9
end Go.Proofs.YtgmeahogdjhejaaGreatDoor

namespace Go.Proofs.YtgmeahogdjhejaaGreatDoor
set_option linter.unusedVariables false
set_option linter.unusedSimpArgs false
open Go.RowKit Go.Shelf

theorem take_snoc (s : List Int) (a k : Nat) (h : a + k < s.length) : (s.drop a).take (k + 1) = (s.drop a).take k ++ [s[a + k]] := by
  rw [List.take_add_one, List.getElem?_drop, List.getElem?_eq_getElem h]
  rfl
theorem unlay_more (s : List Int) (k : Nat) (h : 32 * ((k + 2) / 24) + (k + 2) % 24 < s.length) : unlayP s (k + 1) = unlayP s k ++ [s[32 * ((k + 2) / 24) + (k + 2) % 24]] := by
  unfold unlayP
  rw [List.range_succ, List.map_append]
  congr 1
  simp only [List.map_cons, List.map_nil]
  rw [List.getD_eq_getElem?_getD, List.getElem?_eq_getElem h]
  rfl
def LiftRelA (s : List Int) (w0 : World) (v9 v10 v11 : Value) (wr : World) : Prop :=
  ∃ k : Nat, v11 = .int .i64 ((24 + k : Nat) : Int) ∧ v9 = .int .i64 (numB ((s.drop 24).take k)) ∧ v10 = .int .i64 (numB ((s.drop 28).take k)) ∧ k ≤ 4 ∧ Ext0 w0 wr
def LiftRelB (s : List Int) (long : Nat) (w1 : World) (v12 v13 : Value) (wr : World) : Prop :=
  ∃ (k : Nat) (A : Option Addr) (c : Nat), v12 = .slice A k c ∧ v13 = .int .i64 (k : Int) ∧ k ≤ long ∧ SH (fun _ => False) w1 wr [ownA 5 1 (.slice A k c) k (cellsOf (encInt .u8) (unlayP s k))]
set_option maxRecDepth 100000 in
set_option maxHeartbeats 8000000 in
theorem refLift_any (v : Value) (s : List Int) (w0 : World) (hr : RdS (encInt .u8) 1 w0 v s) (hb : ∀ x ∈ s, 0 ≤ x ∧ x ≤ 255) (hl : s.length ≤ 1000000) :
    Calls Tryz.prog 40 #[v] w0 (LiftE s w0) := by
  obtain ⟨A, cap, rfl, hcap⟩ := hr.len
  obtain ⟨ns, hns⟩ : ∃ ns, s.length = ns := ⟨_, rfl⟩
  by_cases h32 : ns < 32
  · have h32i : (ns : Int) < 32 := by omega
    have hno : liftP s = none := by unfold liftP; rw [if_pos (by omega)]
    have HNO := Lib.hid hno
    rw [hns]
    clear hr hno hb hns hcap
    go_enter Tryz.func40, Tryz.ntmps40
    go_wp2_with fail
    (try simp only [Exit.inBlock, Exit.then])
    refine bodyPost_ret (results_tmp5 rfl _ _ _) rfl ?_
    exact ⟨.inr ⟨HNO.out, rfl⟩, Ext.refl _ _⟩
  · have h32i : ¬ (ns : Int) < 32 := by omega
    obtain ⟨bb, off, rfl, hcs⟩ := byte_cell hr (j := 0) (by omega)
    have hget : ∀ j (hj : j < s.length), 0 ≤ s[j] ∧ s[j] ≤ 255 := fun j hj => hb _ (List.getElem_mem hj)
    have hlr := numB_lt 2 (s.take 2) (by rw [List.length_take]; omega) (fun x hx => hb x (List.mem_of_mem_take hx))
    obtain ⟨long, hlong⟩ : ∃ long, longP s = long := ⟨_, rfl⟩
    have hl0 : numB (s.take 2) = (long : Int) := by rw [← hlong]; unfold longP; omega
    have hl65 : long ≤ 65535 := by rw [hl0] at hlr; omega
    have hcnt := fun {W : World} => refCount_any long hl65 W
    obtain ⟨a0, ha0⟩ : ∃ a0, s[0] = a0 := ⟨_, rfl⟩
    obtain ⟨a1, ha1⟩ : ∃ a1, s[1] = a1 := ⟨_, rfl⟩
    have hc0 := fun {W : World} (e : Ext0 w0 W) => e.cell (hcs 0 (by omega)) (fun h => h)
    have hc1 := fun {W : World} (e : Ext0 w0 W) => e.cell (hcs 1 (by omega)) (fun h => h)
    have hb0 := hget 0 (by omega)
    have hb1 := hget 1 (by omega)
    rw [ha0] at hc0 hb0
    rw [ha1] at hc1 hb1
    have hl1 : 256 * a0 + a1 = (long : Int) := by
      rw [← hl0]
      have h1 := take_snoc s 0 1 (by omega)
      have h0 := take_snoc s 0 0 (by omega)
      rw [List.drop_zero] at h1 h0
      rw [show s.take 2 = s.take (1 + 1) from rfl, h1, show s.take 1 = s.take (0 + 1) from rfl, h0, List.take_zero, List.nil_append, numB_snoc]
      simp only [Nat.zero_add, ha0, ha1]
      simp [numB]
      omega
    have hwa0 : IntKind.i64.wrap a0 = a0 := by rw [IntKind.wrap_i64]; omega
    have hwa1 : IntKind.i64.wrap a1 = a1 := by rw [IntKind.wrap_i64]; omega
    have hwm : IntKind.i64.wrap (256 * a0) = 256 * a0 := by rw [IntKind.wrap_i64]; omega
    have hws : IntKind.i64.wrap (256 * a0 + a1) = (long : Int) := by rw [hl1, IntKind.wrap_i64]; omega
    have her := numB_lt 4 ((s.drop 24).take 4) (by rw [List.length_take, List.length_drop]; omega) (fun x hx => hb x (List.mem_of_mem_drop (List.mem_of_mem_take hx)))
    have hqr := numB_lt 4 ((s.drop 28).take 4) (by rw [List.length_take, List.length_drop]; omega) (fun x hx => hb x (List.mem_of_mem_drop (List.mem_of_mem_take hx)))
    have h0n : 0 < ns := by omega
    have h1n : 1 < ns := by omega
    have h0ni : (0 : Int) < (ns : Int) := by omega
    have h1ni : (1 : Int) < (ns : Int) := by omega
    have HR := Lib.hid (And.intro hr (And.intro hb (And.intro hns (And.intro hcs (And.intro hget (And.intro hlong (And.intro her hqr)))))))
    rw [hns] at hcap ⊢
    clear hr hb hns hcs hget hlong her hqr hl0 hlr ha0 ha1 hl1
    have H : SH (fun _ => False) w0 w0 [] := SH.nil _ _
    go_enter Tryz.func40, Tryz.ntmps40
    go_upto_region 3 with fail
    refine D_start H (by kernel_rfl) (fun hS => ?_)
    try simp only [Act.put, List.setIfInBounds_toArray, List.set_cons_succ, List.set_cons_zero]
    refine D_take 0 (v := ?_) rfl (by kernel_rfl) (by kernel_rfl) (by kernel_rfl) (fun _ _ _ h => h) rfl (by rfl) (fun W hS => ?_) hS ?_
    rotate_left; (focus (first | (go_simp; done) | (go_simp; with_reducible rfl) | (go_simp; rfl))); all_goals skip; (try simp only [List.set_cons_succ, List.set_cons_zero])
    refine D_take 1 (v := ?_) rfl (by kernel_rfl) (by kernel_rfl) (by kernel_rfl) (fun _ _ _ h => h) rfl (by rfl) (fun W hS => ?_) hS ?_
    rotate_left; (focus (first | (go_simp; done) | (go_simp; with_reducible rfl) | (go_simp; rfl))); all_goals skip; (try simp only [List.set_cons_succ, List.set_cons_zero])
    refine D_take 2 (v := (.int .u8 a0)) rfl (by kernel_rfl) (by kernel_rfl) (by kernel_rfl) (fun _ _ _ h => h) rfl (by rfl) (fun W hS => R_loadCellW (ty := 5) (x := .tmp 20) rfl rfl (hc0 hS.ext) Tryz.isAgg5) hS ?_; (try simp only [List.set_cons_succ, List.set_cons_zero])
    refine D_take 3 (v := ?_) rfl (by kernel_rfl) (by kernel_rfl) (by kernel_rfl) (fun _ _ _ h => h) rfl (by rfl) (fun W hS => ?_) hS ?_
    rotate_left; (focus (first | (go_simp; done) | (go_simp; with_reducible rfl) | (go_simp; rfl))); all_goals skip; (try simp only [List.set_cons_succ, List.set_cons_zero])
    refine D_take 4 (v := ?_) rfl (by kernel_rfl) (by kernel_rfl) (by kernel_rfl) (fun _ _ _ h => h) rfl (by rfl) (fun W hS => ?_) hS ?_
    rotate_left; (focus (first | (go_simp; done) | (go_simp; with_reducible rfl) | (go_simp; rfl))); all_goals skip; (try simp only [List.set_cons_succ, List.set_cons_zero])
    refine D_take 5 (v := ?_) rfl (by kernel_rfl) (by kernel_rfl) (by kernel_rfl) (fun _ _ _ h => h) rfl (by rfl) (fun W hS => ?_) hS ?_
    rotate_left; (focus (first | (go_simp; done) | (go_simp; with_reducible rfl) | (go_simp; rfl))); all_goals skip; (try simp only [List.set_cons_succ, List.set_cons_zero])
    refine D_take 6 (v := ?_) rfl (by kernel_rfl) (by kernel_rfl) (by kernel_rfl) (fun _ _ _ h => h) rfl (by rfl) (fun W hS => ?_) hS ?_
    rotate_left; (focus (first | (go_simp; done) | (go_simp; with_reducible rfl) | (go_simp; rfl))); all_goals skip; (try simp only [List.set_cons_succ, List.set_cons_zero])
    refine D_take 7 (v := (.int .u8 a1)) rfl (by kernel_rfl) (by kernel_rfl) (by kernel_rfl) (fun _ _ _ h => h) rfl (by rfl) (fun W hS => R_loadCellW (ty := 5) (x := .tmp 25) rfl rfl (hc1 hS.ext) Tryz.isAgg5) hS ?_; (try simp only [List.set_cons_succ, List.set_cons_zero])
    refine D_take 8 (v := ?_) rfl (by kernel_rfl) (by kernel_rfl) (by kernel_rfl) (fun _ _ _ h => h) rfl (by rfl) (fun W hS => ?_) hS ?_
    rotate_left; (focus (first | (go_simp; done) | (go_simp; with_reducible rfl) | (go_simp; rfl))); all_goals skip; (try simp only [List.set_cons_succ, List.set_cons_zero])
    refine D_take 9 (v := ?_) rfl (by kernel_rfl) (by kernel_rfl) (by kernel_rfl) (fun _ _ _ h => h) rfl (by rfl) (fun W hS => ?_) hS ?_
    rotate_left; (focus (first | (go_simp; done) | (go_simp; with_reducible rfl) | (go_simp; rfl))); all_goals skip; (try simp only [List.set_cons_succ, List.set_cons_zero])
    refine D_take 10 (v := ?_) rfl (by kernel_rfl) (by kernel_rfl) (by kernel_rfl) (fun _ _ _ h => h) rfl (by rfl) (fun W hS => ?_) hS ?_
    rotate_left; (focus (first | (go_simp; done) | (go_simp; with_reducible rfl) | (go_simp; rfl))); all_goals skip; (try simp only [List.set_cons_succ, List.set_cons_zero])
    refine wpAnyH_done (by kernel_rfl) ?_ _
    clear hc0 hc1 hwa0 hwa1 hwm hb0 hb1 h0n h1n h0ni h1ni H
    have H := hS
    clear hS
    generalize w0.drew = wd at *
    obtain ⟨n, hn⟩ : ∃ n, countP long = n := ⟨_, rfl⟩
    rw [hn] at hcnt
    have hn1 : 1 ≤ n := by have := count_pos long; omega
    have hn2 : n ≤ 2731 ∧ long + 6 ≤ 24 * n := by unfold countP at hn; omega
    have hwn : IntKind.i64.wrap (32 * (n : Int)) = 32 * (n : Int) := by rw [IntKind.wrap_i64]; omega
    have HN := Lib.hid hn
    clear hn
    go_upto_region 5 with (first
      | (go_at_call 55; refine hcnt.mono ?_; rintro e w9 ⟨rfl, hw9⟩; replace hw9 := hw9.symm; subst hw9))
    by_cases hsl : ns < 32 * n
    · have hsi : (ns : Int) < 32 * (n : Int) := by omega
      have hno : liftP s = none := by unfold liftP; rw [HR.out.2.2.1, if_neg h32, HR.out.2.2.2.2.2.1, HN.out, if_pos hsl]
      have HNO := Lib.hid hno
      clear hno
      go_wp2_with fail
      (try simp only [Exit.inBlock, Exit.then])
      refine bodyPost_ret (results_tmp5 rfl _ _ _) rfl ?_
      exact ⟨.inr ⟨HNO.out, rfl⟩, H.ext⟩
    · have hsi : ¬ (ns : Int) < 32 * (n : Int) := by omega
      have hst : LiftRelA s w0 (.int .i64 0) (.int .i64 0) (.int .i64 24) wd := ⟨0, rfl, rfl, rfl, by omega, H.ext⟩
      clear H
      go_wp2_with fail
      go_loopw [9, 10, 11] (fun v9 v10 v11 wr => LiftRelA s w0 v9 v10 v11 wr) (fun _ _ vi _ => 28 - (intOf vi).toNat)
      case atStart => exact hst
      case round =>
        clear hst
        obtain ⟨k, rfl, rfl, rfl, hk, hE⟩ := hrel
        by_cases hk4 : k < 4
        · have hns := HR.out.2.2.1
          have hlen1 : 24 + k < s.length := by omega
          have hlen2 : 28 + k < s.length := by omega
          have hx1 := take_snoc s 24 k hlen1
          have hx2 := take_snoc s 28 k hlen2
          have hc1 := fun {W : World} (e : Ext0 w0 W) => e.cell (HR.out.2.2.2.1 (24 + k) hlen1) (fun h => h)
          have hc2 := fun {W : World} (e : Ext0 w0 W) => e.cell (HR.out.2.2.2.1 (28 + k) hlen2) (fun h => h)
          have hg1 := HR.out.2.2.2.2.1 (24 + k) hlen1
          have hg2 := HR.out.2.2.2.2.1 (28 + k) hlen2
          obtain ⟨x, hx⟩ : ∃ x, s[24 + k] = x := ⟨_, rfl⟩
          obtain ⟨y, hy⟩ : ∃ y, s[28 + k] = y := ⟨_, rfl⟩
          rw [hx] at hx1 hc1 hg1
          rw [hy] at hx2 hc2 hg2
          have hr1 := numB_lt k ((s.drop 24).take k) (by rw [List.length_take, List.length_drop]; omega) (fun x hx => HR.out.2.1 x (List.mem_of_mem_drop (List.mem_of_mem_take hx)))
          have hr2 := numB_lt k ((s.drop 28).take k) (by rw [List.length_take, List.length_drop]; omega) (fun x hx => HR.out.2.1 x (List.mem_of_mem_drop (List.mem_of_mem_take hx)))
          have hm1 := numB_snoc ((s.drop 24).take k) x
          have hm2 := numB_snoc ((s.drop 28).take k) y
          rw [← hx1] at hm1
          rw [← hx2] at hm2
          obtain ⟨e0, he0⟩ : ∃ e0, numB ((s.drop 24).take k) = e0 := ⟨_, rfl⟩
          obtain ⟨q0, hq0⟩ : ∃ q0, numB ((s.drop 28).take k) = q0 := ⟨_, rfl⟩
          rw [he0] at hm1 hr1 ⊢
          rw [hq0] at hm2 hr2 ⊢
          have hpk : (256 : Int) ^ k ≤ 16777216 := by
            rcases (show k = 0 ∨ k = 1 ∨ k = 2 ∨ k = 3 by omega) with rfl | rfl | rfl | rfl <;> decide
          obtain ⟨e1, he1⟩ : ∃ e1, numB ((s.drop 24).take (k + 1)) = e1 := ⟨_, rfl⟩
          obtain ⟨q1, hq1⟩ : ∃ q1, numB ((s.drop 28).take (k + 1)) = q1 := ⟨_, rfl⟩
          rw [he1] at hm1
          rw [hq1] at hm2
          have hwx : IntKind.i64.wrap x = x := by rw [IntKind.wrap_i64]; omega
          have hwy : IntKind.i64.wrap y = y := by rw [IntKind.wrap_i64]; omega
          have hwe : IntKind.i64.wrap (256 * e0) = 256 * e0 := by rw [IntKind.wrap_i64]; omega
          have hwq : IntKind.i64.wrap (256 * q0) = 256 * q0 := by rw [IntKind.wrap_i64]; omega
          have hwe2 : IntKind.i64.wrap (256 * e0 + x) = e1 := by rw [IntKind.wrap_i64]; omega
          have hwq2 : IntKind.i64.wrap (256 * q0 + y) = q1 := by rw [IntKind.wrap_i64]; omega
          obtain ⟨i, hi⟩ : ∃ i, 24 + k = i := ⟨_, rfl⟩
          obtain ⟨i4, hi4⟩ : ∃ i4, 28 + k = i4 := ⟨_, rfl⟩
          rw [hi] at hc1 ⊢
          rw [hi4] at hc2
          have hwi : IntKind.i64.wrap ((i : Int) + 4) = (i4 : Int) := by rw [IntKind.wrap_i64]; omega
          have hwi1 : IntKind.i64.wrap ((i : Int) + 1) = ((i + 1 : Nat) : Int) := by rw [IntKind.wrap_i64]; omega
          have hin : i < ns := by omega
          have hin4 : i4 < ns := by omega
          have hini : (i : Int) < (ns : Int) := by omega
          have hin4i : (i4 : Int) < (ns : Int) := by omega
          have hi28 : (i : Int) < 28 := by omega
          have HS := Lib.hid (And.intro he1 (And.intro hq1 hi))
          clear hx1 hx2 hx hy hr1 hr2 hm1 hm2 he0 hq0 he1 hq1 hi hi4 hpk hns hlen1 hlen2
          go_upto_region 11 with fail
          have hD := SH.nil (fun _ => False) wr
          refine D_start hD (by kernel_rfl) (fun hS => ?_)
          try simp only [Act.put, List.setIfInBounds_toArray, List.set_cons_succ, List.set_cons_zero]
          refine D_take 0 (v := ?_) rfl (by kernel_rfl) (by kernel_rfl) (by kernel_rfl) (fun _ _ _ h => h) rfl (by rfl) (fun W hS => ?_) hS ?_
          rotate_left; (focus (first | (go_simp; done) | (go_simp; with_reducible rfl) | (go_simp; rfl))); all_goals skip; (try simp only [List.set_cons_succ, List.set_cons_zero])
          refine D_take 1 (v := ?_) rfl (by kernel_rfl) (by kernel_rfl) (by kernel_rfl) (fun _ _ _ h => h) rfl (by rfl) (fun W hS => ?_) hS ?_
          rotate_left; (focus (first | (go_simp; done) | (go_simp; with_reducible rfl) | (go_simp; rfl))); all_goals skip; (try simp only [List.set_cons_succ, List.set_cons_zero])
          refine D_take 2 (v := ?_) rfl (by kernel_rfl) (by kernel_rfl) (by kernel_rfl) (fun _ _ _ h => h) rfl (by rfl) (fun W hS => ?_) hS ?_
          rotate_left; (focus (first | (go_simp; done) | (go_simp; with_reducible rfl) | (go_simp; rfl))); all_goals skip; (try simp only [List.set_cons_succ, List.set_cons_zero])
          refine D_take 3 (v := ?_) rfl (by kernel_rfl) (by kernel_rfl) (by kernel_rfl) (fun _ _ _ h => h) rfl (by rfl) (fun W hS => ?_) hS ?_
          rotate_left; (focus (first | (go_simp; done) | (go_simp; with_reducible rfl) | (go_simp; rfl))); all_goals skip; (try simp only [List.set_cons_succ, List.set_cons_zero])
          refine D_take 4 (v := ?_) rfl (by kernel_rfl) (by kernel_rfl) (by kernel_rfl) (fun _ _ _ h => h) rfl (by rfl) (fun W hS => ?_) hS ?_
          rotate_left; (focus (first | (go_simp; done) | (go_simp; with_reducible rfl) | (go_simp; rfl))); all_goals skip; (try simp only [List.set_cons_succ, List.set_cons_zero])
          refine D_take 5 (v := (.int .u8 x)) rfl (by kernel_rfl) (by kernel_rfl) (by kernel_rfl) (fun _ _ _ h => h) rfl (by rfl) (fun W hS => R_loadCellW (ty := 5) (x := .tmp 44) rfl rfl (hc1 (hE.trans0 hS.ext)) Tryz.isAgg5) hS ?_; (try simp only [List.set_cons_succ, List.set_cons_zero])
          refine D_take 6 (v := ?_) rfl (by kernel_rfl) (by kernel_rfl) (by kernel_rfl) (fun _ _ _ h => h) rfl (by rfl) (fun W hS => ?_) hS ?_
          rotate_left; (focus (first | (go_simp; done) | (go_simp; with_reducible rfl) | (go_simp; rfl))); all_goals skip; (try simp only [List.set_cons_succ, List.set_cons_zero])
          refine D_take 7 (v := ?_) rfl (by kernel_rfl) (by kernel_rfl) (by kernel_rfl) (fun _ _ _ h => h) rfl (by rfl) (fun W hS => ?_) hS ?_
          rotate_left; (focus (first | (go_simp; done) | (go_simp; with_reducible rfl) | (go_simp; rfl))); all_goals skip; (try simp only [List.set_cons_succ, List.set_cons_zero])
          refine D_take 8 (v := ?_) rfl (by kernel_rfl) (by kernel_rfl) (by kernel_rfl) (fun _ _ _ h => h) rfl (by rfl) (fun W hS => ?_) hS ?_
          rotate_left; (focus (first | (go_simp; done) | (go_simp; with_reducible rfl) | (go_simp; rfl))); all_goals skip; (try simp only [List.set_cons_succ, List.set_cons_zero])
          refine D_take 9 (v := ?_) rfl (by kernel_rfl) (by kernel_rfl) (by kernel_rfl) (fun _ _ _ h => h) rfl (by rfl) (fun W hS => ?_) hS ?_
          rotate_left; (focus (first | (go_simp; done) | (go_simp; with_reducible rfl) | (go_simp; rfl))); all_goals skip; (try simp only [List.set_cons_succ, List.set_cons_zero])
          refine D_take 10 (v := ?_) rfl (by kernel_rfl) (by kernel_rfl) (by kernel_rfl) (fun _ _ _ h => h) rfl (by rfl) (fun W hS => ?_) hS ?_
          rotate_left; (focus (first | (go_simp; done) | (go_simp; with_reducible rfl) | (go_simp; rfl))); all_goals skip; (try simp only [List.set_cons_succ, List.set_cons_zero])
          refine D_take 11 (v := ?_) rfl (by kernel_rfl) (by kernel_rfl) (by kernel_rfl) (fun _ _ _ h => h) rfl (by rfl) (fun W hS => ?_) hS ?_
          rotate_left; (focus (first | (go_simp; done) | (go_simp; with_reducible rfl) | (go_simp; rfl))); all_goals skip; (try simp only [List.set_cons_succ, List.set_cons_zero])
          refine D_take 12 (v := ?_) rfl (by kernel_rfl) (by kernel_rfl) (by kernel_rfl) (fun _ _ _ h => h) rfl (by rfl) (fun W hS => ?_) hS ?_
          rotate_left; (focus (first | (go_simp; done) | (go_simp; with_reducible rfl) | (go_simp; rfl))); all_goals skip; (try simp only [List.set_cons_succ, List.set_cons_zero])
          refine D_take 13 (v := ?_) rfl (by kernel_rfl) (by kernel_rfl) (by kernel_rfl) (fun _ _ _ h => h) rfl (by rfl) (fun W hS => ?_) hS ?_
          rotate_left; (focus (first | (go_simp; done) | (go_simp; with_reducible rfl) | (go_simp; rfl))); all_goals skip; (try simp only [List.set_cons_succ, List.set_cons_zero])
          refine D_take 14 (v := (.int .u8 y)) rfl (by kernel_rfl) (by kernel_rfl) (by kernel_rfl) (fun _ _ _ h => h) rfl (by rfl) (fun W hS => R_loadCellW (ty := 5) (x := .tmp 53) rfl rfl (hc2 (hE.trans0 hS.ext)) Tryz.isAgg5) hS ?_; (try simp only [List.set_cons_succ, List.set_cons_zero])
          refine D_take 15 (v := ?_) rfl (by kernel_rfl) (by kernel_rfl) (by kernel_rfl) (fun _ _ _ h => h) rfl (by rfl) (fun W hS => ?_) hS ?_
          rotate_left; (focus (first | (go_simp; done) | (go_simp; with_reducible rfl) | (go_simp; rfl))); all_goals skip; (try simp only [List.set_cons_succ, List.set_cons_zero])
          refine D_take 16 (v := ?_) rfl (by kernel_rfl) (by kernel_rfl) (by kernel_rfl) (fun _ _ _ h => h) rfl (by rfl) (fun W hS => ?_) hS ?_
          rotate_left; (focus (first | (go_simp; done) | (go_simp; with_reducible rfl) | (go_simp; rfl))); all_goals skip; (try simp only [List.set_cons_succ, List.set_cons_zero])
          refine D_take 17 (v := ?_) rfl (by kernel_rfl) (by kernel_rfl) (by kernel_rfl) (fun _ _ _ h => h) rfl (by rfl) (fun W hS => ?_) hS ?_
          rotate_left; (focus (first | (go_simp; done) | (go_simp; with_reducible rfl) | (go_simp; rfl))); all_goals skip; (try simp only [List.set_cons_succ, List.set_cons_zero])
          refine D_take 18 (v := ?_) rfl (by kernel_rfl) (by kernel_rfl) (by kernel_rfl) (fun _ _ _ h => h) rfl (by rfl) (fun W hS => ?_) hS ?_
          rotate_left; (focus (first | (go_simp; done) | (go_simp; with_reducible rfl) | (go_simp; rfl))); all_goals skip; (try simp only [List.set_cons_succ, List.set_cons_zero])
          refine wpAnyH_done (by kernel_rfl) ?_ _
          go_wp2_with fail
          go_roundw
          case rel => exact ⟨k + 1, by have := HS.out.2.2; subst this; rfl, by rw [HS.out.1], by rw [HS.out.2.1], by omega, hE.trans0 hS.ext⟩
          case measure => simp [intOf]; omega
        · obtain rfl : k = 4 := by omega
          have hep : numB ((s.drop 24).take 4) = epochP s := rfl
          have hsq : numB ((s.drop 28).take 4) = seqP s := rfl
          have her := HR.out.2.2.2.2.2.2.1
          have hqr := HR.out.2.2.2.2.2.2.2
          rw [hep] at her ⊢
          rw [hsq] at hqr ⊢
          have hue : U32 (epochP s) := ⟨her.1, by have := her.2; omega⟩
          have huq : U32 (seqP s) := ⟨hqr.1, by have := hqr.2; omega⟩
          clear her hqr hep hsq
          obtain ⟨ep, hep⟩ : ∃ ep, epochP s = ep := ⟨_, rfl⟩
          obtain ⟨sq, hsq⟩ : ∃ sq, seqP s = sq := ⟨_, rfl⟩
          rw [hep] at hue ⊢
          rw [hsq] at huq ⊢
          have HL := Lib.hid (And.intro hep hsq)
          clear hep hsq
          have h24 : ¬ ((24 + 4 : Nat) : Int) < 28 := by omega
          have H : SH (fun _ => False) wr wr [] := SH.nil _ _
          obtain ⟨wb, hwb⟩ : ∃ wb, wr = wb := ⟨_, rfl⟩
          have H : SH (fun _ => False) wb wr [] := by rw [← hwb]; exact SH.nil _ _
          rw [hwb] at hE
          clear hwb
          go_upto_region 13 with (first
            | ((refine L_lit (e := ?_) (cs := ?_) rfl rfl H ?_ ?_; rotate_left 2; (focus (intro _; first | (go_simp; done) | (go_simp; with_reducible rfl) | (go_simp; rfl))); all_goals skip; clear H; intro g w H; (try simp only [Act.put, List.setIfInBounds_toArray, List.set_cons_succ, List.set_cons_zero, List.getElem_toArray, List.getElem_cons_succ, List.getElem_cons_zero])); replace H := H.toOwn 0 rfl 1 0 0 (Nat.le_refl _) (Nat.zero_le _) rfl [] rfl; simp only [List.set_cons_zero] at H))
          have hstB : LiftRelB s long wb (.slice (some ⟨g, 0, none⟩) 0 0) (.int .i64 0) w := ⟨0, _, _, rfl, rfl, Nat.zero_le _, H⟩
          clear H
          go_wp2_with fail
          go_loopw [12, 13] (fun v12 v13 wx => LiftRelB s long wb v12 v13 wx) (fun _ vi _ => long - (intOf vi).toNat)
          case atStart => exact hstB
          case round =>
            clear hstB
            obtain ⟨k, Ab, cb, rfl, rfl, hk, H⟩ := hrel
            by_cases hkl : k < long
            · have hkli : (k : Int) < (long : Int) := by omega
              have hns := HR.out.2.2.1
              have hidx : 32 * ((k + 2) / 24) + (k + 2) % 24 < s.length := by omega
              have hmore := unlay_more s k hidx
              have hcl := (hE.trans0 H.ext).cell (HR.out.2.2.2.1 _ hidx) (fun h => h)
              obtain ⟨x, hx⟩ : ∃ x, s[32 * ((k + 2) / 24) + (k + 2) % 24] = x := ⟨_, rfl⟩
              rw [hx] at hmore hcl
              obtain ⟨k2, hk2⟩ : ∃ k2, k + 2 = k2 := ⟨_, rfl⟩
              rw [hk2] at hcl hidx
              obtain ⟨d, hd⟩ : ∃ d, k2 / 24 = d := ⟨_, rfl⟩
              obtain ⟨m, hm⟩ : ∃ m, k2 % 24 = m := ⟨_, rfl⟩
              rw [hd, hm] at hcl hidx
              obtain ⟨j, hj⟩ : ∃ j, 32 * d + m = j := ⟨_, rfl⟩
              rw [hj] at hcl hidx
              have hw1 : IntKind.i64.wrap ((k : Int) + 2) = (k2 : Int) := by rw [IntKind.wrap_i64]; omega
              have hq1 : (k2 : Int).tdiv 24 = (d : Int) := by rw [Int.tdiv_eq_ediv_of_nonneg (by omega)]; omega
              have hq2 : (k2 : Int).tmod 24 = (m : Int) := by rw [Int.tmod_eq_emod_of_nonneg (by omega)]; omega
              have hwd : IntKind.i64.wrap (d : Int) = (d : Int) := by rw [IntKind.wrap_i64]; omega
              have hwm : IntKind.i64.wrap (m : Int) = (m : Int) := by rw [IntKind.wrap_i64]; omega
              have hw3 : IntKind.i64.wrap (32 * (d : Int)) = 32 * (d : Int) := by rw [IntKind.wrap_i64]; omega
              have hw4 : IntKind.i64.wrap (32 * (d : Int) + (m : Int)) = (j : Int) := by rw [IntKind.wrap_i64]; omega
              have hw5 : IntKind.i64.wrap ((k : Int) + 1) = ((k + 1 : Nat) : Int) := by rw [IntKind.wrap_i64]; omega
              have hjn : j < ns := by omega
              have hjni : (j : Int) < (ns : Int) := by omega
              have hgb : (k + [x].length) * 1 ≤ 140737488355328 := by show (k + 1) * 1 ≤ _; omega
              have hgm : k + [x].length ≤ maxLen := by show k + 1 ≤ _; simp only [maxLen]; omega
              have HM := Lib.hid hmore
              clear hmore hx hk2 hd hm hj hidx hns
              go_wp2_with (first
                | ((refine L_lit (e := ?_) (cs := ?_) rfl rfl H ?_ ?_; rotate_left 2; (focus (intro _; first | (go_simp; done) | (go_simp; with_reducible rfl) | (go_simp; rfl))); all_goals skip; clear H; intro g w H; (try simp only [Act.put, List.setIfInBounds_toArray, List.set_cons_succ, List.set_cons_zero, List.getElem_toArray, List.getElem_cons_succ, List.getElem_cons_zero])))
                | (at_builtin; go_loud (refine L_append (ys := [x]) (encInt_len .u8) (encInt_one .u8) rfl rfl Tryz.underlying22 info5 rfl (by decide) H 1 rfl rfl rfl (one_own H) hgb hgm ?_); clear H; intro v7 w H hnn; clear hnn; simp only [List.set_cons_zero, List.set_cons_succ] at H))
              replace H := H.drop (L' := [_]) (.cons _ (List.Sublist.refl _))
              obtain ⟨A7, c7, rfl⟩ := own_slice (H.get 0 rfl)
              go_roundw
              case rel =>
                refine ⟨k + 1, A7, c7, rfl, rfl, by omega, ?_⟩
                rw [HM.out, cellsOf_append]
                exact H
              case measure => simp [intOf]; omega
            · obtain rfl : k = long := by omega
              have hkl2 : ¬ (k : Int) < (k : Int) := by omega
              obtain ⟨b, hbe⟩ : ∃ b, unlayP s k = b := ⟨_, rfl⟩
              have hbl : b.length = k := by rw [← hbe]; simp [unlayP]
              have hbb : ∀ x ∈ b, 0 ≤ x ∧ x ≤ 255 := by
                intro x hx
                rw [← hbe] at hx
                obtain ⟨i, _, rfl⟩ := List.mem_map.1 hx
                rw [List.getD_eq_getElem?_getD]
                cases h9 : s[32 * ((i + 2) / 24) + (i + 2) % 24]? with
                | none => simp
                | some y => exact HR.out.2.1 y (List.mem_of_getElem? h9)
              rw [hbe] at H
              have hrb := own_rd (H.get 0 rfl) hbl.symm
              have hlay := fun {w : World} (h : RdS (encInt .u8) 1 w (.slice Ab k cb) b) => refLay_any ep sq (.slice Ab k cb) b w hue huq h hbb (by omega)
              unfold LayE at hlay
              have hlb := lay_bytes (e := ep) (q := sq) hbb
              have hsb : ∀ x ∈ s.take (32 * n), 0 ≤ x ∧ x ≤ 255 := fun x hx => HR.out.2.1 x (List.mem_of_mem_take hx)
              have hrs := sub_rd HR.out.1 0 (32 * n) cap (by rw [HR.out.2.2.1]; omega) (by omega)
              rw [List.drop_zero, Nat.add_zero] at hrs
              have hlift : liftP s = if layP ep sq b = s.take (32 * n) then some ⟨ep, sq, b, n⟩ else none := by
                unfold liftP
                rw [HR.out.2.2.1, if_neg h32, HR.out.2.2.2.2.2.1, HN.out, if_neg hsl, HL.out.1, HL.out.2, hbe]
              obtain ⟨ys, hys⟩ : ∃ ys, layP ep sq b = ys := ⟨_, rfl⟩
              obtain ⟨zs, hzs⟩ : ∃ zs, s.take (32 * n) = zs := ⟨_, rfl⟩
              rw [hys] at hlay hlb hlift
              rw [hzs] at hsb hrs hlift
              have hinj : (strOfNums ys).toList = (strOfNums zs).toList ↔ ys = zs := ⟨str_inj hlb hsb, fun h => by rw [h]⟩
              have hs2 := fun {W : World} (e : Ext0 w0 W) => run_string (hrs.keep e) Tryz.underlying22 Tryz.underlying5 Tryz.underlying9
              obtain ⟨s2, hs2e⟩ : ∃ s2, strOfNums zs = s2 := ⟨_, rfl⟩
              rw [hs2e] at hs2 hinj
              obtain ⟨s1, hs1e⟩ : ∃ s1, strOfNums ys = s1 := ⟨_, rfl⟩
              rw [hs1e] at hinj
              have HF := Lib.hid (And.intro hlift (And.intro hinj (And.intro hs1e hbl)))
              have hnc : 32 * (n : Int) ≤ (cap : Int) := by omega
              have hn0 : (0 : Int) ≤ 32 * (n : Int) := by omega
              have hnt : (32 * (n : Int)).toNat = 32 * n := by omega
              have hc0 : ¬ cap = 0 := by omega
              clear hlift hinj hs1e hbl hys hzs hlb hsb hrs hbe hbb hs2e hsi
              go_upto_region 18 with (first
                | (go_at_call 34; refine (hlay hrb).mono ?_; rintro e1 w1 ⟨vt, rfl, hrt, hE1, hfr⟩))
              clear hlay hfr
              have HB := H.calls hE1
              clear H hrb
              have hs1 := fun {W : World} (e : Ext0 w1 W) => run_string (hrt.keep e) Tryz.underlying22 Tryz.underlying5 Tryz.underlying9
              rw [HF.out.2.2.1] at hs1
              have hEw : Ext0 w0 w1 := hE.trans0 HB.ext
              have hD := SH.nil (fun _ => False) w1
              by_cases hss : s1.toList = s2.toList
              · have HS := Lib.hid hss
                refine D_start hD (by kernel_rfl) (fun hS => ?_)
                try simp only [Act.put, List.setIfInBounds_toArray, List.set_cons_succ, List.set_cons_zero]
                refine D_take 0 (v := ?_) rfl (by kernel_rfl) (by kernel_rfl) (by kernel_rfl) (fun _ _ _ h => h) rfl (by rfl) (fun W hS => ?_) hS ?_
                rotate_left; (focus (first | (go_simp; done) | (go_simp; with_reducible rfl) | (go_simp; rfl))); all_goals skip; (try simp only [List.set_cons_succ, List.set_cons_zero])
                refine D_take 1 (v := (.string s1)) rfl (by kernel_rfl) (by kernel_rfl) (by kernel_rfl) (fun _ _ _ h => h) rfl (by rfl) (fun W hS => R_convertW (src := 22) (dst := 9) (x := .tmp 85) rfl rfl (hs1 hS.ext)) hS ?_; (try simp only [List.set_cons_succ, List.set_cons_zero])
                refine D_take 2 (v := ?_) rfl (by kernel_rfl) (by kernel_rfl) (by kernel_rfl) (fun _ _ _ h => h) rfl (by rfl) (fun W hS => ?_) hS ?_
                rotate_left; (focus (first | (go_simp; done) | (go_simp; with_reducible rfl) | (go_simp; rfl))); all_goals skip; (try simp only [List.set_cons_succ, List.set_cons_zero])
                refine D_take 3 (v := ?_) rfl (by kernel_rfl) (by kernel_rfl) (by kernel_rfl) (fun _ _ _ h => h) rfl (by rfl) (fun W hS => ?_) hS ?_
                rotate_left; (focus (first | (go_simp; done) | (go_simp; with_reducible rfl) | (go_simp; rfl))); all_goals skip; (try simp only [List.set_cons_succ, List.set_cons_zero])
                refine D_take 4 (v := ?_) rfl (by kernel_rfl) (by kernel_rfl) (by kernel_rfl) (fun _ _ _ h => h) rfl (by rfl) (fun W hS => ?_) hS ?_
                rotate_left; (focus (first | (go_simp; done) | (go_simp; with_reducible rfl) | (go_simp; rfl))); all_goals skip; (try simp only [List.set_cons_succ, List.set_cons_zero])
                refine D_take 5 (v := ?_) rfl (by kernel_rfl) (by kernel_rfl) (by kernel_rfl) (fun _ _ _ h => h) rfl (by rfl) (fun W hS => ?_) hS ?_
                rotate_left; (focus (first | (go_simp; done) | (go_simp; with_reducible rfl) | (go_simp; rfl))); all_goals skip; (try simp only [List.set_cons_succ, List.set_cons_zero])
                refine D_take 6 (v := (.string s2)) rfl (by kernel_rfl) (by kernel_rfl) (by kernel_rfl) (fun _ _ _ h => h) rfl (by rfl) (fun W hS => R_convertW (src := 22) (dst := 9) (x := .tmp 90) rfl rfl (hs2 (hEw.trans0 hS.ext))) hS ?_; (try simp only [List.set_cons_succ, List.set_cons_zero])
                refine D_take 7 (v := ?_) rfl (by kernel_rfl) (by kernel_rfl) (by kernel_rfl) (fun _ _ _ h => h) rfl (by rfl) (fun W hS => ?_) hS ?_
                rotate_left; (focus (first | (go_simp; done) | (go_simp; with_reducible rfl) | (go_simp; rfl))); all_goals skip; (try simp only [List.set_cons_succ, List.set_cons_zero])
                refine wpAnyH_done (by kernel_rfl) ?_ _
                go_wp2_with fail
                (try simp only [Exit.inBlock, Exit.then])
                refine bodyPost_ret (results_tmp5 rfl _ _ _) rfl ?_
                have HB2 := HB.drew
                refine ⟨.inl ⟨⟨ep, sq, b, n⟩, .slice Ab k cb, by rw [HF.out.1, if_pos (HF.out.2.1.1 HS.out)], rfl, own_rd (HB2.get 0 rfl) HF.out.2.2.2.symm, fun j hj => ⟨?_, HB2.lt _ List.mem_cons_self j hj⟩⟩, hE.trans0 HB2.ext⟩
                exact Nat.le_trans hE.size ((HB2.own _ List.mem_cons_self j hj).resolve_left (fun h => h))
              · have hss2 : (s1.toList == s2.toList) = false := by simp [hss]
                have hss3 : (s1.toList != s2.toList) = true := by simp [hss]
                refine D_start hD (by kernel_rfl) (fun hS => ?_)
                try simp only [Act.put, List.setIfInBounds_toArray, List.set_cons_succ, List.set_cons_zero]
                refine D_take 0 (v := ?_) rfl (by kernel_rfl) (by kernel_rfl) (by kernel_rfl) (fun _ _ _ h => h) rfl (by rfl) (fun W hS => ?_) hS ?_
                rotate_left; (focus (first | (go_simp; done) | (go_simp; with_reducible rfl) | (go_simp; rfl))); all_goals skip; (try simp only [List.set_cons_succ, List.set_cons_zero])
                refine D_take 1 (v := (.string s1)) rfl (by kernel_rfl) (by kernel_rfl) (by kernel_rfl) (fun _ _ _ h => h) rfl (by rfl) (fun W hS => R_convertW (src := 22) (dst := 9) (x := .tmp 85) rfl rfl (hs1 hS.ext)) hS ?_; (try simp only [List.set_cons_succ, List.set_cons_zero])
                refine D_take 2 (v := ?_) rfl (by kernel_rfl) (by kernel_rfl) (by kernel_rfl) (fun _ _ _ h => h) rfl (by rfl) (fun W hS => ?_) hS ?_
                rotate_left; (focus (first | (go_simp; done) | (go_simp; with_reducible rfl) | (go_simp; rfl))); all_goals skip; (try simp only [List.set_cons_succ, List.set_cons_zero])
                refine D_take 3 (v := ?_) rfl (by kernel_rfl) (by kernel_rfl) (by kernel_rfl) (fun _ _ _ h => h) rfl (by rfl) (fun W hS => ?_) hS ?_
                rotate_left; (focus (first | (go_simp; done) | (go_simp; with_reducible rfl) | (go_simp; rfl))); all_goals skip; (try simp only [List.set_cons_succ, List.set_cons_zero])
                refine D_take 4 (v := ?_) rfl (by kernel_rfl) (by kernel_rfl) (by kernel_rfl) (fun _ _ _ h => h) rfl (by rfl) (fun W hS => ?_) hS ?_
                rotate_left; (focus (first | (go_simp; done) | (go_simp; with_reducible rfl) | (go_simp; rfl))); all_goals skip; (try simp only [List.set_cons_succ, List.set_cons_zero])
                refine D_take 5 (v := ?_) rfl (by kernel_rfl) (by kernel_rfl) (by kernel_rfl) (fun _ _ _ h => h) rfl (by rfl) (fun W hS => ?_) hS ?_
                rotate_left; (focus (first | (go_simp; done) | (go_simp; with_reducible rfl) | (go_simp; rfl))); all_goals skip; (try simp only [List.set_cons_succ, List.set_cons_zero])
                refine D_take 6 (v := (.string s2)) rfl (by kernel_rfl) (by kernel_rfl) (by kernel_rfl) (fun _ _ _ h => h) rfl (by rfl) (fun W hS => R_convertW (src := 22) (dst := 9) (x := .tmp 90) rfl rfl (hs2 (hEw.trans0 hS.ext))) hS ?_; (try simp only [List.set_cons_succ, List.set_cons_zero])
                refine D_take 7 (v := ?_) rfl (by kernel_rfl) (by kernel_rfl) (by kernel_rfl) (fun _ _ _ h => h) rfl (by rfl) (fun W hS => ?_) hS ?_
                rotate_left; (focus (first | (go_simp; done) | (go_simp; with_reducible rfl) | (go_simp; rfl))); all_goals skip; (try simp only [List.set_cons_succ, List.set_cons_zero])
                refine wpAnyH_done (by kernel_rfl) ?_ _
                have HS := Lib.hid hss
                go_wp2_with fail
                (try simp only [Exit.inBlock, Exit.then])
                refine bodyPost_ret (results_tmp5 rfl _ _ _) rfl ?_
                exact ⟨.inr ⟨by rw [HF.out.1, if_neg (fun h => HS.out (HF.out.2.1.2 h))], rfl⟩, hE.trans0 HB.drew.ext⟩
end Go.Proofs.YtgmeahogdjhejaaGreatDoor
