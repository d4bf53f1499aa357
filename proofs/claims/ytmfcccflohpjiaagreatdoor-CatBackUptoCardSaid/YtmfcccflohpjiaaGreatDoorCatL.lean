/- Catalogues: Encode. -/
import Derived.Test.YtmfcccflohpjiaaGreatDoorCatK
import Derived.Test.YtmfcccflohpjiaaGreatDoorTabB
namespace Go.Proofs.YtmfcccflohpjiaaGreatDoor
set_option linter.unusedVariables false
set_option linter.unusedSimpArgs false
open Go.RowKit

/-- The bytes of a path, as numbers. -/
def pN (s : ByteArray) : List Int := s.data.toList.map (fun b => (b.toNat : Int))
theorem pN_str (s : ByteArray) : strOfNums (pN s) = s := by
  obtain ⟨d⟩ := s
  unfold strOfNums pN
  congr 1
  rw [List.map_map]
  have : ((fun n : Int => UInt8.ofNat n.toNat) ∘ fun b : UInt8 => (b.toNat : Int)) = id := by funext b; simp
  rw [this]
  simp
theorem pN_len (s : ByteArray) : (pN s).length = s.size := by
  unfold pN
  rw [List.length_map, Array.length_toList]
  rfl
theorem pN_bytes (s : ByteArray) : ∀ y ∈ pN s, 0 ≤ y ∧ y ≤ 255 := by
  intro y hy
  obtain ⟨b, _, rfl⟩ := List.mem_map.1 hy
  have := b.toNat_lt
  omega
def nums (x : Ent) : List Int := [x.mode, x.time, x.block, x.at_, x.size]
def encE (x : Ent) : List Int := (be2 (pN x.path).length ++ pN x.path) ++ (nums x).flatMap be8
def encCat (xs : List Ent) : List Int := be8 (xs.length : Int) ++ xs.flatMap encE
theorem encE_snoc (xs : List Ent) (j : Nat) (h : j < xs.length) : (xs.take (j + 1)).flatMap encE = (xs.take j).flatMap encE ++ encE xs[j] := by
  rw [List.take_add_one, List.getElem?_eq_getElem h, Option.toList_some, List.flatMap_append, List.flatMap_cons, List.flatMap_nil, List.append_nil]
theorem encE_len (x : Ent) (h : x.path.size ≤ 32) : (encE x).length ≤ 100 := by
  unfold encE
  rw [List.length_append, List.length_append, flat8_len, pN_len]
  simp [nums, be2]
  omega
theorem encTake_len : ∀ (xs : List Ent), (∀ x ∈ xs, x.path.size ≤ 32) → (xs.flatMap encE).length ≤ xs.length * 100
  | [], _ => by simp
  | x :: xs, h => by
    rw [List.flatMap_cons, List.length_append, List.length_cons]
    have h1 := encE_len x (h x (.head _))
    have h2 := encTake_len xs (fun y hy => h y (.tail _ hy))
    omega
theorem good_path {xs : List Ent} (h : CatGood xs) : ∀ x ∈ xs, x.path.size ≤ 32 := fun x hx => by
  obtain ⟨i, hi, rfl⟩ := List.mem_iff_getElem.1 hx
  have h1 := (h.2 i hi _ (List.getElem?_eq_getElem hi)).1
  unfold aloneP at h1
  simp only [Bool.and_eq_true] at h1
  have := Pth.good_len h1.1
  rw [Array.length_toList] at this
  exact this
theorem octInt_b (v : Value) (xs : List Int) (n : Int) (w0 : World) (hr : RdS (encInt .u8) 1 w0 v xs) (hl : xs.length ≤ 1000000000) : Calls Tryz.prog 22 #[v, .int .i64 n] w0 (GivesB w0 (xs ++ be8 n)) :=
  (octInt_any v xs n w0 hr hl).mono fun e w ⟨g, he, h⟩ => ⟨_, he, bytesRd (h.at_ 0 rfl), h.ext⟩
def PutRel (hs pre : List Int) (L : List Asr) (w0 : World) (v3 vi : Value) (wr : World) : Prop :=
  ∃ k : Nat, vi = .int .i64 (k : Int) ∧ k ≤ hs.length ∧ RdS (encInt .u8) 1 wr v3 (pre ++ (hs.take k).flatMap be8) ∧ SH (fun _ => False) w0 wr L
def EncRel (xs : List Ent) (pre : List Int) (w0 : World) (v3 vi : Value) (wr : World) : Prop :=
  ∃ k : Nat, vi = .int .i64 (k : Int) ∧ k ≤ xs.length ∧ RdS (encInt .u8) 1 wr v3 (pre ++ (xs.take k).flatMap encE) ∧ Ext0 w0 wr
def EncE (xs : List Ent) (e : Ending) (w' : World) : Prop :=
  (CatGood xs ∧ ∃ v, e = .returned (.tuple #[v, .int .i64 0]) ∧ RdS (encInt .u8) 1 w' v (encCat xs)) ∨ (¬ CatGood xs ∧ e = .returned (.tuple #[.slice none 0 0, .int .i64 3]))
set_option maxRecDepth 100000 in
set_option maxHeartbeats 4000000 in
theorem encode_any (v : Value) (xs : List Ent) (w0 : World) (hr : RdS eCells 6 w0 v xs) (hn : xs.length ≤ 100000) (hp : PathOk xs) (hm : Pth.ML w0) : Calls Tryz.prog 7 #[v] w0 fun e w' => EncE xs e w' ∧ Ext0 w0 w' := by
  obtain ⟨A, cap, rfl, hcap⟩ := hr.len
  have hg := catGood_any (.slice A xs.length cap) xs w0 hr hn hp hm
  have HR := Lib.hid hr
  clear hr hp hm
  go_enter Tryz.func7, Tryz.ntmps7
  go_upto_if 11 with (go_at_call 11; refine hg.mono ?_; rintro e w ⟨⟨q, rfl, hq⟩, hE0⟩)
  clear hg
  cases q
  · go_wp2_with fail
    go_ret2
    exact ⟨.inr ⟨fun h => Bool.false_ne_true (hq.out.2 ((catGood_iff xs).2 h)), rfl⟩, hE0⟩
  · have hG : CatGood xs := (catGood_iff xs).1 (hq.out.1 rfl)
    have hp32 := good_path hG
    have h12 := hG.1
    have HG := Lib.hid (And.intro hG hp32)
    clear hG hp32 hq
    have hhd := fun {W : World} => octInt_b (.slice none 0 0) [] (xs.length : Int) W (RdS.nil _ _ _) (by simp)
    rw [List.nil_append] at hhd
    obtain ⟨hd, hhd2⟩ : ∃ hd, be8 (xs.length : Int) = hd := ⟨_, rfl⟩
    have hdl : hd.length = 8 := by rw [← hhd2, be8_len]
    rw [hhd2] at hhd
    have HD := Lib.hid (And.intro hhd2 hdl)
    clear hhd2 hdl
    go_wp2_with (go_at_call 22; refine hhd.mono ?_; rintro e w1 ⟨v4, rfl, hrd, hE1⟩)
    have H0 : Ext0 w0 w1 := hE0.trans0 hE1
    clear hhd hE0 hE1
    go_loopw [4, 17] (fun v4 vi wr => EncRel xs hd w0 v4 vi wr) (fun _ vi _ => xs.length - (intOf vi).toNat)
    case atStart => exact ⟨0, rfl, Nat.zero_le _, by simpa using hrd, H0⟩
    case round =>
      clear H0 hrd
      obtain ⟨j, rfl, hj, hrd, hE⟩ := hrel
      have H : SH (fun _ => False) wr wr [] := SH.nil _ _
      by_cases hjn : j < xs.length
      · have hji : (j : Int) < (xs.length : Int) := by omega
        obtain ⟨x, hx⟩ : ∃ x, xs[j] = x := ⟨_, rfl⟩
        obtain ⟨bb, off, cs, T, fr, rfl, hbb, hcs⟩ := ent_cells HR.out hjn hx
        replace hbb := hE.keep hbb (fun e => e)
        have HE0 := Lib.hid hE
        clear hE
        have hci := hcs j hjn
        have hsn := encE_snoc xs j hjn
        have hps : x.path.size ≤ 32 := HG.out.2 x (by rw [← hx]; exact List.getElem_mem _)
        rw [hx] at hci hsn
        have hlenj : (hd ++ (xs.take j).flatMap encE).length ≤ 10000 := by
          have h1 := encTake_len (xs.take j) (fun y hy => HG.out.2 y (List.mem_of_mem_take hy))
          rw [List.length_take] at h1
          rw [List.length_append, HD.out.2]
          omega
        have HSN := Lib.hid hsn
        clear hsn hx
        obtain ⟨p, mode, time, block, at_, size⟩ := x
        have hci6 : ∀ j', j' < 6 → cs[off + j * 6 + j']? = [Value.string p, .int .i64 mode, .int .i64 time, .int .i64 block, .int .i64 at_, .int .i64 size][j']? := fun j hj => hci j hj
        clear hci
        obtain ⟨pre, hpr⟩ : ∃ pre, hd ++ (xs.take j).flatMap encE = pre := ⟨_, rfl⟩
        rw [hpr] at hrd hlenj
        have HPR := Lib.hid hpr
        have htx := fun {W : World} {u : Value} (h : RdS (encInt .u8) 1 W u pre) => octText_any u pre (pN p) W h (by omega) (by rw [pN_len]; simp only at hps; omega) (pN_bytes p)
        rw [pN_str] at htx
        obtain ⟨pr2, hpr2⟩ : ∃ pr2, pre ++ (be2 (pN p).length ++ pN p) = pr2 := ⟨_, rfl⟩
        have hlen2 : pr2.length ≤ 20000 := by rw [← hpr2, List.length_append, List.length_append, pN_len]; simp only [be2, List.length_cons, List.length_nil]; simp only at hps; omega
        rw [hpr2] at htx
        have HPR2 := Lib.hid hpr2
        clear hpr hpr2 hlenj
        obtain ⟨bl, hbl⟩ : ∃ bl, [mode, time, block, at_, size] = bl := ⟨_, rfl⟩
        have hbl5 : bl.length = 5 := by rw [← hbl]; rfl
        have HBL := Lib.hid hbl
        clear hbl
        go_wp2_with (first
          | (refine L_loadmidr rfl rfl H rfl hbb (fun e => e) Tryz.underlying39 rfl info39 [Value.string p, .int .i64 mode, .int .i64 time, .int .i64 block, .int .i64 at_, .int .i64 size] rfl hci6 ?_; (try simp only [Act.put, List.setIfInBounds_toArray, List.set_cons_succ, List.set_cons_zero, List.getElem_toArray, List.getElem_cons_succ, List.getElem_cons_zero]))
          | (refine L_alloc rfl rfl H Tryz.zeroValue39 ?_; clear H; intro g6 w H; simp only [Value.cells] at H; (try simp only [Act.put, List.setIfInBounds_toArray, List.set_cons_succ, List.set_cons_zero, List.getElem_toArray, List.getElem_cons_succ, List.getElem_cons_zero]))
          | (refine L_storerow rfl rfl H 0 rfl rfl rfl info39 rfl rfl (oneE _ _ _ _ _ _) ?_; clear H; intro w H; simp only [List.set_cons_zero] at H; (try simp only [Act.put, List.setIfInBounds_toArray, List.set_cons_succ, List.set_cons_zero, List.getElem_toArray, List.getElem_cons_succ, List.getElem_cons_zero]))
          | (refine L_load1 rfl rfl H 0 rfl rfl rfl Tryz.isAgg3 ?_; (try simp only [Act.put, List.setIfInBounds_toArray, List.set_cons_succ, List.set_cons_zero, List.getElem_toArray, List.getElem_cons_succ, List.getElem_cons_zero])) | (refine L_load1 rfl rfl H 0 rfl rfl rfl Tryz.isAgg9 ?_; (try simp only [Act.put, List.setIfInBounds_toArray, List.set_cons_succ, List.set_cons_zero, List.getElem_toArray, List.getElem_cons_succ, List.getElem_cons_zero]))
          | (go_at_call 23; refine (htx (hrd.keep H.ext)).mono ?_; clear hrd; rintro e w ⟨⟨v5, rfl, hrd⟩, hE⟩; replace H := H.calls hE; clear hE)
          | (refine L_litE (e := 3) (cs := ?_) rfl rfl H ?_ ?_; rotate_left; (focus (intro _; first | (go_simp; done) | (go_simp; rfl))); all_goals skip; clear H; intro g7 w H hE; replace hrd := hrd.keep hE; clear hE))
        have H6 : SH (fun _ => False) wr w [pt g7 (.cells (icells bl) 3 (0, 0)), pt g6 (.cells #[.string p, .int .i64 mode, .int .i64 time, .int .i64 block, .int .i64 at_, .int .i64 size] 39 (0, 0))] := by
          rw [← HBL.out]; exact H
        clear H
        go_loopw [4, 40] (fun v4 vi wq => PutRel bl pr2 _ wr v4 vi wq) (fun _ vi _ => 5 - (intOf vi).toNat)
        case atStart => exact ⟨0, rfl, Nat.zero_le _, by simpa using hrd, H6⟩
        case round =>
          clear H6 hrd
          obtain ⟨i, rfl, hi, hrd, H⟩ := hrel
          rw [hbl5] at hi
          by_cases hin : i < 5
          · have hii : (i : Int) < 5 := by omega
            have his : i < bl.length := by omega
            have hat := icells_at bl i his
            have hnext := flat8_snoc bl i his
            have hpre : (pr2 ++ (bl.take i).flatMap be8).length ≤ 1000000000 := by
              rw [List.length_append, flat8_len, List.length_take]; omega
            obtain ⟨x, hx⟩ : ∃ x, bl[i] = x := ⟨_, rfl⟩
            rw [hx] at hat hnext
            have HN := Lib.hid hnext
            have hcall := fun {W : World} {u : Value} (h : RdS (encInt .u8) 1 W u (pr2 ++ (bl.take i).flatMap be8)) => octInt_b u _ x W h hpre
            clear hnext hx his hpre
            obtain ⟨pr3, hpr⟩ : ∃ pr3, pr2 ++ (bl.take i).flatMap be8 = pr3 := ⟨_, rfl⟩
            rw [hpr] at hcall hrd
            have HPR3 := Lib.hid hpr
            clear hpr
            go_wp2_with (first
              | (refine L_load1 (off := i) rfl rfl H 0 rfl rfl hat Tryz.isAgg3 ?_)
              | (go_at_call 22; refine (hcall hrd).mono ?_; clear hrd; rintro e w ⟨v4, rfl, hrd, hE⟩; replace H := H.calls hE; clear hE))
            go_roundw
            case rel => exact ⟨i + 1, by go_num, by omega, by rw [HN.out, ← List.append_assoc, HPR3.out]; exact hrd, H⟩
            case measure => simp [intOf]; omega
          · obtain rfl : i = 5 := by omega
            have h5 : ¬ ((5 : Nat) : Int) < 5 := by omega
            rw [List.take_of_length_le (Nat.le_of_eq hbl5)] at hrd
            go_wp2_with fail
            go_roundw
            case rel => exact ⟨j + 1, by go_num, by omega, by rw [HSN.out, ← List.append_assoc, HPR.out, encE, ← List.append_assoc, HPR2.out, show nums ⟨p, mode, time, block, at_, size⟩ = bl from HBL.out]; exact hrd, HE0.out.trans0 H.ext⟩
            case measure => simp [intOf]; omega
      · have hjp : ¬ ((j : Int) < (xs.length : Int)) := by omega
        obtain rfl : j = xs.length := by omega
        rw [List.take_length] at hrd
        have he : encCat xs = hd ++ xs.flatMap encE := by rw [encCat, HD.out.1]
        have HEE := Lib.hid he
        clear he
        generalize hd ++ xs.flatMap encE = out at *
        have hcl := clipB_any u4 out wr hrd
        go_wp2_with (go_at_call 24; refine hcl.mono ?_; rintro e w ⟨v6, rfl, hrd6, hE2⟩)
        go_ret2
        exact ⟨.inl ⟨HG.out.1, _, rfl, by rw [HEE.out]; exact hrd6⟩, hE.trans0 hE2⟩
end Go.Proofs.YtmfcccflohpjiaaGreatDoor
