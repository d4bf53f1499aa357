/- The document's Number and Word (at most 32). (Printed by gencat1.py.) -/
import Derived.Test.YtmfcccflohpjiaaGreatDoorCatG
import Derived.Lib.ConvBytes
namespace Go.Proofs.YtmfcccflohpjiaaGreatDoor
set_option linter.unusedVariables false
set_option linter.unusedSimpArgs false
open Go.RowKit

theorem RdS.nil' {α : Type} (enc : α → List Value) (k : Nat) (w : World) (A : Option Addr) : RdS enc k w (.slice A 0 0) ([] : List α) := ⟨A, 0, rfl, Nat.le_refl _, .inl rfl⟩

/-- The document's place in the bytes: -1: lost. -/
def AtR (xs : List Int) (at_ : Int) (rd : Rd) : Prop := (at_ = -1 ∧ rd = none) ∨ ∃ k : Nat, at_ = (k : Int) ∧ k ≤ xs.length ∧ rd = some (xs.drop k)
def NumE (xs : List Int) (rd : Rd) (w : World) (e : Ending) (w' : World) : Prop := ∃ at_, e = .returned (.tuple #[.int .i64 (rdN rd).1, .int .i64 at_]) ∧ AtR xs at_ (rdN rd).2 ∧ w' = w
def NumRel (l : List Int) (w : World) (vn vi : Value) (wr : World) : Prop :=
  ∃ i : Nat, vi = .int .i64 (i : Int) ∧ vn = .int .u64 (foldN (l.take i)) ∧ 1 ≤ i ∧ i ≤ 8 ∧ wr = w
theorem byte_cell {w : World} {A : Option Addr} {n c : Nat} {xs : List Int} (h : RdS (encInt .u8) 1 w (.slice A n c) xs) {j : Nat} (hj : j < xs.length) : ∃ bb off, A = some ⟨bb, off, none⟩ ∧ ∀ j (hj : j < xs.length), w.cell? ⟨bb, off + j, none⟩ = some (.int .u8 xs[j]) := by
  obtain ⟨bb, off, cs, T, fr, hA, hbb, _⟩ := h.cell hj
  refine ⟨bb, off, hA, fun j hj => ?_⟩
  obtain ⟨bb2, off2, cs2, T2, fr2, hA2, hbb2, hcs⟩ := h.cell hj
  rw [hA] at hA2
  cases hA2
  rw [cell_of_row w bb _ cs2 T2 fr2 hbb2]
  have := hcs 0 (by omega)
  rw [Nat.mul_one, Nat.add_zero] at this
  rw [this]; rfl
set_option maxRecDepth 100000 in
set_option maxHeartbeats 1000000 in
theorem number_any (v : Value) (xs : List Int) (at_ : Int) (rd : Rd) (w : World) (hr : RdS (encInt .u8) 1 w v xs) (hb : ∀ x ∈ xs, 0 ≤ x ∧ x ≤ 255) (hl : xs.length ≤ 1000000) (ha : AtR xs at_ rd) :
    Calls Tryz.prog 41 #[v, .int .i64 at_] w (NumE xs rd w) := by
  obtain ⟨A, cap, rfl, hcap⟩ := hr.len
  rcases ha with ⟨rfl, rfl⟩ | ⟨k, rfl, hk, rfl⟩
  · clear hr hb hl
    go_enter Tryz.func41, Tryz.ntmps41
    go_wp2
    go_ret2
    exact ⟨-1, rfl, .inl ⟨rfl, rfl⟩, rfl⟩
  · obtain ⟨m, hm⟩ : ∃ m, xs.length - k = m := ⟨_, rfl⟩
    have hsub : (xs.length : Int) - (k : Int) = (m : Int) := by omega
    have hk0 : ¬ (k : Int) < 0 := by omega
    have hdl : (xs.drop k).length = m := by rw [List.length_drop]; exact hm
    by_cases hm8 : m < 8
    · have hm8i : (m : Int) < 8 := by omega
      have hrd : rdN (some (xs.drop k)) = (0, none) := by
        simp only [rdN]
        rw [if_pos (by omega)]
      have HRD := Lib.hid hrd
      clear hr hb hdl hrd hm
      go_enter Tryz.func41, Tryz.ntmps41
      go_wp2
      go_ret2
      unfold NumE
      rw [HRD.out]
      exact ⟨-1, rfl, .inl ⟨rfl, rfl⟩, rfl⟩
    · have hm8i : ¬ (m : Int) < 8 := by omega
      have hrd : rdN (some (xs.drop k)) = (num8 ((xs.drop k).take 8), some (xs.drop (k + 8))) := by
        simp only [rdN]
        rw [if_neg (by omega), List.drop_drop]
      obtain ⟨bb, off, rfl, hcs⟩ := byte_cell hr (j := k) (by omega)
      have hc0 := hcs k (by omega)
      have hki : (k : Int) < (xs.length : Int) := by omega
      have hX := Lib.hid (And.intro hcs (And.intro hb (And.intro hrd (And.intro hm hdl))))
      obtain ⟨x0, hx0⟩ : ∃ x0, xs[k] = x0 := ⟨_, rfl⟩
      rw [hx0] at hc0
      have h1 : foldN ((xs.drop k).take 1) = x0 := by
        rw [List.take_one, List.head?_drop, List.getElem?_eq_getElem (by omega), hx0]
        simp [foldN]
      have HF := Lib.hid h1
      have hx0b := hb x0 (by rw [← hx0]; exact List.getElem_mem _)
      clear hr hcs hb hrd hm hdl hx0 h1
      go_enter Tryz.func41, Tryz.ntmps41
      go_wp2
      go_loopw [6, 7] (fun vn vi wr => NumRel (xs.drop k) w vn vi wr) (fun _ vi _ => 8 - (intOf vi).toNat)
      case atStart => exact ⟨1, rfl, by rw [HF.out], Nat.le_refl _, by omega, rfl⟩
      case round =>
        clear hc0
        obtain ⟨i, rfl, rfl, hi1, hi8, rfl⟩ := hrel
        by_cases hi : i < 8
        · have hii : (i : Int) < 8 := by omega
          have hc1 := hX.out.1 (k + i) (by have := hX.out.2.2.2.1; omega)
          have hkii : ((k : Int) + (i : Int)) < (xs.length : Int) := by have := hX.out.2.2.2.1; omega
          have hki0 : ¬ ((k : Int) + (i : Int)) < 0 := by omega
          have htn : ((k : Int) + (i : Int)).toNat = k + i := by omega
          obtain ⟨x1, hx1⟩ : ∃ x1, xs[k + i]'(by have := hX.out.2.2.2.1; omega) = x1 := ⟨_, rfl⟩
          rw [hx1] at hc1
          have HX1 := Lib.hid hx1
          clear hx1
          go_wp2
          go_roundw
          case rel =>
            refine ⟨i + 1, by go_num, ?_, by omega, by omega, rfl⟩
            have hdl := hX.out.2.2.2.2
            have h1 := foldN_lt i ((xs.drop k).take i) (by rw [List.length_take]; omega) (fun x hx => hX.out.2.1 x (List.mem_of_mem_drop (List.mem_of_mem_take hx)))
            have h2 := pow_le7 i (by omega)
            have h3 := hX.out.2.1 x1 (by rw [← HX1.out]; exact List.getElem_mem _)
            have h5 : (xs.drop k).take (i + 1) = (xs.drop k).take i ++ [x1] := by
              rw [List.take_add_one, List.getElem?_drop, List.getElem?_eq_getElem (by have := hX.out.2.2.2.1; omega), HX1.out]; rfl
            rw [h5, foldN_snoc]
            congr 1
            rw [IntKind.wrap_u64, IntKind.wrap_u64, IntKind.wrap_u64]
            omega
          case measure => simp [intOf]; omega
        · obtain rfl : i = 8 := by omega
          have hq2 : ¬ (((8 : Nat) : Int) < 8) := by omega
          go_wp2
          go_ret2
          unfold NumE
          rw [hX.out.2.2.1]
          exact ⟨((k + 8 : Nat) : Int), by
            show Ending.returned (Value.tuple #[Value.int .i64 (wrap64 (foldN ((xs.drop k).take 8))), _]) = _
            rw [← IntWalk.i64_left]; rfl, .inr ⟨k + 8, rfl, by have := hX.out.2.2.2.1; omega, rfl⟩, rfl⟩
/-- The text at the document's place. -/
def WordE (xs : List Int) (rd : Rd) (w : World) (e : Ending) (w' : World) : Prop := ∃ at_, e = .returned (.tuple #[.string (strOfNums (rdW 32 rd).1), .int .i64 at_]) ∧ AtR xs at_ (rdW 32 rd).2 ∧ Ext0 w w'
theorem sub_rd {w : World} {bb off n c : Nat} {xs : List Int} (h : RdS (encInt .u8) 1 w (.slice (some ⟨bb, off, none⟩) n c) xs) (i m : Nat) (hm : i + m ≤ xs.length) (hc : m ≤ c - i) : RdS (encInt .u8) 1 w (.slice (some ⟨bb, off + i, none⟩) m (c - i)) ((xs.drop i).take m) := by
  have hl : ((xs.drop i).take m).length = m := by rw [List.length_take, List.length_drop]; omega
  obtain ⟨A', c', he, _, hh⟩ := h
  cases he
  refine ⟨_, _, by rw [hl], by rw [hl]; exact hc, ?_⟩
  rcases hh with hh | ⟨b, o, cs, T, fr, hA, hb, hcs⟩
  · left; simp [hh]
  · cases hA
    right
    refine ⟨_, _, cs, T, fr, rfl, hb, fun j hj k hk => ?_⟩
    rw [hl] at hj
    rw [List.getElem_take, List.getElem_drop, ← hcs (i + j) (by omega) k hk]
    congr 1
    omega
set_option maxRecDepth 100000 in
set_option maxHeartbeats 1000000 in
theorem word_any (v : Value) (xs : List Int) (at_ : Int) (rd : Rd) (w : World) (hr : RdS (encInt .u8) 1 w v xs) (hb : ∀ x ∈ xs, 0 ≤ x ∧ x ≤ 255) (hl : xs.length ≤ 1000000) (ha : AtR xs at_ rd) :
    Calls Tryz.prog 42 #[v, .int .i64 at_, .int .i64 32] w (WordE xs rd w) := by
  obtain ⟨A, cap, rfl, hcap⟩ := hr.len
  have H : SH (fun _ => False) w w [] := SH.nil _ _
  rcases ha with ⟨rfl, rfl⟩ | ⟨k, rfl, hk, rfl⟩
  · clear hr hb hl
    go_enter Tryz.func42, Tryz.ntmps42
    go_wp2
    go_ret2
    exact ⟨-1, rfl, .inl ⟨rfl, rfl⟩, by first | exact Ext.refl _ _ | exact Ext.drew _ _⟩
  · obtain ⟨m, hm⟩ : ∃ m, xs.length - k = m := ⟨_, rfl⟩
    have hsub : (xs.length : Int) - (k : Int) = (m : Int) := by omega
    have hk0 : ¬ (k : Int) < 0 := by omega
    have hdl : (xs.drop k).length = m := by rw [List.length_drop]; exact hm
    by_cases hm8 : m < 2
    · have hm8i : (m : Int) < 2 := by omega
      have hrd : rdW 32 (some (xs.drop k)) = ([], none) := by
        simp only [rdW]
        rw [if_pos (by omega)]
      have HRD := Lib.hid hrd
      clear hr hb hdl hrd hm
      go_enter Tryz.func42, Tryz.ntmps42
      go_wp2
      go_ret2
      unfold WordE
      rw [HRD.out]
      exact ⟨-1, rfl, .inl ⟨rfl, rfl⟩, by first | exact Ext.refl _ _ | exact Ext.drew _ _⟩
    · have hm8i : ¬ (m : Int) < 2 := by omega
      have hki : (k : Int) < (xs.length : Int) := by omega
      have hki1 : (k : Int) + 1 < (xs.length : Int) := by omega
      have hkw1 : IntKind.i64.wrap ((k : Int) + 1) = (k : Int) + 1 := by rw [IntKind.wrap_i64]; omega
      have hkn1 : ((k : Int) + 1).toNat = k + 1 := by omega
      have hk01 : 0 ≤ (k : Int) + 1 := by omega
      obtain ⟨bb, off, rfl, hcs⟩ := byte_cell hr (j := k) (by omega)
      have hc0 := hcs k (by omega)
      have hc1 := hcs (k + 1) (by omega)
      obtain ⟨x0, hx0⟩ : ∃ x0, xs[k] = x0 := ⟨_, rfl⟩
      obtain ⟨x1, hx1⟩ : ∃ x1, xs[k + 1] = x1 := ⟨_, rfl⟩
      rw [hx0] at hc0
      rw [hx1] at hc1
      have h0 : (xs.drop k).getD 0 0 = x0 := by rw [List.getD_eq_getElem?_getD, List.getElem?_drop, List.getElem?_eq_getElem (by omega)]; exact hx0
      have h1 : (xs.drop k).getD 1 0 = x1 := by rw [List.getD_eq_getElem?_getD, List.getElem?_drop, List.getElem?_eq_getElem (by omega)]; exact hx1
      have hx0b := hb x0 (by rw [← hx0]; exact List.getElem_mem _)
      have hx1b := hb x1 (by rw [← hx1]; exact List.getElem_mem _)
      obtain ⟨v, hv⟩ : ∃ v : Nat, 256 * x0 + x1 = (v : Int) := ⟨(256 * x0 + x1).toNat, by omega⟩
      have hrd : rdW 32 (some (xs.drop k)) = if (v : Int) > 32 ∨ ((m - 2 : Nat) : Int) < (v : Int) then ([], none) else (((xs.drop (k + 2)).take v), some (xs.drop (k + 2 + v))) := by
        simp only [rdW, h0, h1, hdl]
        rw [show x0 * 256 + x1 = (v : Int) by omega, if_neg hm8, Int.toNat_natCast, List.drop_drop, List.drop_drop]
      have hv0 : IntKind.i64.wrap (256 * x0) = 256 * x0 := by rw [IntKind.wrap_i64]; omega
      have hv1 : IntKind.i64.wrap (256 * x0 + x1) = (v : Int) := by rw [IntKind.wrap_i64]; omega
      have hsub2 : (m : Int) - 2 = ((m - 2 : Nat) : Int) := by omega
      have hX := Lib.hid (And.intro hb (And.intro hrd (And.intro hm hdl)))
      clear hcs hb hrd hm hdl hx0 hx1 h0 h1
      by_cases hA : (v : Int) > 32
      · have hrd := hX.out.2.1
        rw [if_pos (.inl hA)] at hrd
        have HRD := Lib.hid hrd
        clear hrd hr
        go_enter Tryz.func42, Tryz.ntmps42
        go_wp2_with fail
        refine D_start H (by kernel_rfl) (fun hS => ?_)
        try simp only [Act.put, List.setIfInBounds_toArray, List.set_cons_succ, List.set_cons_zero]
        refine D_take 0 (v := ?_) rfl (by kernel_rfl) (by kernel_rfl) (by kernel_rfl) (fun _ _ _ h => h) rfl (by rfl) (fun W hS => ?_) hS ?_
        rotate_left; (focus (first | (go_simp; done) | (go_simp; with_reducible rfl) | (go_simp; rfl))); all_goals skip; (try simp only [List.set_cons_succ, List.set_cons_zero])
        refine D_take 1 (v := ?_) rfl (by kernel_rfl) (by kernel_rfl) (by kernel_rfl) (fun _ _ _ h => h) rfl (by rfl) (fun W hS => ?_) hS ?_
        rotate_left; (focus (first | (go_simp; done) | (go_simp; with_reducible rfl) | (go_simp; rfl))); all_goals skip; (try simp only [List.set_cons_succ, List.set_cons_zero])
        refine D_take 2 (v := ?_) rfl (by kernel_rfl) (by kernel_rfl) (by kernel_rfl) (fun _ _ _ h => h) rfl (by rfl) (fun W hS => ?_) hS ?_
        rotate_left; (focus (first | (go_simp; done) | (go_simp; with_reducible rfl) | (go_simp; rfl))); all_goals skip; (try simp only [List.set_cons_succ, List.set_cons_zero])
        refine D_take 3 (v := (.int .u8 x0)) rfl (by kernel_rfl) (by kernel_rfl) (by kernel_rfl) (fun _ _ _ h => h) rfl (by rfl) (fun W hS => R_loadCell' (ty := 5) (x := .tmp 20) (p := ⟨bb, off + k, none⟩) rfl rfl (hS.ext.cell hc0 (fun e => e)) Tryz.isAgg5) hS ?_; (try simp only [List.set_cons_succ, List.set_cons_zero])
        refine D_take 4 (v := ?_) rfl (by kernel_rfl) (by kernel_rfl) (by kernel_rfl) (fun _ _ _ h => h) rfl (by rfl) (fun W hS => ?_) hS ?_
        rotate_left; (focus (first | (go_simp; done) | (go_simp; with_reducible rfl) | (go_simp; rfl))); all_goals skip; (try simp only [List.set_cons_succ, List.set_cons_zero])
        refine D_take 5 (v := ?_) rfl (by kernel_rfl) (by kernel_rfl) (by kernel_rfl) (fun _ _ _ h => h) rfl (by rfl) (fun W hS => ?_) hS ?_
        rotate_left; (focus (first | (go_simp; done) | (go_simp; with_reducible rfl) | (go_simp; rfl))); all_goals skip; (try simp only [List.set_cons_succ, List.set_cons_zero])
        refine D_take 6 (v := ?_) rfl (by kernel_rfl) (by kernel_rfl) (by kernel_rfl) (fun _ _ _ h => h) rfl (by rfl) (fun W hS => ?_) hS ?_
        rotate_left; (focus (first | (go_simp; done) | (go_simp; with_reducible rfl) | (go_simp; rfl))); all_goals skip; (try simp only [List.set_cons_succ, List.set_cons_zero])
        refine D_take 7 (v := ?_) rfl (by kernel_rfl) (by kernel_rfl) (by kernel_rfl) (fun _ _ _ h => h) rfl (by rfl) (fun W hS => ?_) hS ?_
        rotate_left; (focus (first | (go_simp; done) | (go_simp; with_reducible rfl) | (go_simp; rfl))); all_goals skip; (try simp only [List.set_cons_succ, List.set_cons_zero])
        refine D_take 8 (v := ?_) rfl (by kernel_rfl) (by kernel_rfl) (by kernel_rfl) (fun _ _ _ h => h) rfl (by rfl) (fun W hS => ?_) hS ?_
        rotate_left; (focus (first | (go_simp; done) | (go_simp; with_reducible rfl) | (go_simp; rfl))); all_goals skip; (try simp only [List.set_cons_succ, List.set_cons_zero])
        refine D_take 9 (v := ?_) rfl (by kernel_rfl) (by kernel_rfl) (by kernel_rfl) (fun _ _ _ h => h) rfl (by rfl) (fun W hS => ?_) hS ?_
        rotate_left; (focus (first | (go_simp; done) | (go_simp; with_reducible rfl) | (go_simp; rfl))); all_goals skip; (try simp only [List.set_cons_succ, List.set_cons_zero])
        refine D_take 10 (v := (.int .u8 x1)) rfl (by kernel_rfl) (by kernel_rfl) (by kernel_rfl) (fun _ _ _ h => h) rfl (by rfl) (fun W hS => R_loadCell' (ty := 5) (x := .tmp 27) (p := ⟨bb, off + (k + 1), none⟩) rfl rfl (hS.ext.cell hc1 (fun e => e)) Tryz.isAgg5) hS ?_; (try simp only [List.set_cons_succ, List.set_cons_zero])
        refine D_take 11 (v := ?_) rfl (by kernel_rfl) (by kernel_rfl) (by kernel_rfl) (fun _ _ _ h => h) rfl (by rfl) (fun W hS => ?_) hS ?_
        rotate_left; (focus (first | (go_simp; done) | (go_simp; with_reducible rfl) | (go_simp; rfl))); all_goals skip; (try simp only [List.set_cons_succ, List.set_cons_zero])
        refine D_take 12 (v := ?_) rfl (by kernel_rfl) (by kernel_rfl) (by kernel_rfl) (fun _ _ _ h => h) rfl (by rfl) (fun W hS => ?_) hS ?_
        rotate_left; (focus (first | (go_simp; done) | (go_simp; with_reducible rfl) | (go_simp; rfl))); all_goals skip; (try simp only [List.set_cons_succ, List.set_cons_zero])
        refine D_take 13 (v := ?_) rfl (by kernel_rfl) (by kernel_rfl) (by kernel_rfl) (fun _ _ _ h => h) rfl (by rfl) (fun W hS => ?_) hS ?_
        rotate_left; (focus (first | (go_simp; done) | (go_simp; with_reducible rfl) | (go_simp; rfl))); all_goals skip; (try simp only [List.set_cons_succ, List.set_cons_zero])
        refine wpAnyH_done (by kernel_rfl) ?_ _
        clear H
        have H := hS
        clear hS
        go_wp2
        go_ret2
        unfold WordE
        rw [HRD.out]
        exact ⟨-1, rfl, .inl ⟨rfl, rfl⟩, by first | exact Ext.refl _ _ | exact Ext.drew _ _⟩
      · by_cases hB : ((m - 2 : Nat) : Int) < (v : Int)
        · have hrd := hX.out.2.1
          rw [if_pos (.inr hB)] at hrd
          have HRD := Lib.hid hrd
          clear hrd hr
          go_enter Tryz.func42, Tryz.ntmps42
          go_wp2_with fail
          refine D_start H (by kernel_rfl) (fun hS => ?_)
          try simp only [Act.put, List.setIfInBounds_toArray, List.set_cons_succ, List.set_cons_zero]
          refine D_take 0 (v := ?_) rfl (by kernel_rfl) (by kernel_rfl) (by kernel_rfl) (fun _ _ _ h => h) rfl (by rfl) (fun W hS => ?_) hS ?_
          rotate_left; (focus (first | (go_simp; done) | (go_simp; with_reducible rfl) | (go_simp; rfl))); all_goals skip; (try simp only [List.set_cons_succ, List.set_cons_zero])
          refine D_take 1 (v := ?_) rfl (by kernel_rfl) (by kernel_rfl) (by kernel_rfl) (fun _ _ _ h => h) rfl (by rfl) (fun W hS => ?_) hS ?_
          rotate_left; (focus (first | (go_simp; done) | (go_simp; with_reducible rfl) | (go_simp; rfl))); all_goals skip; (try simp only [List.set_cons_succ, List.set_cons_zero])
          refine D_take 2 (v := ?_) rfl (by kernel_rfl) (by kernel_rfl) (by kernel_rfl) (fun _ _ _ h => h) rfl (by rfl) (fun W hS => ?_) hS ?_
          rotate_left; (focus (first | (go_simp; done) | (go_simp; with_reducible rfl) | (go_simp; rfl))); all_goals skip; (try simp only [List.set_cons_succ, List.set_cons_zero])
          refine D_take 3 (v := (.int .u8 x0)) rfl (by kernel_rfl) (by kernel_rfl) (by kernel_rfl) (fun _ _ _ h => h) rfl (by rfl) (fun W hS => R_loadCell' (ty := 5) (x := .tmp 20) (p := ⟨bb, off + k, none⟩) rfl rfl (hS.ext.cell hc0 (fun e => e)) Tryz.isAgg5) hS ?_; (try simp only [List.set_cons_succ, List.set_cons_zero])
          refine D_take 4 (v := ?_) rfl (by kernel_rfl) (by kernel_rfl) (by kernel_rfl) (fun _ _ _ h => h) rfl (by rfl) (fun W hS => ?_) hS ?_
          rotate_left; (focus (first | (go_simp; done) | (go_simp; with_reducible rfl) | (go_simp; rfl))); all_goals skip; (try simp only [List.set_cons_succ, List.set_cons_zero])
          refine D_take 5 (v := ?_) rfl (by kernel_rfl) (by kernel_rfl) (by kernel_rfl) (fun _ _ _ h => h) rfl (by rfl) (fun W hS => ?_) hS ?_
          rotate_left; (focus (first | (go_simp; done) | (go_simp; with_reducible rfl) | (go_simp; rfl))); all_goals skip; (try simp only [List.set_cons_succ, List.set_cons_zero])
          refine D_take 6 (v := ?_) rfl (by kernel_rfl) (by kernel_rfl) (by kernel_rfl) (fun _ _ _ h => h) rfl (by rfl) (fun W hS => ?_) hS ?_
          rotate_left; (focus (first | (go_simp; done) | (go_simp; with_reducible rfl) | (go_simp; rfl))); all_goals skip; (try simp only [List.set_cons_succ, List.set_cons_zero])
          refine D_take 7 (v := ?_) rfl (by kernel_rfl) (by kernel_rfl) (by kernel_rfl) (fun _ _ _ h => h) rfl (by rfl) (fun W hS => ?_) hS ?_
          rotate_left; (focus (first | (go_simp; done) | (go_simp; with_reducible rfl) | (go_simp; rfl))); all_goals skip; (try simp only [List.set_cons_succ, List.set_cons_zero])
          refine D_take 8 (v := ?_) rfl (by kernel_rfl) (by kernel_rfl) (by kernel_rfl) (fun _ _ _ h => h) rfl (by rfl) (fun W hS => ?_) hS ?_
          rotate_left; (focus (first | (go_simp; done) | (go_simp; with_reducible rfl) | (go_simp; rfl))); all_goals skip; (try simp only [List.set_cons_succ, List.set_cons_zero])
          refine D_take 9 (v := ?_) rfl (by kernel_rfl) (by kernel_rfl) (by kernel_rfl) (fun _ _ _ h => h) rfl (by rfl) (fun W hS => ?_) hS ?_
          rotate_left; (focus (first | (go_simp; done) | (go_simp; with_reducible rfl) | (go_simp; rfl))); all_goals skip; (try simp only [List.set_cons_succ, List.set_cons_zero])
          refine D_take 10 (v := (.int .u8 x1)) rfl (by kernel_rfl) (by kernel_rfl) (by kernel_rfl) (fun _ _ _ h => h) rfl (by rfl) (fun W hS => R_loadCell' (ty := 5) (x := .tmp 27) (p := ⟨bb, off + (k + 1), none⟩) rfl rfl (hS.ext.cell hc1 (fun e => e)) Tryz.isAgg5) hS ?_; (try simp only [List.set_cons_succ, List.set_cons_zero])
          refine D_take 11 (v := ?_) rfl (by kernel_rfl) (by kernel_rfl) (by kernel_rfl) (fun _ _ _ h => h) rfl (by rfl) (fun W hS => ?_) hS ?_
          rotate_left; (focus (first | (go_simp; done) | (go_simp; with_reducible rfl) | (go_simp; rfl))); all_goals skip; (try simp only [List.set_cons_succ, List.set_cons_zero])
          refine D_take 12 (v := ?_) rfl (by kernel_rfl) (by kernel_rfl) (by kernel_rfl) (fun _ _ _ h => h) rfl (by rfl) (fun W hS => ?_) hS ?_
          rotate_left; (focus (first | (go_simp; done) | (go_simp; with_reducible rfl) | (go_simp; rfl))); all_goals skip; (try simp only [List.set_cons_succ, List.set_cons_zero])
          refine D_take 13 (v := ?_) rfl (by kernel_rfl) (by kernel_rfl) (by kernel_rfl) (fun _ _ _ h => h) rfl (by rfl) (fun W hS => ?_) hS ?_
          rotate_left; (focus (first | (go_simp; done) | (go_simp; with_reducible rfl) | (go_simp; rfl))); all_goals skip; (try simp only [List.set_cons_succ, List.set_cons_zero])
          refine wpAnyH_done (by kernel_rfl) ?_ _
          clear H
          have H := hS
          clear hS
          go_wp2
          go_ret2
          unfold WordE
          rw [HRD.out]
          exact ⟨-1, rfl, .inl ⟨rfl, rfl⟩, by first | exact Ext.refl _ _ | exact Ext.drew _ _⟩
        · have hrd := hX.out.2.1
          rw [if_neg (by omega)] at hrd
          by_cases hce : cap = k + 2
          · have hv0e : v = 0 := by have := hX.out.2.2.1; omega
            subst hv0e
            have hsr : RdS (encInt .u8) 1 w (.slice (some ⟨bb, off, none⟩) 0 0) ((xs.drop (k + 2)).take 0) := by rw [List.take_zero]; exact RdS.nil' _ _ _ _
            have hcv := run_string (src := 23) (dst := 9) (hsr.keep (Ext.drew _ w)) Tryz.underlying23 Tryz.underlying5 Tryz.underlying9
            have hlc : (k : Int) + 2 + ((0 : Nat) : Int) ≤ (cap : Int) := by have := hX.out.2.2.1; omega
            have hkw2 : IntKind.i64.wrap ((k : Int) + 2) = (k : Int) + 2 := by rw [IntKind.wrap_i64]; have := hX.out.2.2.1; omega
            have hkw3 : IntKind.i64.wrap ((k : Int) + 2 + ((0 : Nat) : Int)) = (k : Int) + 2 + ((0 : Nat) : Int) := by rw [IntKind.wrap_i64]; have := hX.out.2.2.1; omega
            have hkt2 : ((k : Int) + 2).toNat = k + 2 := by omega
            have hkt3 : ((k : Int) + 2 + ((0 : Nat) : Int)).toNat = k + 2 + 0 := by omega
            have hk02 : 0 ≤ (k : Int) + 2 := by omega
            have hk23 : (k : Int) + 2 ≤ (k : Int) + 2 + ((0 : Nat) : Int) := by omega
            generalize hst : strOfNums ((xs.drop (k + 2)).take 0) = st at *
            have HRD := Lib.hid (And.intro hrd hst)
            clear hrd hr hsr hst
            go_enter Tryz.func42, Tryz.ntmps42
            go_wp2_with fail
            refine D_start H (by kernel_rfl) (fun hS => ?_)
            try simp only [Act.put, List.setIfInBounds_toArray, List.set_cons_succ, List.set_cons_zero]
            refine D_take 0 (v := ?_) rfl (by kernel_rfl) (by kernel_rfl) (by kernel_rfl) (fun _ _ _ h => h) rfl (by rfl) (fun W hS => ?_) hS ?_
            rotate_left; (focus (first | (go_simp; done) | (go_simp; with_reducible rfl) | (go_simp; rfl))); all_goals skip; (try simp only [List.set_cons_succ, List.set_cons_zero])
            refine D_take 1 (v := ?_) rfl (by kernel_rfl) (by kernel_rfl) (by kernel_rfl) (fun _ _ _ h => h) rfl (by rfl) (fun W hS => ?_) hS ?_
            rotate_left; (focus (first | (go_simp; done) | (go_simp; with_reducible rfl) | (go_simp; rfl))); all_goals skip; (try simp only [List.set_cons_succ, List.set_cons_zero])
            refine D_take 2 (v := ?_) rfl (by kernel_rfl) (by kernel_rfl) (by kernel_rfl) (fun _ _ _ h => h) rfl (by rfl) (fun W hS => ?_) hS ?_
            rotate_left; (focus (first | (go_simp; done) | (go_simp; with_reducible rfl) | (go_simp; rfl))); all_goals skip; (try simp only [List.set_cons_succ, List.set_cons_zero])
            refine D_take 3 (v := (.int .u8 x0)) rfl (by kernel_rfl) (by kernel_rfl) (by kernel_rfl) (fun _ _ _ h => h) rfl (by rfl) (fun W hS => R_loadCell' (ty := 5) (x := .tmp 20) (p := ⟨bb, off + k, none⟩) rfl rfl (hS.ext.cell hc0 (fun e => e)) Tryz.isAgg5) hS ?_; (try simp only [List.set_cons_succ, List.set_cons_zero])
            refine D_take 4 (v := ?_) rfl (by kernel_rfl) (by kernel_rfl) (by kernel_rfl) (fun _ _ _ h => h) rfl (by rfl) (fun W hS => ?_) hS ?_
            rotate_left; (focus (first | (go_simp; done) | (go_simp; with_reducible rfl) | (go_simp; rfl))); all_goals skip; (try simp only [List.set_cons_succ, List.set_cons_zero])
            refine D_take 5 (v := ?_) rfl (by kernel_rfl) (by kernel_rfl) (by kernel_rfl) (fun _ _ _ h => h) rfl (by rfl) (fun W hS => ?_) hS ?_
            rotate_left; (focus (first | (go_simp; done) | (go_simp; with_reducible rfl) | (go_simp; rfl))); all_goals skip; (try simp only [List.set_cons_succ, List.set_cons_zero])
            refine D_take 6 (v := ?_) rfl (by kernel_rfl) (by kernel_rfl) (by kernel_rfl) (fun _ _ _ h => h) rfl (by rfl) (fun W hS => ?_) hS ?_
            rotate_left; (focus (first | (go_simp; done) | (go_simp; with_reducible rfl) | (go_simp; rfl))); all_goals skip; (try simp only [List.set_cons_succ, List.set_cons_zero])
            refine D_take 7 (v := ?_) rfl (by kernel_rfl) (by kernel_rfl) (by kernel_rfl) (fun _ _ _ h => h) rfl (by rfl) (fun W hS => ?_) hS ?_
            rotate_left; (focus (first | (go_simp; done) | (go_simp; with_reducible rfl) | (go_simp; rfl))); all_goals skip; (try simp only [List.set_cons_succ, List.set_cons_zero])
            refine D_take 8 (v := ?_) rfl (by kernel_rfl) (by kernel_rfl) (by kernel_rfl) (fun _ _ _ h => h) rfl (by rfl) (fun W hS => ?_) hS ?_
            rotate_left; (focus (first | (go_simp; done) | (go_simp; with_reducible rfl) | (go_simp; rfl))); all_goals skip; (try simp only [List.set_cons_succ, List.set_cons_zero])
            refine D_take 9 (v := ?_) rfl (by kernel_rfl) (by kernel_rfl) (by kernel_rfl) (fun _ _ _ h => h) rfl (by rfl) (fun W hS => ?_) hS ?_
            rotate_left; (focus (first | (go_simp; done) | (go_simp; with_reducible rfl) | (go_simp; rfl))); all_goals skip; (try simp only [List.set_cons_succ, List.set_cons_zero])
            refine D_take 10 (v := (.int .u8 x1)) rfl (by kernel_rfl) (by kernel_rfl) (by kernel_rfl) (fun _ _ _ h => h) rfl (by rfl) (fun W hS => R_loadCell' (ty := 5) (x := .tmp 27) (p := ⟨bb, off + (k + 1), none⟩) rfl rfl (hS.ext.cell hc1 (fun e => e)) Tryz.isAgg5) hS ?_; (try simp only [List.set_cons_succ, List.set_cons_zero])
            refine D_take 11 (v := ?_) rfl (by kernel_rfl) (by kernel_rfl) (by kernel_rfl) (fun _ _ _ h => h) rfl (by rfl) (fun W hS => ?_) hS ?_
            rotate_left; (focus (first | (go_simp; done) | (go_simp; with_reducible rfl) | (go_simp; rfl))); all_goals skip; (try simp only [List.set_cons_succ, List.set_cons_zero])
            refine D_take 12 (v := ?_) rfl (by kernel_rfl) (by kernel_rfl) (by kernel_rfl) (fun _ _ _ h => h) rfl (by rfl) (fun W hS => ?_) hS ?_
            rotate_left; (focus (first | (go_simp; done) | (go_simp; with_reducible rfl) | (go_simp; rfl))); all_goals skip; (try simp only [List.set_cons_succ, List.set_cons_zero])
            refine D_take 13 (v := ?_) rfl (by kernel_rfl) (by kernel_rfl) (by kernel_rfl) (fun _ _ _ h => h) rfl (by rfl) (fun W hS => ?_) hS ?_
            rotate_left; (focus (first | (go_simp; done) | (go_simp; with_reducible rfl) | (go_simp; rfl))); all_goals skip; (try simp only [List.set_cons_succ, List.set_cons_zero])
            refine wpAnyH_done (by kernel_rfl) ?_ _
            clear H
            have H := hS
            clear hS
            go_wp2
            go_ret2
            unfold WordE
            rw [HRD.out.1]
            exact ⟨((k + 2 + 0 : Nat) : Int), by dsimp only; rw [HRD.out.2]; rfl, .inr ⟨k + 2 + 0, rfl, by have := hX.out.2.2.1; omega, rfl⟩, Ext.drew _ _⟩
          · have hsr := sub_rd hr (k + 2) v (by have := hX.out.2.2.1; omega) (by have := hX.out.2.2.1; omega)
            have hcv := run_string (src := 23) (dst := 9) (hsr.keep (Ext.drew _ w)) Tryz.underlying23 Tryz.underlying5 Tryz.underlying9
            have hlc : (k : Int) + 2 + (v : Int) ≤ (cap : Int) := by have := hX.out.2.2.1; omega
            have hkw2 : IntKind.i64.wrap ((k : Int) + 2) = (k : Int) + 2 := by rw [IntKind.wrap_i64]; have := hX.out.2.2.1; omega
            have hkw3 : IntKind.i64.wrap ((k : Int) + 2 + (v : Int)) = (k : Int) + 2 + (v : Int) := by rw [IntKind.wrap_i64]; have := hX.out.2.2.1; omega
            have hkt2 : ((k : Int) + 2).toNat = k + 2 := by omega
            have hkt3 : ((k : Int) + 2 + (v : Int)).toNat = k + 2 + v := by omega
            have hk02 : 0 ≤ (k : Int) + 2 := by omega
            have hk23 : (k : Int) + 2 ≤ (k : Int) + 2 + (v : Int) := by omega
            generalize hst : strOfNums ((xs.drop (k + 2)).take v) = st at *
            have HRD := Lib.hid (And.intro hrd hst)
            clear hrd hr hsr hst
            go_enter Tryz.func42, Tryz.ntmps42
            go_wp2_with fail
            refine D_start H (by kernel_rfl) (fun hS => ?_)
            try simp only [Act.put, List.setIfInBounds_toArray, List.set_cons_succ, List.set_cons_zero]
            refine D_take 0 (v := ?_) rfl (by kernel_rfl) (by kernel_rfl) (by kernel_rfl) (fun _ _ _ h => h) rfl (by rfl) (fun W hS => ?_) hS ?_
            rotate_left; (focus (first | (go_simp; done) | (go_simp; with_reducible rfl) | (go_simp; rfl))); all_goals skip; (try simp only [List.set_cons_succ, List.set_cons_zero])
            refine D_take 1 (v := ?_) rfl (by kernel_rfl) (by kernel_rfl) (by kernel_rfl) (fun _ _ _ h => h) rfl (by rfl) (fun W hS => ?_) hS ?_
            rotate_left; (focus (first | (go_simp; done) | (go_simp; with_reducible rfl) | (go_simp; rfl))); all_goals skip; (try simp only [List.set_cons_succ, List.set_cons_zero])
            refine D_take 2 (v := ?_) rfl (by kernel_rfl) (by kernel_rfl) (by kernel_rfl) (fun _ _ _ h => h) rfl (by rfl) (fun W hS => ?_) hS ?_
            rotate_left; (focus (first | (go_simp; done) | (go_simp; with_reducible rfl) | (go_simp; rfl))); all_goals skip; (try simp only [List.set_cons_succ, List.set_cons_zero])
            refine D_take 3 (v := (.int .u8 x0)) rfl (by kernel_rfl) (by kernel_rfl) (by kernel_rfl) (fun _ _ _ h => h) rfl (by rfl) (fun W hS => R_loadCell' (ty := 5) (x := .tmp 20) (p := ⟨bb, off + k, none⟩) rfl rfl (hS.ext.cell hc0 (fun e => e)) Tryz.isAgg5) hS ?_; (try simp only [List.set_cons_succ, List.set_cons_zero])
            refine D_take 4 (v := ?_) rfl (by kernel_rfl) (by kernel_rfl) (by kernel_rfl) (fun _ _ _ h => h) rfl (by rfl) (fun W hS => ?_) hS ?_
            rotate_left; (focus (first | (go_simp; done) | (go_simp; with_reducible rfl) | (go_simp; rfl))); all_goals skip; (try simp only [List.set_cons_succ, List.set_cons_zero])
            refine D_take 5 (v := ?_) rfl (by kernel_rfl) (by kernel_rfl) (by kernel_rfl) (fun _ _ _ h => h) rfl (by rfl) (fun W hS => ?_) hS ?_
            rotate_left; (focus (first | (go_simp; done) | (go_simp; with_reducible rfl) | (go_simp; rfl))); all_goals skip; (try simp only [List.set_cons_succ, List.set_cons_zero])
            refine D_take 6 (v := ?_) rfl (by kernel_rfl) (by kernel_rfl) (by kernel_rfl) (fun _ _ _ h => h) rfl (by rfl) (fun W hS => ?_) hS ?_
            rotate_left; (focus (first | (go_simp; done) | (go_simp; with_reducible rfl) | (go_simp; rfl))); all_goals skip; (try simp only [List.set_cons_succ, List.set_cons_zero])
            refine D_take 7 (v := ?_) rfl (by kernel_rfl) (by kernel_rfl) (by kernel_rfl) (fun _ _ _ h => h) rfl (by rfl) (fun W hS => ?_) hS ?_
            rotate_left; (focus (first | (go_simp; done) | (go_simp; with_reducible rfl) | (go_simp; rfl))); all_goals skip; (try simp only [List.set_cons_succ, List.set_cons_zero])
            refine D_take 8 (v := ?_) rfl (by kernel_rfl) (by kernel_rfl) (by kernel_rfl) (fun _ _ _ h => h) rfl (by rfl) (fun W hS => ?_) hS ?_
            rotate_left; (focus (first | (go_simp; done) | (go_simp; with_reducible rfl) | (go_simp; rfl))); all_goals skip; (try simp only [List.set_cons_succ, List.set_cons_zero])
            refine D_take 9 (v := ?_) rfl (by kernel_rfl) (by kernel_rfl) (by kernel_rfl) (fun _ _ _ h => h) rfl (by rfl) (fun W hS => ?_) hS ?_
            rotate_left; (focus (first | (go_simp; done) | (go_simp; with_reducible rfl) | (go_simp; rfl))); all_goals skip; (try simp only [List.set_cons_succ, List.set_cons_zero])
            refine D_take 10 (v := (.int .u8 x1)) rfl (by kernel_rfl) (by kernel_rfl) (by kernel_rfl) (fun _ _ _ h => h) rfl (by rfl) (fun W hS => R_loadCell' (ty := 5) (x := .tmp 27) (p := ⟨bb, off + (k + 1), none⟩) rfl rfl (hS.ext.cell hc1 (fun e => e)) Tryz.isAgg5) hS ?_; (try simp only [List.set_cons_succ, List.set_cons_zero])
            refine D_take 11 (v := ?_) rfl (by kernel_rfl) (by kernel_rfl) (by kernel_rfl) (fun _ _ _ h => h) rfl (by rfl) (fun W hS => ?_) hS ?_
            rotate_left; (focus (first | (go_simp; done) | (go_simp; with_reducible rfl) | (go_simp; rfl))); all_goals skip; (try simp only [List.set_cons_succ, List.set_cons_zero])
            refine D_take 12 (v := ?_) rfl (by kernel_rfl) (by kernel_rfl) (by kernel_rfl) (fun _ _ _ h => h) rfl (by rfl) (fun W hS => ?_) hS ?_
            rotate_left; (focus (first | (go_simp; done) | (go_simp; with_reducible rfl) | (go_simp; rfl))); all_goals skip; (try simp only [List.set_cons_succ, List.set_cons_zero])
            refine D_take 13 (v := ?_) rfl (by kernel_rfl) (by kernel_rfl) (by kernel_rfl) (fun _ _ _ h => h) rfl (by rfl) (fun W hS => ?_) hS ?_
            rotate_left; (focus (first | (go_simp; done) | (go_simp; with_reducible rfl) | (go_simp; rfl))); all_goals skip; (try simp only [List.set_cons_succ, List.set_cons_zero])
            refine wpAnyH_done (by kernel_rfl) ?_ _
            clear H
            have H := hS
            clear hS
            go_wp2
            go_ret2
            unfold WordE
            rw [HRD.out.1]
            exact ⟨((k + 2 + v : Nat) : Int), by dsimp only; rw [HRD.out.2]; rfl, .inr ⟨k + 2 + v, rfl, by have := hX.out.2.2.1; omega, rfl⟩, Ext.drew _ _⟩

end Go.Proofs.YtmfcccflohpjiaaGreatDoor
