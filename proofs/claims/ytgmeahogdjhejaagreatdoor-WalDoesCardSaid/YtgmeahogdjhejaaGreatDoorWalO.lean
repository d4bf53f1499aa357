/- octet.Int. (Printed by genwal1.py.) -/
import Derived.Test.YtgmeahogdjhejaaGreatDoorTabA
namespace Go.Proofs.YtgmeahogdjhejaaGreatDoor
set_option linter.unusedVariables false
set_option linter.unusedSimpArgs false
open Go.RowKit

theorem beh_set (xs bs : List Int) (k : Nat) (hk : k < bs.length) : (xs ++ (bs.take k ++ List.replicate (bs.length - k) 0)).set (xs.length + k) bs[k] = xs ++ (bs.take (k + 1) ++ List.replicate (bs.length - (k + 1)) 0) := by
  rw [List.set_append_right _ _ (by omega), Nat.add_sub_cancel_left, List.set_append_right _ _ (by simp; omega)]
  have h1 : k - (bs.take k).length = 0 := by simp; omega
  rw [h1, show bs.length - k = (bs.length - (k + 1)) + 1 by omega, List.replicate_succ, List.set_cons_zero, List.take_add_one (i := k), List.getElem?_eq_getElem hk]
  simp only [Option.toList_some, List.append_assoc, List.cons_append, List.nil_append]
def BehRel (g : Nat) (xs bs : List Int) (w0 : World) (vi : Value) (wr : World) : Prop :=
  ∃ k : Nat, vi = .int .i64 (k : Int) ∧ k ≤ bs.length ∧ SH (fun _ => False) w0 wr [pt g (.cells (bcells (xs ++ (bs.take k ++ List.replicate (bs.length - k) 0))) 5 (0, 0))]
theorem beN_at (m : Int) (size k : Nat) (hk : k < size) : (beN m size)[k]? = some (m / 2 ^ (8 * (size - 1 - k)) % 256) := by simp [beN, hk]
set_option maxRecDepth 100000 in
set_option maxHeartbeats 1000000 in
theorem behind_any (v : Value) (xs : List Int) (m : Int) (size : Nat) (w0 : World) (hr : RdS (encInt .u8) 1 w0 v xs) (hl : xs.length ≤ 1000000000) (hs0 : 0 < size) (hs : size ≤ 8) (hm0 : 0 ≤ m) (hm : m < 18446744073709551616) :
    Calls Tryz.prog 103 #[v, .int .u64 m, .int .i64 (size : Int)] w0 (GivesBytes w0 (xs ++ beN m size)) := by
  obtain ⟨i0, hi, hz, hsz, hby⟩ := info_parts info5
  have hs1 : (Tryz.prog.info? 5).map (·.size) = some 1 := by rw [hi]; simp [hsz]
  have H : SH (fun _ => False) w0 w0 [] := SH.nil _ _
  obtain ⟨A, cap, rfl, hcap⟩ := hr.len
  have hbl := beN_len m size
  have hba := fun k (hk : k < size) => beN_at m size k hk
  generalize beN m size = bs at *
  have HX := Lib.hid (And.intro hbl hba)
  clear hbl hba
  go_enter Tryz.func103, Tryz.ntmps103
  go_wp2_with (first
    | (refine L_make (n := xs.length + size) rfl rfl H Tryz.underlying22 hi hz rfl rfl (by rw [hby]; omega) (by simp only [maxLen]; omega) ?_; clear H; intro g w H; rw [hsz, made_bytes] at H)
    | (refine L_copyB rfl rfl Tryz.underlying22 hs1 H 0 rfl rfl rfl (hr.keep H.ext) (by omega) (by simp) ?_; clear H; intro w H))
  have h0 : SH (fun _ => False) w0 w [pt g (.cells (bcells (xs ++ (bs.take 0 ++ List.replicate (bs.length - 0) 0))) 5 (0, 0))] := by
    simp only [List.set_cons_zero] at H
    rw [HX.out.1]
    simpa using H
  clear H
  go_loopw [19] (fun vi wr => BehRel g xs bs w0 vi wr) (fun vi _ => size - (intOf vi).toNat)
  case atStart => exact ⟨0, rfl, Nat.zero_le _, h0⟩
  case round =>
    clear h0
    obtain ⟨k, rfl, hk, H⟩ := hrel
    rw [HX.out.1] at hk
    by_cases hkn : k < size
    · have hki : (k : Int) < (size : Int) := by omega
      have hkb : k < bs.length := by rw [HX.out.1]; exact hkn
      have hsz2 : xs.length + k < (bcells (xs ++ (bs.take k ++ List.replicate (bs.length - k) 0))).size := by rw [bcells_size, List.length_append, List.length_append, List.length_take, List.length_replicate]; omega
      have hbk := HX.out.2 k hkn
      have hset := beh_set xs bs k hkb
      rw [List.getElem?_eq_getElem hkb] at hbk
      rw [Option.some.inj hbk] at hset
      have HS := Lib.hid hset
      clear hset hbk hkb
      go_wp2_with (first | (refine L_store1 rfl rfl H 0 rfl rfl rfl rfl rfl hsz2 Tryz.sizeOf5 ?_; clear H; intro w H; simp only [List.set_cons_zero, List.set_cons_succ, List.setIfInBounds_toArray, Act.eval, Array.getD_eq_getD_getElem?, List.getElem?_toArray, List.getElem?_cons_succ, List.getElem?_cons_zero, Option.getD_some] at H))
      rw [bcells_set, HS.out] at H
      go_roundw
      case rel => exact ⟨k + 1, by go_num, by rw [HX.out.1]; omega, H⟩
      case measure => simp [intOf]; omega
    · obtain rfl : k = size := by omega
      go_wp2_with fail
      go_ret
      rw [HX.out.1, Nat.sub_self, List.replicate_zero, List.append_nil, List.take_of_length_le (by rw [HX.out.1]; exact Nat.le_refl _)] at H
      exact ⟨g, by rw [List.length_append, HX.out.1]; rfl, H⟩

theorem octInt_any (v : Value) (xs : List Int) (n : Int) (w0 : World) (hr : RdS (encInt .u8) 1 w0 v xs) (hl : xs.length ≤ 1000000000) :
    Calls Tryz.prog 87 #[v, .int .i64 n] w0 (GivesBytes w0 (xs ++ be8 n)) := by
  have hb := behind_any v xs (n % 18446744073709551616) 8 w0 hr hl (by omega) (by omega) (by omega) (by omega)
  rw [beN_eight] at hb
  generalize be8 n = bs at *
  go_enter Tryz.func87, Tryz.ntmps87
  go_wp2_with (go_at_call 103; refine Calls.mono (by first | exact hb | (rw [IntKind.wrap_u64]; exact hb)) ?_; rintro e w ⟨g, rfl, h⟩)
  go_ret
  exact ⟨g, by rw [List.length_append]; rfl, h⟩
end Go.Proofs.YtgmeahogdjhejaaGreatDoor
