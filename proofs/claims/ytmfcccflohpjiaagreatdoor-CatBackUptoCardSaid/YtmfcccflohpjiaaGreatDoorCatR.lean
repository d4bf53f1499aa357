/- Catalogues: Find. -/
import Derived.Test.YtmfcccflohpjiaaGreatDoorCatJ
namespace Go.Proofs.YtmfcccflohpjiaaGreatDoor
set_option linter.unusedVariables false
set_option linter.unusedSimpArgs false
open Go.RowKit

def eqP (s : ByteArray) (x : Ent) : Bool := x.path.toList == s.toList
def findE (s : ByteArray) (xs : List Ent) : Int := idxE (eqP s) xs
theorem find_closure (s : ByteArray) (xs : List Ent) (B : Nat) (w : World) (hB : w.cell? ⟨B, 0, none⟩ = some (.string s)) : FnGivesE 44 #[.pointer (some ⟨B, 0, none⟩)] (eqP s) xs w := fun W y hy hE => by
  have hc := hE.cell hB (fun e => e)
  obtain ⟨p, mode, time, block, at_, size⟩ := y
  simp only [entV, eqP]
  have H : SH (fun _ => False) W W [] := SH.nil _ _
  show Calls Tryz.prog 44 #[.agg #[.string p, .int .i64 mode, .int .i64 time, .int .i64 block, .int .i64 at_, .int .i64 size], .pointer (some ⟨B, 0, none⟩)] W _
  go_enter Tryz.func44, Tryz.ntmps44
  go_wp2_with (first
    | (refine L_load1 rfl rfl H 0 rfl rfl rfl Tryz.isAgg9 ?_; (try simp only [Act.put, List.setIfInBounds_toArray, List.set_cons_succ, List.set_cons_zero, List.getElem_toArray, List.getElem_cons_succ, List.getElem_cons_zero])) | (refine L_box rfl rfl H rfl rfl ?_; clear H; intro g w H; (try simp only [Act.eval, Array.getD_eq_getD_getElem?, List.getElem?_toArray, List.getElem?_cons_succ, List.getElem?_cons_zero, Option.getD_some, Value.cells] at H); (try simp only [Act.put, List.setIfInBounds_toArray, List.set_cons_succ, List.set_cons_zero, List.getElem_toArray, List.getElem_cons_succ, List.getElem_cons_zero]))
    | (refine L_loadC rfl rfl rfl (H.ext.cell hc (fun e => e)) Tryz.isAgg9 ?_; (try simp only [Act.put, List.setIfInBounds_toArray, List.set_cons_succ, List.set_cons_zero, List.getElem_toArray, List.getElem_cons_succ, List.getElem_cons_zero])))
  go_ret
  exact ⟨rfl, H.ext⟩
set_option maxRecDepth 100000 in
set_option maxHeartbeats 1000000 in
theorem find_any (v : Value) (xs : List Ent) (s : ByteArray) (w : World) (hr : RdS eCells 6 w v xs) (hn : xs.length ≤ 1000000) :
    Calls Tryz.prog 16 #[v, .string s] w fun e w' => e = .returned (.int .i64 (findE s xs)) ∧ Ext0 w w' := by
  have eg : ∀ args w, (callFunc 44 args).run Tryz.prog w = .ok (.enter 44 args) w := enters_of Tryz.func44 (by kernel_rfl) rfl
  have hcon := fun {W : World} {B : Nat} (hE : Ext0 w W) (hB : W.cell? ⟨B, 0, none⟩ = some (.string s)) => indexFuncE_any 44 #[.pointer (some ⟨B, 0, none⟩)] (eqP s) eg v xs W (hr.keep hE) hn (find_closure s xs B W hB)
  unfold findE
  have H : SH (fun _ => False) w w [] := SH.nil _ _
  generalize idxE (eqP s) xs = q at *
  clear hr
  go_enter Tryz.func16, Tryz.ntmps16
  go_upto_region 1 with (first
    | (refine L_box rfl rfl H rfl rfl ?_; clear H; intro g w H; (try simp only [Act.eval, Array.getD_eq_getD_getElem?, List.getElem?_toArray, List.getElem?_cons_succ, List.getElem?_cons_zero, Option.getD_some, Value.cells] at H); (try simp only [Act.put, List.setIfInBounds_toArray, List.set_cons_succ, List.set_cons_zero, List.getElem_toArray, List.getElem_cons_succ, List.getElem_cons_zero])))
  have hcB := cell_of_row _ g 0 _ _ _ (H.at_ 0 rfl)
  replace hcon := hcon (B := g) H.ext hcB
  clear hcB
  go_wp2_with (go_at_call 43; refine hcon.mono ?_; rintro e w' ⟨rfl, hE⟩)
  go_ret
  exact ⟨rfl, H.ext.trans0 hE⟩
set_option maxRecDepth 100000 in
set_option maxHeartbeats 1000000 in
theorem refFindC_any (v : Value) (xs : List Ent) (s : ByteArray) (w : World) (hr : RdS eCells 6 w v xs) (hn : xs.length ≤ 1000000) :
    Calls Tryz.prog 17 #[v, .string s] w fun e w' => e = .returned (.int .i64 (findE s xs)) ∧ Ext0 w w' := by
  obtain ⟨A, cap, rfl, hcap⟩ := hr.len
  have HR := Lib.hid hr
  clear hr
  go_enter Tryz.func17, Tryz.ntmps17
  go_wp2_with fail
  go_loopw [5] (fun vi wr => IxRelE (eqP s) xs w vi wr) (fun vi _ => xs.length - (intOf vi).toNat)
  case atStart => exact ⟨0, rfl, Nat.zero_le _, Ext.refl _ _, Lib.hid (fun j hj => absurd hj (Nat.not_lt_zero _))⟩
  case round =>
    obtain ⟨k, rfl, hk, hE, HA⟩ := hrel
    by_cases hkn : k < xs.length
    · have hki : (k : Int) < (xs.length : Int) := by omega
      obtain ⟨x, hx⟩ : ∃ x, xs[k] = x := ⟨_, rfl⟩
      obtain ⟨bb, off, cs, T, fr, rfl, hbb, hcs⟩ := ent_cells HR.out hkn hx
      have hci : cs[off + k * 6]? = some (.string x.path) := by have := hcs k hkn 0 (by omega); rw [hx] at this; exact this
      have HX := Lib.hid hx
      clear hx hcs
      have hS : SH (fun _ => False) w wr [] := ⟨hE, by simp, by simp, by simp, .nil⟩
      go_upto_if 18 with (refine L_load1r rfl rfl hS rfl hbb (fun e => e) hci Tryz.isAgg9 ?_; (try simp only [Act.put, List.setIfInBounds_toArray, List.set_cons_succ, List.set_cons_zero, List.getElem_toArray, List.getElem_cons_succ, List.getElem_cons_zero]))
      obtain ⟨q, hq⟩ : ∃ q, (x.path.toList == s.toList) = q := ⟨_, rfl⟩
      rw [hq]
      have HQ := Lib.hid hq
      clear hq
      cases q
      · go_wp2_with fail
        go_roundw
        case rel => exact ⟨k + 1, by go_num, by omega, hE, Lib.hid (fun j hj hj2 => by
          by_cases hjk : j < k
          · exact HA.out j hjk hj2
          · obtain rfl : j = k := by omega
            rw [HX.out]
            exact HQ.out)⟩
        case measure => simp [intOf]; omega
      · go_wp2_with fail
        go_ret
        exact ⟨by rw [findE, idxE_hit hkn (by rw [HX.out]; exact HQ.out) (fun j hj => HA.out j hj (by omega))]; rfl, hE⟩
    · obtain rfl : k = xs.length := by omega
      have hjn2 : ¬ ((xs.length : Int) < (xs.length : Int)) := by omega
      go_wp2_with fail
      go_ret
      exact ⟨by rw [findE, idxE_none (fun j hj => HA.out j hj hj)]; rfl, hE⟩
end Go.Proofs.YtmfcccflohpjiaaGreatDoor
