/- Catalogues: IndexFunc, ContainsFunc, the closures; Find. -/
import Derived.Test.YtmfcccflohpjiaaGreatDoorCatE
import Derived.Shelf.Abstract
namespace Go.Proofs.YtmfcccflohpjiaaGreatDoor
set_option linter.unusedVariables false
set_option linter.unusedSimpArgs false
open Go.RowKit

def idxE (pr : Ent → Bool) (xs : List Ent) : Int := match xs.findIdx? pr with | some i => (i : Int) | none => -1
theorem idxE_hit {pr : Ent → Bool} {xs : List Ent} {k : Nat} (hk : k < xs.length) (h : pr xs[k] = true) (hb : ∀ j (hj : j < k), pr (xs[j]'(by omega)) = false) : idxE pr xs = (k : Int) := by
  have : xs.findIdx? pr = some k := by
    rw [List.findIdx?_eq_some_iff_getElem]
    exact ⟨hk, h, fun j hj => by simp [hb j hj]⟩
  unfold idxE
  rw [this]
theorem idxE_none {pr : Ent → Bool} {xs : List Ent} (hb : ∀ j (hj : j < xs.length), pr xs[j] = false) : idxE pr xs = -1 := by
  have : xs.findIdx? pr = none := by
    rw [List.findIdx?_eq_none_iff]
    intro x hx
    obtain ⟨j, hj, rfl⟩ := List.mem_iff_getElem.1 hx
    exact hb j hj
  unfold idxE
  rw [this]
theorem idxE_any (pr : Ent → Bool) (xs : List Ent) : decide (0 ≤ idxE pr xs) = xs.any pr := by
  unfold idxE
  cases h : xs.findIdx? pr with
  | none =>
    rw [List.findIdx?_eq_none_iff] at h
    have : xs.any pr = false := by rw [List.any_eq_false]; intro x hx; simp [h x hx]
    simp [this]
  | some i =>
    rw [List.findIdx?_eq_some_iff_getElem] at h
    obtain ⟨hi, h1, _⟩ := h
    have : xs.any pr = true := List.any_eq_true.2 ⟨_, List.getElem_mem hi, h1⟩
    simp [this]
/-- The closure g with what it captured answers pr, of every entry of xs. -/
def FnGivesE (g : Nat) (lb : Array Value) (pr : Ent → Bool) (xs : List Ent) (w : World) : Prop :=
  ∀ (W : World) (x : Ent), x ∈ xs → Ext0 w W → Calls Tryz.prog g (#[entV x] ++ lb) W fun e w' => e = .returned (.bool (pr x)) ∧ Ext0 W w'
def IxRelE (pr : Ent → Bool) (xs : List Ent) (w : World) (vi : Value) (wr : World) : Prop :=
  ∃ k : Nat, vi = .int .i64 (k : Int) ∧ k ≤ xs.length ∧ Ext0 w wr ∧ Hid (∀ j (hj : j < k) (hj2 : j < xs.length), pr xs[j] = false)
set_option maxRecDepth 100000 in
set_option maxHeartbeats 1000000 in
theorem indexFuncE_any (g : Nat) (lb : Array Value) (pr : Ent → Bool) (eg : ∀ args w, (callFunc g args).run Tryz.prog w = .ok (.enter g args) w) (v : Value) (xs : List Ent) (w : World) (hr : RdS eCells 6 w v xs) (hn : xs.length ≤ 1000000) (hcl : FnGivesE g lb pr xs w) :
    Calls Tryz.prog 43 #[v, .func (.func g) #[] lb] w fun e w' => e = .returned (.int .i64 (idxE pr xs)) ∧ Ext0 w w' := by
  obtain ⟨A, cap, rfl, hcap⟩ := hr.len
  have HC := Lib.hid hcl
  have HR := Lib.hid hr
  clear hcl hr
  go_enter Tryz.func43, Tryz.ntmps43
  go_wp2
  go_loopw [8] (fun vi wr => IxRelE pr xs w vi wr) (fun vi _ => xs.length - (intOf vi).toNat)
  case atStart => exact ⟨0, rfl, Nat.zero_le _, Ext.refl _ _, Lib.hid (fun j hj => absurd hj (Nat.not_lt_zero _))⟩
  case round =>
    obtain ⟨k, rfl, hk, hE, HA⟩ := hrel
    by_cases hkn : k < xs.length
    · have hki : (k : Int) < (xs.length : Int) := by omega
      obtain ⟨x, hx⟩ : ∃ x, xs[k] = x := ⟨_, rfl⟩
      obtain ⟨bb, off, cs, T, fr, rfl, hbb, hcs⟩ := ent_cells HR.out hkn hx
      have hci := hcs k hkn
      have hxm : x ∈ xs := by rw [← hx]; exact List.getElem_mem _
      rw [hx] at hci
      have hcall := HC.out wr x hxm hE
      have HX := Lib.hid hx
      clear hx hxm hcs
      obtain ⟨q, hq⟩ : ∃ q, pr x = q := ⟨_, rfl⟩
      rw [hq] at hcall
      have HQ := Lib.hid hq
      clear hq
      obtain ⟨p, mode, time, block, at_, size⟩ := x
      have hci6 : ∀ j, j < 6 → cs[off + k * 6 + j]? = [Value.string p, .int .i64 mode, .int .i64 time, .int .i64 block, .int .i64 at_, .int .i64 size][j]? := fun j hj => hci j hj
      clear hci
      have hS : SH (fun _ => False) w wr [] := ⟨hE, by simp, by simp, by simp, .nil⟩
      simp only [entV] at hcall
      cases q
      · go_wp2_with (first
          | (refine L_loadmidr rfl rfl hS rfl hbb (fun e => e) Tryz.underlying39 rfl info39 [Value.string p, .int .i64 mode, .int .i64 time, .int .i64 block, .int .i64 at_, .int .i64 size] rfl hci6 ?_; (try simp only [Act.put, List.setIfInBounds_toArray, List.set_cons_succ, List.set_cons_zero, List.getElem_toArray, List.getElem_cons_succ, List.getElem_cons_zero]))
          | (go_at_fn g; refine hcall.mono ?_; rintro e w' ⟨rfl, hE2⟩))
        go_roundw
        case rel => exact ⟨k + 1, by go_num, by omega, hE.trans0 hE2, Lib.hid (fun j hj hj2 => by
          by_cases hjk : j < k
          · exact HA.out j hjk hj2
          · obtain rfl : j = k := by omega
            rw [HX.out]
            exact HQ.out)⟩
        case measure => simp [intOf]; omega
      · go_wp2_with (first
          | (refine L_loadmidr rfl rfl hS rfl hbb (fun e => e) Tryz.underlying39 rfl info39 [Value.string p, .int .i64 mode, .int .i64 time, .int .i64 block, .int .i64 at_, .int .i64 size] rfl hci6 ?_; (try simp only [Act.put, List.setIfInBounds_toArray, List.set_cons_succ, List.set_cons_zero, List.getElem_toArray, List.getElem_cons_succ, List.getElem_cons_zero]))
          | (go_at_fn g; refine hcall.mono ?_; rintro e w' ⟨rfl, hE2⟩))
        go_ret
        exact ⟨by rw [idxE_hit hkn (by rw [HX.out]; exact HQ.out) (fun j hj => HA.out j hj (by omega))]; rfl, hE.trans0 hE2⟩
    · obtain rfl : k = xs.length := by omega
      have hjn2 : ¬ ((xs.length : Int) < (xs.length : Int)) := by omega
      go_wp2
      go_ret
      exact ⟨by rw [idxE_none (fun j hj => HA.out j hj hj)]; rfl, hE⟩
theorem containsFuncE_any (g : Nat) (lb : Array Value) (pr : Ent → Bool) (eg : ∀ args w, (callFunc g args).run Tryz.prog w = .ok (.enter g args) w) (v : Value) (xs : List Ent) (w : World) (hr : RdS eCells 6 w v xs) (hn : xs.length ≤ 1000000) (hcl : FnGivesE g lb pr xs w) :
    Calls Tryz.prog 28 #[v, .func (.func g) #[] lb] w fun e w' => e = .returned (.bool (xs.any pr)) ∧ Ext0 w w' := by
  have hcon := indexFuncE_any g lb pr eg v xs w hr hn hcl
  rw [← idxE_any]
  generalize idxE pr xs = q at *
  clear hcl hr
  go_enter Tryz.func28, Tryz.ntmps28
  go_wp2_with (go_at_call 43; refine hcon.mono ?_; rintro e w' ⟨rfl, hE⟩)
  go_ret
  exact ⟨rfl, hE⟩
end Go.Proofs.YtmfcccflohpjiaaGreatDoor
