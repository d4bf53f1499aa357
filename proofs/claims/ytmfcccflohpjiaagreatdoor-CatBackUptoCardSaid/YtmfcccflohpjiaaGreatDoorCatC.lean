/- Catalogues: the document's Good. -/
import Derived.Test.YtmfcccflohpjiaaGreatDoorCatB
namespace Go.Proofs.YtmfcccflohpjiaaGreatDoor
set_option linter.unusedVariables false
set_option linter.unusedSimpArgs false
open Go.RowKit

def PathOk (xs : List Ent) : Prop := ∀ x ∈ xs, x.path.size < 4294967281 ∧ x.Num
theorem ent_cells {w : World} {A : Option Addr} {n c : Nat} {xs : List Ent} (h : RdS eCells 6 w (.slice A n c) xs) {j : Nat} (hj : j < xs.length) {x : Ent} (hx : xs[j] = x) :
    ∃ bb off cs T fr, A = some ⟨bb, off, none⟩ ∧ w.heap[bb]? = some (.cells cs T fr) ∧ (∀ j (hj : j < xs.length) i, i < 6 → cs[off + j * 6 + i]? = (eCells xs[j])[i]?) := by
  obtain ⟨A', cap', he, hc, rfl | ⟨b, off, cs, T, fr, rfl, hb, hcs⟩⟩ := h
  · simp at hj
  · cases he
    exact ⟨b, off, cs, T, fr, rfl, hb, hcs⟩
/-- Does y stand before x, as it should? -/
def pairOk (y x : Ent) : Bool := Op.bytesLess y.path.toList x.path.toList && !Pth.underL (Pth.lst x.path) (Pth.lst y.path) && !commonP x y
def oneOk (xs : List Ent) (i : Nat) : Prop := ∀ x, xs[i]? = some x → aloneP x = true ∧ ∀ k, k < i → ∀ y, xs[k]? = some y → pairOk y x = true
def CatGood (xs : List Ent) : Prop := xs.length ≤ 12 ∧ ∀ i, i < xs.length → oneOk xs i
def CatGoodE (xs : List Ent) (e : Ending) : Prop := ∃ q : Bool, e = .returned (.bool q) ∧ Hid (q = true ↔ CatGood xs)
theorem catGoodE_mk {xs : List Ent} {q : Bool} (h : q = true ↔ CatGood xs) : CatGoodE xs (.returned (.bool q)) := ⟨q, rfl, Lib.hid h⟩
def RgOut (xs : List Ent) (ok : Nat → Prop) (w0 : World) (vi : Value) (wr : World) : Prop := ∃ i : Nat, vi = .int .i64 (i : Int) ∧ i ≤ xs.length ∧ Ext0 w0 wr ∧ Hid (∀ j, j < i → ok j)
def RgIn (i : Nat) (ok : Nat → Prop) (w0 : World) (vk : Value) (wr : World) : Prop := ∃ k : Nat, vk = .int .i64 (k : Int) ∧ k ≤ i ∧ Ext0 w0 wr ∧ Hid (∀ j, j < k → ok j)
set_option maxRecDepth 100000 in
set_option maxHeartbeats 4000000 in
theorem refGoodC_any (v : Value) (xs : List Ent) (w0 : World) (hr : RdS eCells 6 w0 v xs) (hn : xs.length ≤ 100000) (hp : PathOk xs) : Calls Tryz.prog 12 #[v] w0 fun e w' => CatGoodE xs e ∧ Ext0 w0 w' := by
  obtain ⟨A, cap, rfl, hcap⟩ := hr.len
  have H : SH (fun _ => False) w0 w0 [] := SH.nil _ _
  have HR := Lib.hid hr
  have HP := Lib.hid hp
  clear hr hp
  by_cases h12 : 12 < xs.length
  · have h12i : (12 : Int) < (xs.length : Int) := by omega
    go_enter Tryz.func12, Tryz.ntmps12
    go_wp2_with fail
    go_ret
    exact ⟨catGoodE_mk ⟨fun h => (Bool.false_ne_true h).elim, fun h => absurd h.1 (by omega)⟩, Ext.refl _ _⟩
  · have h12i : ¬ (12 : Int) < (xs.length : Int) := by omega
    go_enter Tryz.func12, Tryz.ntmps12
    go_wp2_with fail
    go_loopw [3] (fun vi wr => RgOut xs (oneOk xs) w0 vi wr) (fun vi _ => xs.length - (intOf vi).toNat)
    case atStart => exact ⟨0, rfl, Nat.zero_le _, Ext.refl _ _, Lib.hid (fun _ h => absurd h (by omega))⟩
    case round =>
      obtain ⟨i, rfl, hi, hE, HA⟩ := hrel
      by_cases hin : i < xs.length
      · have hii : (i : Int) < (xs.length : Int) := by omega
        obtain ⟨x, hx⟩ : ∃ x, xs[i] = x := ⟨_, rfl⟩
        obtain ⟨bb, off, cs, T, fr, rfl, hbb, hcs⟩ := ent_cells HR.out hin hx
        have hxi := HP.out x (by rw [← hx]; exact List.getElem_mem _)
        have hci := hcs i hin
        rw [hx] at hci
        have hal := fun {W : World} => refAlone_any x W hxi.1 hxi.2
        obtain ⟨p, mode, time, block, at_, size⟩ := x
        have hci6 : ∀ j, j < 6 → cs[off + i * 6 + j]? = [Value.string p, .int .i64 mode, .int .i64 time, .int .i64 block, .int .i64 at_, .int .i64 size][j]? := fun j hj => hci j hj
        simp only [entV] at hal
        have hS0 : SH (fun _ => False) w0 wr [] := ⟨hE, by simp, by simp, by simp, .nil⟩
        generalize hga : aloneP ⟨p, mode, time, block, at_, size⟩ = ga at hal
        have HGA := Lib.hid hga
        clear hga hci
        go_upto_if 19 with (first
          | (refine L_loadmidr rfl rfl hS0 rfl hbb (fun e => e) Tryz.underlying39 rfl info39 [Value.string p, .int .i64 mode, .int .i64 time, .int .i64 block, .int .i64 at_, .int .i64 size] rfl hci6 ?_; (try simp only [Act.put, List.setIfInBounds_toArray, List.set_cons_succ, List.set_cons_zero, List.getElem_toArray, List.getElem_cons_succ, List.getElem_cons_zero]))
          | (go_at_call 32; refine hal.mono ?_; rintro e w2 ⟨rfl, hE2⟩; replace hS0 := hS0.calls hE2; clear hE2))
        cases ga
        · go_wp2_with fail
          go_ret
          refine ⟨catGoodE_mk ⟨fun h => (Bool.false_ne_true h).elim, fun h => ?_⟩, hS0.ext⟩
          have := (h.2 i hin _ (by rw [List.getElem?_eq_getElem hin, hx])).1
          rw [HGA.out] at this
          cases this
        · go_wp2_with fail
          go_loopw [4] (fun vk wr2 => RgIn i (fun k => ∀ y, xs[k]? = some y → pairOk y ⟨p, mode, time, block, at_, size⟩ = true) w0 vk wr2) (fun vk _ => i - (intOf vk).toNat)
          case atStart => exact ⟨0, rfl, Nat.zero_le _, hS0.ext, Lib.hid (fun _ h => absurd h (by omega))⟩
          case round =>
            clear hS0
            obtain ⟨k, rfl, hk, hE3, HK⟩ := hrel
            by_cases hki : k < i
            · have hkii : (k : Int) < (i : Int) := by omega
              have hkn : k < xs.length := by omega
              have hknl : (k : Int) < (xs.length : Int) := by omega
              obtain ⟨y, hy⟩ : ∃ y, xs[k] = y := ⟨_, rfl⟩
              have hyk := HP.out y (by rw [← hy]; exact List.getElem_mem _)
              have hck := hcs k hkn
              rw [hy] at hck
              obtain ⟨p', mode', time', block', at', size'⟩ := y
              have hck6 : ∀ j, j < 6 → cs[off + k * 6 + j]? = [Value.string p', .int .i64 mode', .int .i64 time', .int .i64 block', .int .i64 at', .int .i64 size'][j]? := fun j hj => hck j hj
              have hpi : cs[off + i * 6]? = some (.string p) := hci6 0 (by omega)
              have hpk : cs[off + k * 6]? = some (.string p') := hck6 0 (by omega)
              have hS : SH (fun _ => False) w0 wr [] := ⟨hE3, by simp, by simp, by simp, .nil⟩
              obtain ⟨un, HUN⟩ : ∃ q, Hid (Pth.underL (Pth.lst p) (Pth.lst p') = q) := ⟨_, Lib.hid rfl⟩
              obtain ⟨cm, HCM⟩ : ∃ q, Hid (commonP ⟨p, mode, time, block, at_, size⟩ ⟨p', mode', time', block', at', size'⟩ = q) := ⟨_, Lib.hid rfl⟩
              have hun := fun {W : World} => Pth.refUnder_any p p' W hxi.1 hyk.1
              rw [HUN.out] at hun
              have hcm := fun {W : World} (hy : aloneP ⟨p', mode', time', block', at', size'⟩ = true) => refCommon_any ⟨p, mode, time, block, at_, size⟩ ⟨p', mode', time', block', at', size'⟩ W HGA.out hy
              simp only [entV] at hcm
              rw [HCM.out] at hcm
              have hay : aloneP ⟨p', mode', time', block', at', size'⟩ = true := ((HA.out k hki) _ (by rw [List.getElem?_eq_getElem hkn, hy])).1
              have hcm2 := fun {W : World} => @hcm W hay
              clear hck hcm
              go_upto_region 11 with fail
              refine D_start hS (by kernel_rfl) (fun hS => ?_)
              try simp only [Act.put, List.setIfInBounds_toArray, List.set_cons_succ, List.set_cons_zero]
              refine D_take 0 rfl (by kernel_rfl) (by kernel_rfl) (by kernel_rfl) (v := ?_) (fun _ _ _ h => h) rfl (by rfl) ?_ hS ?_
              rotate_left; (focus (intro W hS; first | (go_simp; done) | (go_simp; with_reducible rfl) | (go_simp; rfl))); all_goals skip; (try simp only [List.set_cons_succ, List.set_cons_zero])
              refine D_take 1 rfl (by kernel_rfl) (by kernel_rfl) (by kernel_rfl) (v := ?_) (fun _ _ _ h => h) rfl (by rfl) ?_ hS ?_
              rotate_left; (focus (intro W hS; first | (go_simp; done) | (go_simp; with_reducible rfl) | (go_simp; rfl))); all_goals skip; (try simp only [List.set_cons_succ, List.set_cons_zero])
              refine D_take 2 rfl (by kernel_rfl) (by kernel_rfl) (by kernel_rfl) (v := ?_) (fun _ _ _ h => h) rfl (by rfl) ?_ hS ?_
              rotate_left; (focus (intro W hS; first | (go_simp; done) | (go_simp; with_reducible rfl) | (go_simp; rfl))); all_goals skip; (try simp only [List.set_cons_succ, List.set_cons_zero])
              refine D_take 3 rfl (by kernel_rfl) (by kernel_rfl) (by kernel_rfl) (v := ?_) (fun _ _ _ h => h) rfl (by rfl) ?_ hS ?_
              rotate_left; (focus (intro W hS; first | (go_simp; done) | (go_simp; with_reducible rfl) | (go_simp; rfl))); all_goals skip; (try simp only [List.set_cons_succ, List.set_cons_zero])
              refine D_take 4 rfl (by kernel_rfl) (by kernel_rfl) (by kernel_rfl) (v := (.string p')) (fun _ _ _ h => h) rfl (by rfl) ?_ hS ?_
              (focus (intro W hS; exact R_load1r (ty := 9) (x := .tmp 28) (off := off + k * 6) rfl hS rfl hbb (fun e => e) hpk Tryz.isAgg9)); all_goals skip; (try simp only [List.set_cons_succ, List.set_cons_zero, List.getElem_toArray, List.getElem_cons_succ, List.getElem_cons_zero])
              refine D_take 5 rfl (by kernel_rfl) (by kernel_rfl) (by kernel_rfl) (v := ?_) (fun _ _ _ h => h) rfl (by rfl) ?_ hS ?_
              rotate_left; (focus (intro W hS; first | (go_simp; done) | (go_simp; with_reducible rfl) | (go_simp; rfl))); all_goals skip; (try simp only [List.set_cons_succ, List.set_cons_zero])
              refine D_take 6 rfl (by kernel_rfl) (by kernel_rfl) (by kernel_rfl) (v := ?_) (fun _ _ _ h => h) rfl (by rfl) ?_ hS ?_
              rotate_left; (focus (intro W hS; first | (go_simp; done) | (go_simp; with_reducible rfl) | (go_simp; rfl))); all_goals skip; (try simp only [List.set_cons_succ, List.set_cons_zero])
              refine D_take 7 rfl (by kernel_rfl) (by kernel_rfl) (by kernel_rfl) (v := ?_) (fun _ _ _ h => h) rfl (by rfl) ?_ hS ?_
              rotate_left; (focus (intro W hS; first | (go_simp; done) | (go_simp; with_reducible rfl) | (go_simp; rfl))); all_goals skip; (try simp only [List.set_cons_succ, List.set_cons_zero])
              refine D_take 8 rfl (by kernel_rfl) (by kernel_rfl) (by kernel_rfl) (v := ?_) (fun _ _ _ h => h) rfl (by rfl) ?_ hS ?_
              rotate_left; (focus (intro W hS; first | (go_simp; done) | (go_simp; with_reducible rfl) | (go_simp; rfl))); all_goals skip; (try simp only [List.set_cons_succ, List.set_cons_zero])
              refine D_take 9 rfl (by kernel_rfl) (by kernel_rfl) (by kernel_rfl) (v := (.string p)) (fun _ _ _ h => h) rfl (by rfl) ?_ hS ?_
              (focus (intro W hS; exact R_load1r (ty := 9) (x := .tmp 33) (off := off + i * 6) rfl hS rfl hbb (fun e => e) hpi Tryz.isAgg9)); all_goals skip; (try simp only [List.set_cons_succ, List.set_cons_zero, List.getElem_toArray, List.getElem_cons_succ, List.getElem_cons_zero])
              refine D_takeB 10 rfl (by kernel_rfl) (by kernel_rfl) (by kernel_rfl) (q := (!Op.bytesLess p'.toList p.toList)) (fun _ _ _ h => h) rfl (by rfl) hS ?_ ?_
              (focus (intro W hS; first | (go_simp; done) | (go_simp; rfl))); all_goals skip; (try simp only [List.set_cons_succ, List.set_cons_zero])
              intro ca10 Hca10
              refine D_take 11 rfl (by kernel_rfl) (by kernel_rfl) (by kernel_rfl) (v := ?_) (fun _ _ _ h => h) rfl (by rfl) ?_ hS ?_
              rotate_left; (focus (intro W hS; first | (go_simp; done) | (go_simp; with_reducible rfl) | (go_simp; rfl))); all_goals skip; (try simp only [List.set_cons_succ, List.set_cons_zero])
              refine D_maybe 12 (!ca10) rfl (by kernel_rfl) (by kernel_rfl) (by kernel_rfl) (v := ?_) (fun _ _ _ _ h => h) rfl (by cases ca10 <;> rfl) hS ?_ ?_
              rotate_left; (focus (intro hb; intro W hS; (try simp only [Bool.and_eq_true, Bool.not_eq_true'] at hb); have hb0 := hb; (try simp only [hb0, Bool.not_false, Bool.not_true, Bool.and_true, Bool.true_and, Bool.and_self, cond_true, cond_false]); first | (go_simp; done) | (go_simp; with_reducible rfl) | (go_simp; rfl))); all_goals skip; (try simp only [List.set_cons_succ, List.set_cons_zero])
              refine D_maybe 13 (!ca10) rfl (by kernel_rfl) (by kernel_rfl) (by kernel_rfl) (v := ?_) (fun _ _ _ _ h => h) rfl (by cases ca10 <;> rfl) hS ?_ ?_
              rotate_left; (focus (intro hb; intro W hS; (try simp only [Bool.and_eq_true, Bool.not_eq_true'] at hb); have hb0 := hb; (try simp only [hb0, Bool.not_false, Bool.not_true, Bool.and_true, Bool.true_and, Bool.and_self, cond_true, cond_false]); first | (go_simp; done) | (go_simp; with_reducible rfl) | (go_simp; rfl))); all_goals skip; (try simp only [List.set_cons_succ, List.set_cons_zero])
              refine D_maybe 14 (!ca10) rfl (by kernel_rfl) (by kernel_rfl) (by kernel_rfl) (v := ?_) (fun _ _ _ _ h => h) rfl (by cases ca10 <;> rfl) hS ?_ ?_
              rotate_left; (focus (intro hb; intro W hS; (try simp only [Bool.and_eq_true, Bool.not_eq_true'] at hb); have hb0 := hb; (try simp only [hb0, Bool.not_false, Bool.not_true, Bool.and_true, Bool.true_and, Bool.and_self, cond_true, cond_false]); first | (go_simp; done) | (go_simp; with_reducible rfl) | (go_simp; rfl))); all_goals skip; (try simp only [List.set_cons_succ, List.set_cons_zero])
              refine D_maybe 15 (!ca10) rfl (by kernel_rfl) (by kernel_rfl) (by kernel_rfl) (v := ?_) (fun _ _ _ _ h => h) rfl (by cases ca10 <;> rfl) hS ?_ ?_
              rotate_left; (focus (intro hb; intro W hS; (try simp only [Bool.and_eq_true, Bool.not_eq_true'] at hb); have hb0 := hb; (try simp only [hb0, Bool.not_false, Bool.not_true, Bool.and_true, Bool.true_and, Bool.and_self, cond_true, cond_false]); first | (go_simp; done) | (go_simp; with_reducible rfl) | (go_simp; rfl))); all_goals skip; (try simp only [List.set_cons_succ, List.set_cons_zero])
              refine D_maybe 16 (!ca10) rfl (by kernel_rfl) (by kernel_rfl) (by kernel_rfl) (v := (.string p)) (fun _ _ _ _ h => h) rfl (by cases ca10 <;> rfl) hS ?_ ?_
              (focus (intro hb; intro W hS; (try simp only [Bool.and_eq_true, Bool.not_eq_true'] at hb); have hb0 := hb; (try simp only [hb0, Bool.not_false, Bool.not_true, Bool.and_true, Bool.true_and, Bool.and_self, cond_true, cond_false]); exact R_load1r (ty := 9) (x := .tmp 40) (off := off + i * 6) rfl hS rfl hbb (fun e => e) hpi Tryz.isAgg9)); all_goals skip; (try simp only [List.set_cons_succ, List.set_cons_zero, List.getElem_toArray, List.getElem_cons_succ, List.getElem_cons_zero])
              refine D_maybe 17 (!ca10) rfl (by kernel_rfl) (by kernel_rfl) (by kernel_rfl) (v := ?_) (fun _ _ _ _ h => h) rfl (by cases ca10 <;> rfl) hS ?_ ?_
              rotate_left; (focus (intro hb; intro W hS; (try simp only [Bool.and_eq_true, Bool.not_eq_true'] at hb); have hb0 := hb; (try simp only [hb0, Bool.not_false, Bool.not_true, Bool.and_true, Bool.true_and, Bool.and_self, cond_true, cond_false]); first | (go_simp; done) | (go_simp; with_reducible rfl) | (go_simp; rfl))); all_goals skip; (try simp only [List.set_cons_succ, List.set_cons_zero])
              refine D_maybe 18 (!ca10) rfl (by kernel_rfl) (by kernel_rfl) (by kernel_rfl) (v := ?_) (fun _ _ _ _ h => h) rfl (by cases ca10 <;> rfl) hS ?_ ?_
              rotate_left; (focus (intro hb; intro W hS; (try simp only [Bool.and_eq_true, Bool.not_eq_true'] at hb); have hb0 := hb; (try simp only [hb0, Bool.not_false, Bool.not_true, Bool.and_true, Bool.true_and, Bool.and_self, cond_true, cond_false]); first | (go_simp; done) | (go_simp; with_reducible rfl) | (go_simp; rfl))); all_goals skip; (try simp only [List.set_cons_succ, List.set_cons_zero])
              refine D_maybe 19 (!ca10) rfl (by kernel_rfl) (by kernel_rfl) (by kernel_rfl) (v := ?_) (fun _ _ _ _ h => h) rfl (by cases ca10 <;> rfl) hS ?_ ?_
              rotate_left; (focus (intro hb; intro W hS; (try simp only [Bool.and_eq_true, Bool.not_eq_true'] at hb); have hb0 := hb; (try simp only [hb0, Bool.not_false, Bool.not_true, Bool.and_true, Bool.true_and, Bool.and_self, cond_true, cond_false]); first | (go_simp; done) | (go_simp; with_reducible rfl) | (go_simp; rfl))); all_goals skip; (try simp only [List.set_cons_succ, List.set_cons_zero])
              refine D_maybe 20 (!ca10) rfl (by kernel_rfl) (by kernel_rfl) (by kernel_rfl) (v := ?_) (fun _ _ _ _ h => h) rfl (by cases ca10 <;> rfl) hS ?_ ?_
              rotate_left; (focus (intro hb; intro W hS; (try simp only [Bool.and_eq_true, Bool.not_eq_true'] at hb); have hb0 := hb; (try simp only [hb0, Bool.not_false, Bool.not_true, Bool.and_true, Bool.true_and, Bool.and_self, cond_true, cond_false]); first | (go_simp; done) | (go_simp; with_reducible rfl) | (go_simp; rfl))); all_goals skip; (try simp only [List.set_cons_succ, List.set_cons_zero])
              refine D_maybe 21 (!ca10) rfl (by kernel_rfl) (by kernel_rfl) (by kernel_rfl) (v := (.string p')) (fun _ _ _ _ h => h) rfl (by cases ca10 <;> rfl) hS ?_ ?_
              (focus (intro hb; intro W hS; (try simp only [Bool.and_eq_true, Bool.not_eq_true'] at hb); have hb0 := hb; (try simp only [hb0, Bool.not_false, Bool.not_true, Bool.and_true, Bool.true_and, Bool.and_self, cond_true, cond_false]); exact R_load1r (ty := 9) (x := .tmp 45) (off := off + k * 6) rfl hS rfl hbb (fun e => e) hpk Tryz.isAgg9)); all_goals skip; (try simp only [List.set_cons_succ, List.set_cons_zero, List.getElem_toArray, List.getElem_cons_succ, List.getElem_cons_zero])
              refine D_callB 22 (!ca10) un rfl (by kernel_rfl) rfl (by cases ca10 <;> rfl) hS ?_ ?_
              (focus (intro hb K hK; (try simp only [Bool.and_eq_true, Bool.not_eq_true'] at hb); have hb0 := hb; subst hb0; refine R_call (f := 33) (args := #[.string p, .string p']) (by first | (go_simp; done) | (go_simp; rfl)) hun ?_; rintro e w' ⟨rfl, hE⟩; exact ⟨_, rfl, hK _ hE⟩))
              clear hS; intro ca22 w Hca22 hS
              (try simp only [List.set_cons_succ, List.set_cons_zero])
              refine D_takeB 23 rfl (by kernel_rfl) (by kernel_rfl) (by kernel_rfl) (q := (ca10 || ca22)) (fun _ _ _ h => h) rfl (by rfl) hS ?_ ?_
              (focus (intro W hS; cases ca10 <;> cases ca22 <;> (first | (go_simp; done) | (go_simp; with_reducible rfl) | (go_simp; rfl)))); all_goals skip; (try simp only [List.set_cons_succ, List.set_cons_zero])
              intro ca23 Hca23
              refine D_take 24 rfl (by kernel_rfl) (by kernel_rfl) (by kernel_rfl) (v := ?_) (fun _ _ _ h => h) rfl (by rfl) ?_ hS ?_
              rotate_left; (focus (intro W hS; first | (go_simp; done) | (go_simp; with_reducible rfl) | (go_simp; rfl))); all_goals skip; (try simp only [List.set_cons_succ, List.set_cons_zero])
              refine D_maybe 25 (!ca23) rfl (by kernel_rfl) (by kernel_rfl) (by kernel_rfl) (v := ?_) (fun _ _ _ _ h => h) rfl (by cases ca23 <;> rfl) hS ?_ ?_
              rotate_left; (focus (intro hb; intro W hS; (try simp only [Bool.and_eq_true, Bool.not_eq_true'] at hb); have hb0 := hb; (try simp only [hb0, Bool.not_false, Bool.not_true, Bool.and_true, Bool.true_and, Bool.and_self, cond_true, cond_false]); first | (go_simp; done) | (go_simp; with_reducible rfl) | (go_simp; rfl))); all_goals skip; (try simp only [List.set_cons_succ, List.set_cons_zero])
              refine D_maybe 26 (!ca23) rfl (by kernel_rfl) (by kernel_rfl) (by kernel_rfl) (v := ?_) (fun _ _ _ _ h => h) rfl (by cases ca23 <;> rfl) hS ?_ ?_
              rotate_left; (focus (intro hb; intro W hS; (try simp only [Bool.and_eq_true, Bool.not_eq_true'] at hb); have hb0 := hb; (try simp only [hb0, Bool.not_false, Bool.not_true, Bool.and_true, Bool.true_and, Bool.and_self, cond_true, cond_false]); first | (go_simp; done) | (go_simp; with_reducible rfl) | (go_simp; rfl))); all_goals skip; (try simp only [List.set_cons_succ, List.set_cons_zero])
              refine D_maybe 27 (!ca23) rfl (by kernel_rfl) (by kernel_rfl) (by kernel_rfl) (v := ?_) (fun _ _ _ _ h => h) rfl (by cases ca23 <;> rfl) hS ?_ ?_
              rotate_left; (focus (intro hb; intro W hS; (try simp only [Bool.and_eq_true, Bool.not_eq_true'] at hb); have hb0 := hb; (try simp only [hb0, Bool.not_false, Bool.not_true, Bool.and_true, Bool.true_and, Bool.and_self, cond_true, cond_false]); first | (go_simp; done) | (go_simp; with_reducible rfl) | (go_simp; rfl))); all_goals skip; (try simp only [List.set_cons_succ, List.set_cons_zero])
              refine D_maybe 28 (!ca23) rfl (by kernel_rfl) (by kernel_rfl) (by kernel_rfl) (v := (.agg #[.string p, .int .i64 mode, .int .i64 time, .int .i64 block, .int .i64 at_, .int .i64 size])) (fun _ _ _ _ h => h) rfl (by cases ca23 <;> rfl) hS ?_ ?_
              (focus (intro hb; intro W hS; (try simp only [Bool.and_eq_true, Bool.not_eq_true'] at hb); have hb0 := hb; (try simp only [hb0, Bool.not_false, Bool.not_true, Bool.and_true, Bool.true_and, Bool.and_self, cond_true, cond_false]); exact R_loadmid (ty := 39) (x := .tmp 52) rfl rfl (hS.ext.keep hbb (fun e => e)) Tryz.underlying39 rfl info39 _ rfl hci6)); all_goals skip; (try simp only [List.set_cons_succ, List.set_cons_zero, List.getElem_toArray, List.getElem_cons_succ, List.getElem_cons_zero])
              refine D_maybe 29 (!ca23) rfl (by kernel_rfl) (by kernel_rfl) (by kernel_rfl) (v := ?_) (fun _ _ _ _ h => h) rfl (by cases ca23 <;> rfl) hS ?_ ?_
              rotate_left; (focus (intro hb; intro W hS; (try simp only [Bool.and_eq_true, Bool.not_eq_true'] at hb); have hb0 := hb; (try simp only [hb0, Bool.not_false, Bool.not_true, Bool.and_true, Bool.true_and, Bool.and_self, cond_true, cond_false]); first | (go_simp; done) | (go_simp; with_reducible rfl) | (go_simp; rfl))); all_goals skip; (try simp only [List.set_cons_succ, List.set_cons_zero])
              refine D_maybe 30 (!ca23) rfl (by kernel_rfl) (by kernel_rfl) (by kernel_rfl) (v := ?_) (fun _ _ _ _ h => h) rfl (by cases ca23 <;> rfl) hS ?_ ?_
              rotate_left; (focus (intro hb; intro W hS; (try simp only [Bool.and_eq_true, Bool.not_eq_true'] at hb); have hb0 := hb; (try simp only [hb0, Bool.not_false, Bool.not_true, Bool.and_true, Bool.true_and, Bool.and_self, cond_true, cond_false]); first | (go_simp; done) | (go_simp; with_reducible rfl) | (go_simp; rfl))); all_goals skip; (try simp only [List.set_cons_succ, List.set_cons_zero])
              refine D_maybe 31 (!ca23) rfl (by kernel_rfl) (by kernel_rfl) (by kernel_rfl) (v := ?_) (fun _ _ _ _ h => h) rfl (by cases ca23 <;> rfl) hS ?_ ?_
              rotate_left; (focus (intro hb; intro W hS; (try simp only [Bool.and_eq_true, Bool.not_eq_true'] at hb); have hb0 := hb; (try simp only [hb0, Bool.not_false, Bool.not_true, Bool.and_true, Bool.true_and, Bool.and_self, cond_true, cond_false]); first | (go_simp; done) | (go_simp; with_reducible rfl) | (go_simp; rfl))); all_goals skip; (try simp only [List.set_cons_succ, List.set_cons_zero])
              refine D_maybe 32 (!ca23) rfl (by kernel_rfl) (by kernel_rfl) (by kernel_rfl) (v := (.agg #[.string p', .int .i64 mode', .int .i64 time', .int .i64 block', .int .i64 at', .int .i64 size'])) (fun _ _ _ _ h => h) rfl (by cases ca23 <;> rfl) hS ?_ ?_
              (focus (intro hb; intro W hS; (try simp only [Bool.and_eq_true, Bool.not_eq_true'] at hb); have hb0 := hb; (try simp only [hb0, Bool.not_false, Bool.not_true, Bool.and_true, Bool.true_and, Bool.and_self, cond_true, cond_false]); exact R_loadmid (ty := 39) (x := .tmp 56) rfl rfl (hS.ext.keep hbb (fun e => e)) Tryz.underlying39 rfl info39 _ rfl hck6)); all_goals skip; (try simp only [List.set_cons_succ, List.set_cons_zero, List.getElem_toArray, List.getElem_cons_succ, List.getElem_cons_zero])
              refine D_callB 33 (!ca23) cm rfl (by kernel_rfl) rfl (by cases ca23 <;> rfl) hS ?_ ?_
              (focus (intro hb K hK; (try simp only [Bool.and_eq_true, Bool.not_eq_true'] at hb); have hb0 := hb; subst hb0; refine R_call (f := 34) (args := #[.agg #[.string p, .int .i64 mode, .int .i64 time, .int .i64 block, .int .i64 at_, .int .i64 size], .agg #[.string p', .int .i64 mode', .int .i64 time', .int .i64 block', .int .i64 at', .int .i64 size']]) (by first | (go_simp; done) | (go_simp; rfl)) hcm2 ?_; rintro e w' ⟨rfl, hE⟩; exact ⟨_, rfl, hK _ hE⟩))
              clear hS; intro ca33 w Hca33 hS
              (try simp only [List.set_cons_succ, List.set_cons_zero])
              refine D_takeB 34 rfl (by kernel_rfl) (by kernel_rfl) (by kernel_rfl) (q := (ca23 || ca33)) (fun _ _ _ h => h) rfl (by rfl) hS ?_ ?_
              (focus (intro W hS; cases ca23 <;> cases ca33 <;> (first | (go_simp; done) | (go_simp; with_reducible rfl) | (go_simp; rfl)))); all_goals skip; (try simp only [List.set_cons_succ, List.set_cons_zero])
              intro ca34 Hca34
              have hrow := Hca34.out
              simp only [Hca23.out, Hca10.out, Hca22.out, Hca33.out] at hrow
              replace hrow := Lib.hid hrow
              clear Hca23 Hca34 Hca10 Hca22 Hca33
              refine wpAnyH_done (by kernel_rfl) ?_ _
              have hq : ca34 = !pairOk ⟨p', mode', time', block', at', size'⟩ ⟨p, mode, time, block, at_, size⟩ := by
                rw [hrow.out]
                simp only [pairOk, HUN.out, HCM.out]
                generalize Op.bytesLess p'.toList p.toList = bl
                cases bl <;> cases un <;> cases cm <;> rfl
              generalize hpq : pairOk ⟨p', mode', time', block', at', size'⟩ ⟨p, mode, time, block, at_, size⟩ = pq at hq
              subst hq
              have HPQ := Lib.hid hpq
              clear hpq hrow
              cases pq
              · go_wp2_with fail
                go_ret
                refine ⟨catGoodE_mk ⟨fun h => (Bool.false_ne_true h).elim, fun h => ?_⟩, hS.ext⟩
                have := (h.2 i hin _ (by rw [List.getElem?_eq_getElem hin, hx])).2 k hki _ (by rw [List.getElem?_eq_getElem hkn, hy])
                rw [HPQ.out] at this
                cases this
              · go_wp2_with fail
                refine ⟨⟨k + 1, by go_num, by omega, hS.ext, Lib.hid ?_⟩, by show i - ((k : Int) + 1).toNat < i - (k : Int).toNat; omega⟩
                intro j hj z hz
                by_cases hjk : j < k
                · exact HK.out j hjk z hz
                · obtain rfl : j = k := by omega
                  rw [List.getElem?_eq_getElem hkn, hy] at hz
                  cases hz
                  exact HPQ.out
            · have hkii : ¬ (k : Int) < (i : Int) := by omega
              obtain rfl : k = i := by omega
              go_wp2_with fail
              refine ⟨⟨k + 1, by go_num, by omega, hE3, Lib.hid ?_⟩, by show xs.length - ((k : Int) + 1).toNat < xs.length - (k : Int).toNat; omega⟩
              intro j hj
              by_cases hjk : j < k
              · exact HA.out j hjk
              · obtain rfl : j = k := by omega
                intro z hz
                rw [List.getElem?_eq_getElem hin, hx] at hz
                cases hz
                exact ⟨HGA.out, fun m hm y hy => HK.out m hm y hy⟩
      · have hii : ¬ (i : Int) < (xs.length : Int) := by omega
        go_wp2_with fail
        go_ret
        exact ⟨catGoodE_mk ⟨fun _ => ⟨by omega, fun j hj => HA.out j (by omega)⟩, fun _ => rfl⟩, hE⟩
end Go.Proofs.YtmfcccflohpjiaaGreatDoor
