/- Catalogues: Good. -/
import Derived.Test.YtmfcccflohpjiaaGreatDoorCatI
namespace Go.Proofs.YtmfcccflohpjiaaGreatDoor
set_option linter.unusedVariables false
set_option linter.unusedSimpArgs false
open Go.RowKit

theorem L_loadC {P : Program} {ops : Array Oper} {Q : Exit → Act → World → Prop} {a : Act} {w : World} {rest : List Oper} {o : Oper} (hgd : o.guard = none) {ty : TypeId} {x : Operand} (ho : o.op = .load ty x) {q : Addr} {v : Value} (hx : a.eval x = .pointer (some q)) (hc : w.cell? q = some v) (hag : ∀ w, (isAgg ty).run P w = .ok false w)
    (k : wpList P ops Q rest (a.put o.dst v) w) : wpList P ops Q (o :: rest) a w := by
  refine wpList_plain hgd fun K hK => ?_
  have hr : (execOp a.eval o).run P w = .ok (.value v) w := by
    unfold execOp
    simp only [ho, hx, Instr.loadAt, Instr.sureAddr, loadVar, Sem.run_bind, Sem.run_pure, Result.andThen_ok, hag]
    simp [hc]
  unfold Oper.wp
  rw [hr]
  exact hK _ _ k
def undP (x y : Ent) : Bool := Pth.underL (Pth.lst x.path) (Pth.lst y.path)
theorem good_closure (x : Ent) (xs : List Ent) (B : Nat) (w : World) (hB : w.cell? ⟨B, 0, none⟩ = some (.string x.path)) (hx : x.path.size < 4294967281) (hp : PathOk xs) (hm : Pth.ML w) : FnGivesE 29 #[.pointer (some ⟨B, 0, none⟩)] (undP x) xs w := fun W y hy hE => by
  have hc := hE.cell hB (fun e => e)
  have hu := fun {W' : World} (e : Ext0 W W') => Pth.under_any x.path y.path W' hx (hp y hy).1 (hm.ext (hE.trans0 e))
  have HQ : Hid (Pth.underL (Pth.lst x.path) (Pth.lst y.path) = undP x y) := Lib.hid rfl
  obtain ⟨q, hq⟩ : ∃ q, undP x y = q := ⟨_, rfl⟩
  rw [HQ.out, hq] at hu
  rw [hq]
  clear hq HQ hp hB
  obtain ⟨px, _, _, _, _, _⟩ := x
  obtain ⟨p, mode, time, block, at_, size⟩ := y
  simp only [entV] at *
  have H : SH (fun _ => False) W W [] := SH.nil _ _
  show Calls Tryz.prog 29 #[.agg #[.string p, .int .i64 mode, .int .i64 time, .int .i64 block, .int .i64 at_, .int .i64 size], .pointer (some ⟨B, 0, none⟩)] W _
  go_enter Tryz.func29, Tryz.ntmps29
  go_wp2_with (first
    | (refine L_load1 rfl rfl H 0 rfl rfl rfl Tryz.isAgg9 ?_; (try simp only [Act.put, List.setIfInBounds_toArray, List.set_cons_succ, List.set_cons_zero, List.getElem_toArray, List.getElem_cons_succ, List.getElem_cons_zero])) | (refine L_box rfl rfl H rfl rfl ?_; clear H; intro g w H; (try simp only [Act.eval, Array.getD_eq_getD_getElem?, List.getElem?_toArray, List.getElem?_cons_succ, List.getElem?_cons_zero, Option.getD_some, Value.cells] at H); (try simp only [Act.put, List.setIfInBounds_toArray, List.set_cons_succ, List.set_cons_zero, List.getElem_toArray, List.getElem_cons_succ, List.getElem_cons_zero]))
    | (refine L_loadC rfl rfl rfl (H.ext.cell hc (fun e => e)) Tryz.isAgg9 ?_; (try simp only [Act.put, List.setIfInBounds_toArray, List.set_cons_succ, List.set_cons_zero, List.getElem_toArray, List.getElem_cons_succ, List.getElem_cons_zero]))
    | (go_at_call 30; refine (hu H.ext).mono ?_; rintro e w' ⟨rfl, hE2⟩; replace H := H.calls hE2))
  go_ret
  exact ⟨rfl, H.ext⟩
theorem or3_f {a b c d : Bool} (h : false = (!a || b && c || d)) : a = true ∧ (b && c) = false ∧ d = false := by
  revert h
  cases a <;> cases b <;> cases c <;> cases d <;> decide
theorem bl_of {b : Bool} (h : (true && !b) = false) : b = true := by
  revert h
  cases b <;> decide
theorem or3_t {a b c d : Bool} (h : true = (!a || b && c || d)) (h1 : a = true) (h2 : (b && c) = false) (h3 : d = false) : False := by
  rw [h1, h2, h3] at h
  cases h
def okC (xs : List Ent) (i : Nat) : Prop := ∀ x, xs[i]? = some x → aloneP x = true ∧ (∀ j y, i = j + 1 → xs[j]? = some y → Op.bytesLess y.path.toList x.path.toList = true) ∧ xs.any (undP x) = false
def CatGood1 (xs : List Ent) : Prop := xs.length ≤ 12 ∧ (∀ i, i < xs.length → okC xs i) ∧ ApartP xs
def CatGood1E (xs : List Ent) (e : Ending) : Prop := ∃ q : Bool, e = .returned (.bool q) ∧ Hid (q = true ↔ CatGood1 xs)
theorem catGood1E_mk {xs : List Ent} {q : Bool} (h : q = true ↔ CatGood1 xs) : CatGood1E xs (.returned (.bool q)) := ⟨q, rfl, Lib.hid h⟩
def RgC (xs : List Ent) (w0 : World) (vi : Value) (wr : World) : Prop := ∃ i : Nat, vi = .int .i64 (i : Int) ∧ i ≤ xs.length ∧ Ext0 w0 wr ∧ Hid (∀ j, j < i → okC xs j)
theorem alone_small {x : Ent} (h : aloneP x = true) : (0 ≤ x.at_ ∧ x.at_ ≤ 1024) ∧ x.size ≤ 1024 := by
  unfold aloneP at h
  simp only [Bool.and_eq_true, decide_eq_true_eq] at h
  omega
set_option maxRecDepth 100000 in
set_option maxHeartbeats 8000000 in
theorem catGood_any (v : Value) (xs : List Ent) (w0 : World) (hr : RdS eCells 6 w0 v xs) (hn : xs.length ≤ 100000) (hp : PathOk xs) (hm : Pth.ML w0) : Calls Tryz.prog 11 #[v] w0 fun e w' => CatGood1E xs e ∧ Ext0 w0 w' := by
  obtain ⟨A, cap, rfl, hcap⟩ := hr.len
  have H : SH (fun _ => False) w0 w0 [] := SH.nil _ _
  have HR := Lib.hid hr
  have HP := Lib.hid hp
  have HM := Lib.hid hm
  clear hr hp hm
  by_cases h12 : 12 < xs.length
  · have h12i : (12 : Int) < (xs.length : Int) := by omega
    go_enter Tryz.func11, Tryz.ntmps11
    go_wp2_with fail
    go_ret
    exact ⟨catGood1E_mk ⟨fun h => (Bool.false_ne_true h).elim, fun h => absurd h.1 (by omega)⟩, Ext.refl _ _⟩
  · have h12i : ¬ (12 : Int) < (xs.length : Int) := by omega
    have eg : ∀ args w, (callFunc 29 args).run Tryz.prog w = .ok (.enter 29 args) w := enters_of Tryz.func29 (by kernel_rfl) rfl
    go_enter Tryz.func11, Tryz.ntmps11
    go_wp2_with fail
    go_loopw [10] (fun vi wr => RgC xs w0 vi wr) (fun vi _ => xs.length - (intOf vi).toNat)
    case atStart => exact ⟨0, rfl, Nat.zero_le _, Ext.refl _ _, Lib.hid (fun _ h => absurd h (by omega))⟩
    case round =>
      clear H
      obtain ⟨i, rfl, hi, hE, HA⟩ := hrel
      by_cases hin : i < xs.length
      · have hii : (i : Int) < (xs.length : Int) := by omega
        obtain ⟨x, hx⟩ : ∃ x, xs[i] = x := ⟨_, rfl⟩
        have hrd : RdS eCells 6 w0 (.slice A xs.length cap) xs := HR.out
        obtain ⟨bb, off, cs, T, fr, rfl, hbb, hcs⟩ := ent_cells HR.out hin hx
        have hxi := HP.out x (by rw [← hx]; exact List.getElem_mem _)
        have hci := hcs i hin
        rw [hx] at hci
        have hal := fun {W : World} (e : Ext0 w0 W) => alone_any x W hxi.1 (HM.out.ext e) hxi.2
        have hcl := fun {W : World} {B : Nat} (e : Ext0 w0 W) (hB : W.cell? ⟨B, 0, none⟩ = some (.string x.path)) => containsFuncE_any 29 #[.pointer (some ⟨B, 0, none⟩)] (undP x) eg _ xs W (hrd.keep e) (by omega) (good_closure x xs B W hB hxi.1 HP.out (HM.out.ext e))
        have hxq : xs[i]? = some x := by rw [List.getElem?_eq_getElem hin, hx]
        have HX := Lib.hid hxq
        obtain ⟨ga, hga⟩ : ∃ q, aloneP x = q := ⟨_, rfl⟩
        obtain ⟨an, han⟩ : ∃ q, xs.any (undP x) = q := ⟨_, rfl⟩
        rw [hga] at hal
        rw [han] at hcl
        have HGA := Lib.hid hga
        have HAN := Lib.hid han
        clear hga han hxq hrd
        obtain ⟨p, mode, time, block, at_, size⟩ := x
        have hci6 : ∀ j, j < 6 → cs[off + i * 6 + j]? = [Value.string p, .int .i64 mode, .int .i64 time, .int .i64 block, .int .i64 at_, .int .i64 size][j]? := fun j hj => hci j hj
        simp only [entV] at hal hcl
        clear hci hx
        have H : SH (fun _ => False) w0 wr [] := ⟨hE, by simp, by simp, by simp, .nil⟩
        rcases i with _ | i
        · go_upto_region 6 with (first
          | (refine L_loadmidr rfl rfl H rfl hbb (fun e => e) Tryz.underlying39 rfl info39 [Value.string p, .int .i64 mode, .int .i64 time, .int .i64 block, .int .i64 at_, .int .i64 size] rfl hci6 ?_; (try simp only [Act.put, List.setIfInBounds_toArray, List.set_cons_succ, List.set_cons_zero, List.getElem_toArray, List.getElem_cons_succ, List.getElem_cons_zero]))
          | (refine L_alloc rfl rfl H Tryz.zeroValue39 ?_; clear H; intro g4 w H; simp only [Value.cells] at H; (try simp only [Act.put, List.setIfInBounds_toArray, List.set_cons_succ, List.set_cons_zero, List.getElem_toArray, List.getElem_cons_succ, List.getElem_cons_zero]))
          | (refine L_storerow rfl rfl H 0 rfl rfl rfl info39 rfl rfl (oneE _ _ _ _ _ _) ?_; clear H; intro w H; simp only [List.set_cons_zero] at H; (try simp only [Act.put, List.setIfInBounds_toArray, List.set_cons_succ, List.set_cons_zero, List.getElem_toArray, List.getElem_cons_succ, List.getElem_cons_zero])))
          refine D_start H (by kernel_rfl) (fun hS => ?_)
          try simp only [Act.put, List.setIfInBounds_toArray, List.set_cons_succ, List.set_cons_zero]
          refine D_take 0 rfl (by kernel_rfl) (by kernel_rfl) (by kernel_rfl) (v := (.agg #[.string p, .int .i64 mode, .int .i64 time, .int .i64 block, .int .i64 at_, .int .i64 size])) (fun _ _ _ h => h) rfl (by rfl) ?_ hS ?_
          (focus (intro W hS; exact R_loadrow (ty := 39) (x := .tmp 4) rfl hS 0 rfl rfl Tryz.underlying39 rfl info39 rfl)); all_goals skip; (try simp only [List.set_cons_succ, List.set_cons_zero, List.getElem_toArray, List.getElem_cons_succ, List.getElem_cons_zero])
          refine D_callB 1 true ga rfl (by kernel_rfl) rfl (by rfl) hS ?_ ?_
          (focus (intro hb K hK; refine R_call (f := 27) (args := #[.agg #[.string p, .int .i64 mode, .int .i64 time, .int .i64 block, .int .i64 at_, .int .i64 size]]) (by first | (go_simp; done) | (go_simp; rfl)) (hal hS.ext) ?_; rintro e w' ⟨rfl, hE⟩; exact ⟨_, rfl, hK _ hE⟩))
          clear hS; intro ca1 w Hca1 hS
          (try simp only [List.set_cons_succ, List.set_cons_zero])
          refine D_takeB 2 rfl (by kernel_rfl) (by kernel_rfl) (by kernel_rfl) (q := (!ca1)) (fun _ _ _ h => h) rfl (by rfl) hS ?_ ?_
          (focus (intro W hS; cases ca1 <;> (first | (go_simp; done) | (go_simp; with_reducible rfl) | (go_simp; rfl)))); all_goals skip; (try simp only [List.set_cons_succ, List.set_cons_zero])
          intro ca2 Hca2
          refine D_take 3 rfl (by kernel_rfl) (by kernel_rfl) (by kernel_rfl) (v := ?_) (fun _ _ _ h => h) rfl (by rfl) ?_ hS ?_
          rotate_left; (focus (intro W hS; first | (go_simp; done) | (go_simp; with_reducible rfl) | (go_simp; rfl))); all_goals skip; (try simp only [List.set_cons_succ, List.set_cons_zero])
          refine D_maybe 4 (!ca2) rfl (by kernel_rfl) (by kernel_rfl) (by kernel_rfl) (v := ?_) (fun _ _ _ _ h => h) rfl (by cases ca2 <;> rfl) hS ?_ ?_
          rotate_left; (focus (intro hb; intro W hS; (try simp only [Bool.and_eq_true, Bool.not_eq_true'] at hb); have hb0 := hb; (try simp only [hb0, Bool.not_false, Bool.not_true, Bool.and_true, Bool.true_and, Bool.and_self, cond_true, cond_false]); first | (go_simp; done) | (go_simp; with_reducible rfl) | (go_simp; rfl))); all_goals skip; (try simp only [List.set_cons_succ, List.set_cons_zero])
          refine D_maybeB 5 (!ca2) rfl (by kernel_rfl) (by kernel_rfl) (by kernel_rfl) (q := ?_) (fun _ _ _ _ h => h) rfl (by cases ca2 <;> rfl) hS ?_ ?_
          rotate_left; (focus (intro hb; intro W hS; (try simp only [Bool.and_eq_true, Bool.not_eq_true'] at hb); have hb0 := hb; (try simp only [hb0, Bool.not_false, Bool.not_true, Bool.and_true, Bool.true_and, Bool.and_self, cond_true, cond_false]); first | (go_simp; done) | (go_simp; with_reducible rfl) | (go_simp; rfl))); all_goals skip; (try simp only [List.set_cons_succ, List.set_cons_zero])
          intro ca5 Hca5
          refine D_maybe 6 (!ca2) rfl (by kernel_rfl) (by kernel_rfl) (by kernel_rfl) (v := ?_) (fun _ _ _ _ h => h) rfl (by cases ca2 <;> rfl) hS ?_ ?_
          rotate_left; (focus (intro hb; intro W hS; (try simp only [Bool.and_eq_true, Bool.not_eq_true'] at hb); have hb0 := hb; (try simp only [hb0, Bool.not_false, Bool.not_true, Bool.and_true, Bool.true_and, Bool.and_self, cond_true, cond_false]); first | (go_simp; done) | (go_simp; with_reducible rfl) | (go_simp; rfl))); all_goals skip; (try simp only [List.set_cons_succ, List.set_cons_zero])
          refine D_maybe 7 ((!ca2) && ca5) rfl (by kernel_rfl) (by kernel_rfl) (by kernel_rfl) (v := undef) (fun _ _ _ _ h => h) rfl (by cases ca2 <;> cases ca5 <;> rfl) hS ?_ ?_
          (focus (intro hb; intro W hS; (try simp only [Bool.and_eq_true, Bool.not_eq_true'] at hb); obtain ⟨hb0, hb1⟩ := hb; (try simp only [hb0, hb1, Bool.not_false, Bool.not_true, Bool.and_true, Bool.true_and, Bool.and_self, cond_true, cond_false]); exfalso; exact absurd (hb1.symm.trans Hca5.out) (by decide))); all_goals skip; (try simp only [List.set_cons_succ, List.set_cons_zero])
          refine D_maybe 8 ((!ca2) && ca5) rfl (by kernel_rfl) (by kernel_rfl) (by kernel_rfl) (v := undef) (fun _ _ _ _ h => h) rfl (by cases ca2 <;> cases ca5 <;> rfl) hS ?_ ?_
          (focus (intro hb; intro W hS; (try simp only [Bool.and_eq_true, Bool.not_eq_true'] at hb); obtain ⟨hb0, hb1⟩ := hb; (try simp only [hb0, hb1, Bool.not_false, Bool.not_true, Bool.and_true, Bool.true_and, Bool.and_self, cond_true, cond_false]); exfalso; exact absurd (hb1.symm.trans Hca5.out) (by decide))); all_goals skip; (try simp only [List.set_cons_succ, List.set_cons_zero])
          refine D_maybe 9 ((!ca2) && ca5) rfl (by kernel_rfl) (by kernel_rfl) (by kernel_rfl) (v := undef) (fun _ _ _ _ h => h) rfl (by cases ca2 <;> cases ca5 <;> rfl) hS ?_ ?_
          (focus (intro hb; intro W hS; (try simp only [Bool.and_eq_true, Bool.not_eq_true'] at hb); obtain ⟨hb0, hb1⟩ := hb; (try simp only [hb0, hb1, Bool.not_false, Bool.not_true, Bool.and_true, Bool.true_and, Bool.and_self, cond_true, cond_false]); exfalso; exact absurd (hb1.symm.trans Hca5.out) (by decide))); all_goals skip; (try simp only [List.set_cons_succ, List.set_cons_zero])
          refine D_maybe 10 ((!ca2) && ca5) rfl (by kernel_rfl) (by kernel_rfl) (by kernel_rfl) (v := undef) (fun _ _ _ _ h => h) rfl (by cases ca2 <;> cases ca5 <;> rfl) hS ?_ ?_
          (focus (intro hb; intro W hS; (try simp only [Bool.and_eq_true, Bool.not_eq_true'] at hb); obtain ⟨hb0, hb1⟩ := hb; (try simp only [hb0, hb1, Bool.not_false, Bool.not_true, Bool.and_true, Bool.true_and, Bool.and_self, cond_true, cond_false]); exfalso; exact absurd (hb1.symm.trans Hca5.out) (by decide))); all_goals skip; (try simp only [List.set_cons_succ, List.set_cons_zero])
          refine D_maybe 11 ((!ca2) && ca5) rfl (by kernel_rfl) (by kernel_rfl) (by kernel_rfl) (v := undef) (fun _ _ _ _ h => h) rfl (by cases ca2 <;> cases ca5 <;> rfl) hS ?_ ?_
          (focus (intro hb; intro W hS; (try simp only [Bool.and_eq_true, Bool.not_eq_true'] at hb); obtain ⟨hb0, hb1⟩ := hb; (try simp only [hb0, hb1, Bool.not_false, Bool.not_true, Bool.and_true, Bool.true_and, Bool.and_self, cond_true, cond_false]); exfalso; exact absurd (hb1.symm.trans Hca5.out) (by decide))); all_goals skip; (try simp only [List.set_cons_succ, List.set_cons_zero])
          refine D_maybe 12 ((!ca2) && ca5) rfl (by kernel_rfl) (by kernel_rfl) (by kernel_rfl) (v := undef) (fun _ _ _ _ h => h) rfl (by cases ca2 <;> cases ca5 <;> rfl) hS ?_ ?_
          (focus (intro hb; intro W hS; (try simp only [Bool.and_eq_true, Bool.not_eq_true'] at hb); obtain ⟨hb0, hb1⟩ := hb; (try simp only [hb0, hb1, Bool.not_false, Bool.not_true, Bool.and_true, Bool.true_and, Bool.and_self, cond_true, cond_false]); exfalso; exact absurd (hb1.symm.trans Hca5.out) (by decide))); all_goals skip; (try simp only [List.set_cons_succ, List.set_cons_zero, List.getElem_toArray, List.getElem_cons_succ, List.getElem_cons_zero])
          refine D_maybe 13 ((!ca2) && ca5) rfl (by kernel_rfl) (by kernel_rfl) (by kernel_rfl) (v := undef) (fun _ _ _ _ h => h) rfl (by cases ca2 <;> cases ca5 <;> rfl) hS ?_ ?_
          (focus (intro hb; intro W hS; (try simp only [Bool.and_eq_true, Bool.not_eq_true'] at hb); obtain ⟨hb0, hb1⟩ := hb; (try simp only [hb0, hb1, Bool.not_false, Bool.not_true, Bool.and_true, Bool.true_and, Bool.and_self, cond_true, cond_false]); exfalso; exact absurd (hb1.symm.trans Hca5.out) (by decide))); all_goals skip; (try simp only [List.set_cons_succ, List.set_cons_zero])
          refine D_maybe 14 ((!ca2) && ca5) rfl (by kernel_rfl) (by kernel_rfl) (by kernel_rfl) (v := undef) (fun _ _ _ _ h => h) rfl (by cases ca2 <;> cases ca5 <;> rfl) hS ?_ ?_
          (focus (intro hb; intro W hS; (try simp only [Bool.and_eq_true, Bool.not_eq_true'] at hb); obtain ⟨hb0, hb1⟩ := hb; (try simp only [hb0, hb1, Bool.not_false, Bool.not_true, Bool.and_true, Bool.true_and, Bool.and_self, cond_true, cond_false]); exfalso; exact absurd (hb1.symm.trans Hca5.out) (by decide))); all_goals skip; (try simp only [List.set_cons_succ, List.set_cons_zero, List.getElem_toArray, List.getElem_cons_succ, List.getElem_cons_zero])
          refine D_maybeB 15 ((!ca2) && ca5) rfl (by kernel_rfl) (by kernel_rfl) (by kernel_rfl) (q := false) (fun _ _ _ _ h => h) rfl (by cases ca2 <;> cases ca5 <;> rfl) hS ?_ ?_
          (focus (intro hb; intro W hS; (try simp only [Bool.and_eq_true, Bool.not_eq_true'] at hb); obtain ⟨hb0, hb1⟩ := hb; (try simp only [hb0, hb1, Bool.not_false, Bool.not_true, Bool.and_true, Bool.true_and, Bool.and_self, cond_true, cond_false]); exfalso; exact absurd (hb1.symm.trans Hca5.out) (by decide))); all_goals skip; (try simp only [List.set_cons_succ, List.set_cons_zero])
          intro ca15 Hca15
          refine D_maybeB 16 (!ca2) rfl (by kernel_rfl) (by kernel_rfl) (by kernel_rfl) (q := (ca5 && ca15)) (fun _ _ _ _ h => h) rfl (by cases ca2 <;> rfl) hS ?_ ?_
          (focus (intro hb; intro W hS; cases ca15 <;> cases ca2 <;> cases ca5 <;> first | (exact absurd hb (by decide)) | (first | (go_simp; done) | (go_simp; with_reducible rfl) | (go_simp; rfl)))); all_goals skip; (try simp only [List.set_cons_succ, List.set_cons_zero])
          intro ca16 Hca16
          refine D_takeB 17 rfl (by kernel_rfl) (by kernel_rfl) (by kernel_rfl) (q := (ca2 || ca16)) (fun _ _ _ h => h) rfl (by rfl) hS ?_ ?_
          (focus (intro W hS; cases ca16 <;> cases ca2 <;> (first | (go_simp; done) | (go_simp; with_reducible rfl) | (go_simp; rfl)))); all_goals skip; (try simp only [List.set_cons_succ, List.set_cons_zero])
          intro ca17 Hca17
          refine D_take 18 rfl (by kernel_rfl) (by kernel_rfl) (by kernel_rfl) (v := ?_) (fun _ _ _ h => h) rfl (by rfl) ?_ hS ?_
          rotate_left; (focus (intro W hS; first | (go_simp; done) | (go_simp; with_reducible rfl) | (go_simp; rfl))); all_goals skip; (try simp only [List.set_cons_succ, List.set_cons_zero])
          refine D_maybe 19 (!ca17) rfl (by kernel_rfl) (by kernel_rfl) (by kernel_rfl) (v := ?_) (fun _ _ _ _ h => h) rfl (by cases ca17 <;> rfl) hS ?_ ?_
          rotate_left; (focus (intro hb; intro W hS; (try simp only [Bool.and_eq_true, Bool.not_eq_true'] at hb); have hb0 := hb; (try simp only [hb0, Bool.not_false, Bool.not_true, Bool.and_true, Bool.true_and, Bool.and_self, cond_true, cond_false]); first | (go_simp; done) | (go_simp; with_reducible rfl) | (go_simp; rfl))); all_goals skip; (try simp only [List.set_cons_succ, List.set_cons_zero])
          refine D_maybe 20 (!ca17) rfl (by kernel_rfl) (by kernel_rfl) (by kernel_rfl) (v := (.func (.func 29) #[] #[.pointer (some ⟨g4, 0, none⟩)])) (fun _ _ _ _ h => h) rfl (by cases ca17 <;> rfl) hS ?_ ?_
          (focus (intro hb; intro W hS; (try simp only [Bool.and_eq_true, Bool.not_eq_true'] at hb); have hb0 := hb; (try simp only [hb0, Bool.not_false, Bool.not_true, Bool.and_true, Bool.true_and, Bool.and_self, cond_true, cond_false]); first | (go_simp; done) | (go_simp; rfl))); all_goals skip; (try simp only [List.set_cons_succ, List.set_cons_zero])
          refine D_callB 21 (!ca17) an rfl (by kernel_rfl) rfl (by cases ca17 <;> rfl) hS ?_ ?_
          (focus (intro hb K hK; (try simp only [Bool.and_eq_true, Bool.not_eq_true'] at hb); have hb0 := hb; subst hb0; refine R_call (f := 28) (args := #[.slice (some ⟨bb, off, none⟩) xs.length cap, .func (.func 29) #[] #[.pointer (some ⟨g4, 0, none⟩)]]) (by first | (go_simp; done) | (go_simp; rfl)) (hcl hS.ext (cell_of_row _ g4 0 _ _ _ (hS.at_ 0 rfl))) ?_; rintro e w' ⟨rfl, hE⟩; exact ⟨_, rfl, hK _ hE⟩))
          clear hS; intro ca21 w Hca21 hS
          (try simp only [List.set_cons_succ, List.set_cons_zero])
          refine D_takeB 22 rfl (by kernel_rfl) (by kernel_rfl) (by kernel_rfl) (q := (ca17 || ca21)) (fun _ _ _ h => h) rfl (by rfl) hS ?_ ?_
          (focus (intro W hS; cases ca17 <;> cases ca21 <;> (first | (go_simp; done) | (go_simp; with_reducible rfl) | (go_simp; rfl)))); all_goals skip; (try simp only [List.set_cons_succ, List.set_cons_zero])
          intro ca22 Hca22
          have hrow := Hca22.out
          simp only [Hca2.out, Hca16.out, Hca17.out, Hca1.out, Hca5.out, Hca15.out, Hca21.out] at hrow
          replace hrow := Lib.hid hrow
          clear Hca2 Hca16 Hca17 Hca22 Hca1 Hca5 Hca15 Hca21
          refine wpAnyH_done (by kernel_rfl) ?_ _
          have H5 : SH (fun _ => False) w0 w _ := hS
          clear hS
          cases hq : ca22
          · rw [hq] at hrow
            have HQ2 := Lib.hid hrow.out
            clear hrow
            go_wp2_with fail
            exact ⟨⟨0 + 1, by go_num, by omega, H5.ext, Lib.hid (fun j hj => by
              by_cases hjk : j < 0
              · exact HA.out j hjk
              · obtain rfl : j = 0 := by omega
                intro z hz
                rw [HX.out] at hz
                cases hz
                exact ⟨HGA.out.trans (or3_f HQ2.out).1, fun k _ e => absurd e (by omega), HAN.out.trans (or3_f HQ2.out).2.2⟩)⟩, by show xs.length - (((0 : Nat) : Int) + 1).toNat < xs.length - ((0 : Nat) : Int).toNat; omega⟩
          · rw [hq] at hrow
            have HQ2 := Lib.hid hrow.out
            clear hrow
            go_wp2_with fail
            go_ret
            refine ⟨catGood1E_mk ⟨fun h => (Bool.false_ne_true h).elim, fun h => ?_⟩, H5.ext⟩
            have := h.2.1 _ hin _ HX.out
            exact (or3_t HQ2.out (HGA.out.symm.trans this.1) rfl (HAN.out.symm.trans this.2.2)).elim
        · have hkn : i < xs.length := by omega
          have hwi : IntKind.i64.wrap (i : Int) = (i : Int) := by rw [IntKind.wrap_i64]; omega
          have hknl : (i : Int) < (xs.length : Int) := by omega
          obtain ⟨y, hy⟩ : ∃ y, xs[i] = y := ⟨_, rfl⟩
          have hck := hcs i hkn
          rw [hy] at hck
          have HY : Hid (xs[i]? = some y) := Lib.hid (by rw [List.getElem?_eq_getElem hkn, hy])
          obtain ⟨p', mode', time', block', at', size'⟩ := y
          have hpk : cs[off + i * 6]? = some (.string p') := hck 0 (by omega)
          clear hy hck
          go_upto_region 6 with (first
          | (refine L_loadmidr rfl rfl H rfl hbb (fun e => e) Tryz.underlying39 rfl info39 [Value.string p, .int .i64 mode, .int .i64 time, .int .i64 block, .int .i64 at_, .int .i64 size] rfl hci6 ?_; (try simp only [Act.put, List.setIfInBounds_toArray, List.set_cons_succ, List.set_cons_zero, List.getElem_toArray, List.getElem_cons_succ, List.getElem_cons_zero]))
          | (refine L_alloc rfl rfl H Tryz.zeroValue39 ?_; clear H; intro g4 w H; simp only [Value.cells] at H; (try simp only [Act.put, List.setIfInBounds_toArray, List.set_cons_succ, List.set_cons_zero, List.getElem_toArray, List.getElem_cons_succ, List.getElem_cons_zero]))
          | (refine L_storerow rfl rfl H 0 rfl rfl rfl info39 rfl rfl (oneE _ _ _ _ _ _) ?_; clear H; intro w H; simp only [List.set_cons_zero] at H; (try simp only [Act.put, List.setIfInBounds_toArray, List.set_cons_succ, List.set_cons_zero, List.getElem_toArray, List.getElem_cons_succ, List.getElem_cons_zero])))
          refine D_start H (by kernel_rfl) (fun hS => ?_)
          try simp only [Act.put, List.setIfInBounds_toArray, List.set_cons_succ, List.set_cons_zero]
          refine D_take 0 rfl (by kernel_rfl) (by kernel_rfl) (by kernel_rfl) (v := (.agg #[.string p, .int .i64 mode, .int .i64 time, .int .i64 block, .int .i64 at_, .int .i64 size])) (fun _ _ _ h => h) rfl (by rfl) ?_ hS ?_
          (focus (intro W hS; exact R_loadrow (ty := 39) (x := .tmp 4) rfl hS 0 rfl rfl Tryz.underlying39 rfl info39 rfl)); all_goals skip; (try simp only [List.set_cons_succ, List.set_cons_zero, List.getElem_toArray, List.getElem_cons_succ, List.getElem_cons_zero])
          refine D_callB 1 true ga rfl (by kernel_rfl) rfl (by rfl) hS ?_ ?_
          (focus (intro hb K hK; refine R_call (f := 27) (args := #[.agg #[.string p, .int .i64 mode, .int .i64 time, .int .i64 block, .int .i64 at_, .int .i64 size]]) (by first | (go_simp; done) | (go_simp; rfl)) (hal hS.ext) ?_; rintro e w' ⟨rfl, hE⟩; exact ⟨_, rfl, hK _ hE⟩))
          clear hS; intro ca1 w Hca1 hS
          (try simp only [List.set_cons_succ, List.set_cons_zero])
          refine D_takeB 2 rfl (by kernel_rfl) (by kernel_rfl) (by kernel_rfl) (q := (!ca1)) (fun _ _ _ h => h) rfl (by rfl) hS ?_ ?_
          (focus (intro W hS; cases ca1 <;> (first | (go_simp; done) | (go_simp; with_reducible rfl) | (go_simp; rfl)))); all_goals skip; (try simp only [List.set_cons_succ, List.set_cons_zero])
          intro ca2 Hca2
          refine D_take 3 rfl (by kernel_rfl) (by kernel_rfl) (by kernel_rfl) (v := ?_) (fun _ _ _ h => h) rfl (by rfl) ?_ hS ?_
          rotate_left; (focus (intro W hS; first | (go_simp; done) | (go_simp; with_reducible rfl) | (go_simp; rfl))); all_goals skip; (try simp only [List.set_cons_succ, List.set_cons_zero])
          refine D_maybe 4 (!ca2) rfl (by kernel_rfl) (by kernel_rfl) (by kernel_rfl) (v := ?_) (fun _ _ _ _ h => h) rfl (by cases ca2 <;> rfl) hS ?_ ?_
          rotate_left; (focus (intro hb; intro W hS; (try simp only [Bool.and_eq_true, Bool.not_eq_true'] at hb); have hb0 := hb; (try simp only [hb0, Bool.not_false, Bool.not_true, Bool.and_true, Bool.true_and, Bool.and_self, cond_true, cond_false]); first | (go_simp; done) | (go_simp; with_reducible rfl) | (go_simp; rfl))); all_goals skip; (try simp only [List.set_cons_succ, List.set_cons_zero])
          refine D_maybeB 5 (!ca2) rfl (by kernel_rfl) (by kernel_rfl) (by kernel_rfl) (q := ?_) (fun _ _ _ _ h => h) rfl (by cases ca2 <;> rfl) hS ?_ ?_
          rotate_left; (focus (intro hb; intro W hS; (try simp only [Bool.and_eq_true, Bool.not_eq_true'] at hb); have hb0 := hb; (try simp only [hb0, Bool.not_false, Bool.not_true, Bool.and_true, Bool.true_and, Bool.and_self, cond_true, cond_false]); first | (go_simp; done) | (go_simp; with_reducible rfl) | (go_simp; rfl))); all_goals skip; (try simp only [List.set_cons_succ, List.set_cons_zero])
          intro ca5 Hca5
          refine D_maybe 6 (!ca2) rfl (by kernel_rfl) (by kernel_rfl) (by kernel_rfl) (v := ?_) (fun _ _ _ _ h => h) rfl (by cases ca2 <;> rfl) hS ?_ ?_
          rotate_left; (focus (intro hb; intro W hS; (try simp only [Bool.and_eq_true, Bool.not_eq_true'] at hb); have hb0 := hb; (try simp only [hb0, Bool.not_false, Bool.not_true, Bool.and_true, Bool.true_and, Bool.and_self, cond_true, cond_false]); first | (go_simp; done) | (go_simp; with_reducible rfl) | (go_simp; rfl))); all_goals skip; (try simp only [List.set_cons_succ, List.set_cons_zero])
          refine D_maybe 7 ((!ca2) && ca5) rfl (by kernel_rfl) (by kernel_rfl) (by kernel_rfl) (v := ?_) (fun _ _ _ _ h => h) rfl (by cases ca2 <;> cases ca5 <;> rfl) hS ?_ ?_
          rotate_left; (focus (intro hb; intro W hS; (try simp only [Bool.and_eq_true, Bool.not_eq_true'] at hb); obtain ⟨hb0, hb1⟩ := hb; (try simp only [hb0, hb1, Bool.not_false, Bool.not_true, Bool.and_true, Bool.true_and, Bool.and_self, cond_true, cond_false]); first | (go_simp; done) | (go_simp; with_reducible rfl) | (go_simp; rfl))); all_goals skip; (try simp only [List.set_cons_succ, List.set_cons_zero])
          refine D_maybe 8 ((!ca2) && ca5) rfl (by kernel_rfl) (by kernel_rfl) (by kernel_rfl) (v := ?_) (fun _ _ _ _ h => h) rfl (by cases ca2 <;> cases ca5 <;> rfl) hS ?_ ?_
          rotate_left; (focus (intro hb; intro W hS; (try simp only [Bool.and_eq_true, Bool.not_eq_true'] at hb); obtain ⟨hb0, hb1⟩ := hb; (try simp only [hb0, hb1, Bool.not_false, Bool.not_true, Bool.and_true, Bool.true_and, Bool.and_self, cond_true, cond_false]); first | (go_simp; done) | (go_simp; with_reducible rfl) | (go_simp; rfl))); all_goals skip; (try simp only [List.set_cons_succ, List.set_cons_zero])
          refine D_maybe 9 ((!ca2) && ca5) rfl (by kernel_rfl) (by kernel_rfl) (by kernel_rfl) (v := (.int .i64 (i : Int))) (fun _ _ _ _ h => h) rfl (by cases ca2 <;> cases ca5 <;> rfl) hS ?_ ?_
          (focus (intro hb; intro W hS; (try simp only [Bool.and_eq_true, Bool.not_eq_true'] at hb); obtain ⟨hb0, hb1⟩ := hb; (try simp only [hb0, hb1, Bool.not_false, Bool.not_true, Bool.and_true, Bool.true_and, Bool.and_self, cond_true, cond_false]); first | (go_simp; done) | (go_simp; rfl))); all_goals skip; (try simp only [List.set_cons_succ, List.set_cons_zero])
          refine D_maybe 10 ((!ca2) && ca5) rfl (by kernel_rfl) (by kernel_rfl) (by kernel_rfl) (v := (.pointer (some ⟨bb, off + i * 6, none⟩))) (fun _ _ _ _ h => h) rfl (by cases ca2 <;> cases ca5 <;> rfl) hS ?_ ?_
          (focus (intro hb; intro W hS; (try simp only [Bool.and_eq_true, Bool.not_eq_true'] at hb); obtain ⟨hb0, hb1⟩ := hb; (try simp only [hb0, hb1, Bool.not_false, Bool.not_true, Bool.and_true, Bool.true_and, Bool.and_self, cond_true, cond_false]); first | (go_simp; done) | (go_simp; rfl))); all_goals skip; (try simp only [List.set_cons_succ, List.set_cons_zero])
          refine D_maybe 11 ((!ca2) && ca5) rfl (by kernel_rfl) (by kernel_rfl) (by kernel_rfl) (v := ?_) (fun _ _ _ _ h => h) rfl (by cases ca2 <;> cases ca5 <;> rfl) hS ?_ ?_
          rotate_left; (focus (intro hb; intro W hS; (try simp only [Bool.and_eq_true, Bool.not_eq_true'] at hb); obtain ⟨hb0, hb1⟩ := hb; (try simp only [hb0, hb1, Bool.not_false, Bool.not_true, Bool.and_true, Bool.true_and, Bool.and_self, cond_true, cond_false]); first | (go_simp; done) | (go_simp; with_reducible rfl) | (go_simp; rfl))); all_goals skip; (try simp only [List.set_cons_succ, List.set_cons_zero])
          refine D_maybe 12 ((!ca2) && ca5) rfl (by kernel_rfl) (by kernel_rfl) (by kernel_rfl) (v := (.string p')) (fun _ _ _ _ h => h) rfl (by cases ca2 <;> cases ca5 <;> rfl) hS ?_ ?_
          (focus (intro hb; intro W hS; (try simp only [Bool.and_eq_true, Bool.not_eq_true'] at hb); obtain ⟨hb0, hb1⟩ := hb; (try simp only [hb0, hb1, Bool.not_false, Bool.not_true, Bool.and_true, Bool.true_and, Bool.and_self, cond_true, cond_false]); exact R_load1r (ty := 9) (x := .tmp 26) (off := off + i * 6) rfl hS rfl hbb (fun e => e) hpk Tryz.isAgg9)); all_goals skip; (try simp only [List.set_cons_succ, List.set_cons_zero, List.getElem_toArray, List.getElem_cons_succ, List.getElem_cons_zero])
          refine D_maybe 13 ((!ca2) && ca5) rfl (by kernel_rfl) (by kernel_rfl) (by kernel_rfl) (v := ?_) (fun _ _ _ _ h => h) rfl (by cases ca2 <;> cases ca5 <;> rfl) hS ?_ ?_
          rotate_left; (focus (intro hb; intro W hS; (try simp only [Bool.and_eq_true, Bool.not_eq_true'] at hb); obtain ⟨hb0, hb1⟩ := hb; (try simp only [hb0, hb1, Bool.not_false, Bool.not_true, Bool.and_true, Bool.true_and, Bool.and_self, cond_true, cond_false]); first | (go_simp; done) | (go_simp; with_reducible rfl) | (go_simp; rfl))); all_goals skip; (try simp only [List.set_cons_succ, List.set_cons_zero])
          refine D_maybe 14 ((!ca2) && ca5) rfl (by kernel_rfl) (by kernel_rfl) (by kernel_rfl) (v := ?_) (fun _ _ _ _ h => h) rfl (by cases ca2 <;> cases ca5 <;> rfl) hS ?_ ?_
          rotate_left; (focus (intro hb; intro W hS; (try simp only [Bool.and_eq_true, Bool.not_eq_true'] at hb); obtain ⟨hb0, hb1⟩ := hb; (try simp only [hb0, hb1, Bool.not_false, Bool.not_true, Bool.and_true, Bool.true_and, Bool.and_self, cond_true, cond_false]); first | (refine R_load1 (ty := 9) (x := Operand.tmp 28) rfl hS 0 rfl rfl ?_ Tryz.isAgg9; rfl))); all_goals skip; (try simp only [List.set_cons_succ, List.set_cons_zero, List.getElem_toArray, List.getElem_cons_succ, List.getElem_cons_zero])
          refine D_maybeB 15 ((!ca2) && ca5) rfl (by kernel_rfl) (by kernel_rfl) (by kernel_rfl) (q := (!Op.bytesLess p'.toList p.toList)) (fun _ _ _ _ h => h) rfl (by cases ca2 <;> cases ca5 <;> rfl) hS ?_ ?_
          (focus (intro hb; intro W hS; (try simp only [Bool.and_eq_true, Bool.not_eq_true'] at hb); obtain ⟨hb0, hb1⟩ := hb; (try simp only [hb0, hb1, Bool.not_false, Bool.not_true, Bool.and_true, Bool.true_and, Bool.and_self, cond_true, cond_false]); first | (go_simp; done) | (go_simp; rfl))); all_goals skip; (try simp only [List.set_cons_succ, List.set_cons_zero])
          intro ca15 Hca15
          refine D_maybeB 16 (!ca2) rfl (by kernel_rfl) (by kernel_rfl) (by kernel_rfl) (q := (ca5 && ca15)) (fun _ _ _ _ h => h) rfl (by cases ca2 <;> rfl) hS ?_ ?_
          (focus (intro hb; intro W hS; cases ca15 <;> cases ca2 <;> cases ca5 <;> first | (exact absurd hb (by decide)) | (first | (go_simp; done) | (go_simp; with_reducible rfl) | (go_simp; rfl)))); all_goals skip; (try simp only [List.set_cons_succ, List.set_cons_zero])
          intro ca16 Hca16
          refine D_takeB 17 rfl (by kernel_rfl) (by kernel_rfl) (by kernel_rfl) (q := (ca2 || ca16)) (fun _ _ _ h => h) rfl (by rfl) hS ?_ ?_
          (focus (intro W hS; cases ca16 <;> cases ca2 <;> (first | (go_simp; done) | (go_simp; with_reducible rfl) | (go_simp; rfl)))); all_goals skip; (try simp only [List.set_cons_succ, List.set_cons_zero])
          intro ca17 Hca17
          refine D_take 18 rfl (by kernel_rfl) (by kernel_rfl) (by kernel_rfl) (v := ?_) (fun _ _ _ h => h) rfl (by rfl) ?_ hS ?_
          rotate_left; (focus (intro W hS; first | (go_simp; done) | (go_simp; with_reducible rfl) | (go_simp; rfl))); all_goals skip; (try simp only [List.set_cons_succ, List.set_cons_zero])
          refine D_maybe 19 (!ca17) rfl (by kernel_rfl) (by kernel_rfl) (by kernel_rfl) (v := ?_) (fun _ _ _ _ h => h) rfl (by cases ca17 <;> rfl) hS ?_ ?_
          rotate_left; (focus (intro hb; intro W hS; (try simp only [Bool.and_eq_true, Bool.not_eq_true'] at hb); have hb0 := hb; (try simp only [hb0, Bool.not_false, Bool.not_true, Bool.and_true, Bool.true_and, Bool.and_self, cond_true, cond_false]); first | (go_simp; done) | (go_simp; with_reducible rfl) | (go_simp; rfl))); all_goals skip; (try simp only [List.set_cons_succ, List.set_cons_zero])
          refine D_maybe 20 (!ca17) rfl (by kernel_rfl) (by kernel_rfl) (by kernel_rfl) (v := (.func (.func 29) #[] #[.pointer (some ⟨g4, 0, none⟩)])) (fun _ _ _ _ h => h) rfl (by cases ca17 <;> rfl) hS ?_ ?_
          (focus (intro hb; intro W hS; (try simp only [Bool.and_eq_true, Bool.not_eq_true'] at hb); have hb0 := hb; (try simp only [hb0, Bool.not_false, Bool.not_true, Bool.and_true, Bool.true_and, Bool.and_self, cond_true, cond_false]); first | (go_simp; done) | (go_simp; rfl))); all_goals skip; (try simp only [List.set_cons_succ, List.set_cons_zero])
          refine D_callB 21 (!ca17) an rfl (by kernel_rfl) rfl (by cases ca17 <;> rfl) hS ?_ ?_
          (focus (intro hb K hK; (try simp only [Bool.and_eq_true, Bool.not_eq_true'] at hb); have hb0 := hb; subst hb0; refine R_call (f := 28) (args := #[.slice (some ⟨bb, off, none⟩) xs.length cap, .func (.func 29) #[] #[.pointer (some ⟨g4, 0, none⟩)]]) (by first | (go_simp; done) | (go_simp; rfl)) (hcl hS.ext (cell_of_row _ g4 0 _ _ _ (hS.at_ 0 rfl))) ?_; rintro e w' ⟨rfl, hE⟩; exact ⟨_, rfl, hK _ hE⟩))
          clear hS; intro ca21 w Hca21 hS
          (try simp only [List.set_cons_succ, List.set_cons_zero])
          refine D_takeB 22 rfl (by kernel_rfl) (by kernel_rfl) (by kernel_rfl) (q := (ca17 || ca21)) (fun _ _ _ h => h) rfl (by rfl) hS ?_ ?_
          (focus (intro W hS; cases ca17 <;> cases ca21 <;> (first | (go_simp; done) | (go_simp; with_reducible rfl) | (go_simp; rfl)))); all_goals skip; (try simp only [List.set_cons_succ, List.set_cons_zero])
          intro ca22 Hca22
          have hrow := Hca22.out
          simp only [Hca2.out, Hca16.out, Hca17.out, Hca1.out, Hca5.out, Hca15.out, Hca21.out] at hrow
          replace hrow := Lib.hid hrow
          clear Hca2 Hca16 Hca17 Hca22 Hca1 Hca5 Hca15 Hca21
          refine wpAnyH_done (by kernel_rfl) ?_ _
          have H5 : SH (fun _ => False) w0 w _ := hS
          clear hS
          cases hq : ca22
          · rw [hq] at hrow
            have HQ2 := Lib.hid hrow.out
            clear hrow
            go_wp2_with fail
            exact ⟨⟨(i + 1) + 1, by go_num, by omega, H5.ext, Lib.hid (fun j hj => by
              by_cases hjk : j < (i + 1)
              · exact HA.out j hjk
              · obtain rfl : j = i + 1 := by omega
                intro z hz
                rw [HX.out] at hz
                cases hz
                exact ⟨HGA.out.trans (or3_f HQ2.out).1, fun k y e hy => by
                  obtain rfl : i = k := by omega
                  rw [HY.out] at hy
                  cases hy
                  exact bl_of (or3_f HQ2.out).2.1, HAN.out.trans (or3_f HQ2.out).2.2⟩)⟩, by show xs.length - (((i + 1 : Nat) : Int) + 1).toNat < xs.length - ((i + 1 : Nat) : Int).toNat; omega⟩
          · rw [hq] at hrow
            have HQ2 := Lib.hid hrow.out
            clear hrow
            go_wp2_with fail
            go_ret
            refine ⟨catGood1E_mk ⟨fun h => (Bool.false_ne_true h).elim, fun h => ?_⟩, H5.ext⟩
            have := h.2.1 _ hin _ HX.out
            have h2 := this.2.1 i _ rfl HY.out
            exact (or3_t HQ2.out (HGA.out.symm.trans this.1) (by rw [show Op.bytesLess p'.toList p.toList = true from h2]; rfl) (HAN.out.symm.trans this.2.2)).elim
      · have hii : ¬ (i : Int) < (xs.length : Int) := by omega
        obtain rfl : i = xs.length := by omega
        have hap := fun {W : World} (e : Ext0 w0 W) => apart_any (.slice A xs.length cap) xs W (HR.out.keep e) (by omega) (fun x hx => by
          obtain ⟨j, hj, rfl⟩ := List.mem_iff_getElem.1 hx
          exact alone_small (HA.out j hj _ (List.getElem?_eq_getElem hj)).1)
        go_wp2_with (go_at_call 31; refine (hap hE).mono ?_; rintro e w' ⟨⟨q, rfl, hq⟩, hE2⟩)
        go_ret
        exact ⟨⟨q, rfl, Lib.hid ⟨fun h => ⟨by omega, fun j hj => HA.out j hj, hq.out.1 h⟩, fun h => hq.out.2 h.2.2⟩⟩, hE.trans0 hE2⟩
end Go.Proofs.YtmfcccflohpjiaaGreatDoor
