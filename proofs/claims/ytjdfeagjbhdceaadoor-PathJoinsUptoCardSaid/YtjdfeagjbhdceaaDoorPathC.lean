/- Names of files: the document's Under; Texts; the fixed fact. -/
import Derived.Test.YtjdfeagjbhdceaaDoorPathB
namespace Go.Proofs.YtjdfeagjbhdceaaDoor
set_option linter.unusedVariables false
set_option linter.unusedSimpArgs false
open Go.RowKit Go.Shelf

/-- A load out of a slice whose elements are one cell each. -/
theorem R_loadRd {P : Program} {a : Act} {w : World} {o : Oper} {α : Type} {enc : α → List Value} {ty : TypeId} {x : Operand} (ho : o.op = .load ty x) {b off n cap : Nat} {xs : List α} (hr : RdS enc 1 w (.slice (some ⟨b, off, none⟩) n cap) xs) {j : Nat} (hj : j < xs.length) (hx : a.eval x = .pointer (some ⟨b, off + j, none⟩)) {v : Value} (hv : enc xs[j] = [v])
    (hag : ∀ w, (isAgg ty).run P w = .ok false w) : (execOp a.eval o).run P w = .ok (.value v) w := by
  obtain ⟨b', off', cs, T, fr, he, hb, hcs⟩ := hr.cell hj
  cases he
  have h1 := hcs 0 (by omega)
  rw [hv, Nat.mul_one, Nat.add_zero] at h1
  have hc : w.cell? ⟨b, off + j, none⟩ = some v := by rw [cell_of_row w b _ cs T fr hb, h1]; rfl
  unfold execOp
  simp only [ho, hx, Instr.loadAt, Instr.sureAddr, loadVar, Sem.run_bind, Sem.run_pure, Result.andThen_ok, hag]
  simp [hc]
theorem Strs.rd {w : World} {v : Value} {ps : List (List UInt8)} (h : Strs w v ps) : RdS encB 1 w v ps := by
  rcases h with ⟨rfl, rfl⟩ | ⟨_, b, T, fr, rfl, hb⟩
  · exact RdS.nil _ _ _
  · refine ⟨_, _, rfl, Nat.le_refl _, .inr ⟨b, 0, _, T, fr, rfl, hb, fun j hj i hi => ?_⟩⟩
    obtain rfl : i = 0 := by omega
    simp [strRow, encB, hj]

theorem byte47 (c : UInt8) : (((c.toNat : Int)) == 47) = (some c == some (47 : UInt8)) := by
  rw [Bool.eq_iff_iff, beq_iff_eq, beq_iff_eq, Option.some.injEq, ← UInt8.toNat_inj]
  show _ ↔ c.toNat = 47
  omega
set_option maxHeartbeats 1000000 in
theorem refUnder_any (s t : ByteArray) (w : World) (hs : s.size < 4294967281) (ht : t.size < 4294967281) : Calls Tryd.prog 12 #[.string s, .string t] w fun e w' => e = .returned (.bool (underL (lst s) (lst t))) ∧ Ext0 w w' := by
  have hg1 := refGood_any s w hs
  have hg2 := fun {w' : World} (_ : Ext0 w w') => refGood_any t w' ht
  have hu : underL (lst s) (lst t) = (goodL (lst s) && goodL (lst t) && decide (t.size < s.size) && ((s.extract 0 t.size).toList == t.toList) && ((lst s)[t.size]? == some 47)) := by
    rw [under_ref, lst_len, lst_len, Go.ByteArray.toList_eq, Go.ByteArray.toList_eq, Lib.extract_data, List.drop_zero]
    rfl
  have HU := Lib.hid hu
  clear hu
  generalize underL (lst s) (lst t) = q at HU ⊢
  generalize goodL (lst s) = q1 at hg1 HU
  generalize goodL (lst t) = q2 at hg2 HU
  cases q1
  · go_enter Tryd.func12, Tryd.ntmps12
    go_wp2_with (first
      | (go_at_call 7; refine hg1.mono ?_; rintro e w1 ⟨rfl, H1⟩))
    go_ret
    exact ⟨by rw [HU.out]; rfl, H1⟩
  · cases q2
    · go_enter Tryd.func12, Tryd.ntmps12
      go_wp2_with (first
        | (go_at_call_of 7 (Value.string s); refine hg1.mono ?_; clear hg1; rintro e w1 ⟨rfl, H1⟩)
        | (go_at_call 7; refine (hg2 H1).mono ?_; rintro e w2 ⟨rfl, H2⟩))
      go_ret
      exact ⟨by rw [HU.out]; rfl, H1.trans0 H2⟩
    · by_cases hl : t.size < s.size
      · have hl' : (t.size : Int) < (s.size : Int) := by omega
        have HC : Hid ((lst s)[t.size]? = some s[t.size]) := Lib.hid (by rw [List.getElem?_eq_getElem (by rw [lst_len]; exact hl)]; rfl)
        go_enter Tryd.func12, Tryd.ntmps12
        go_wp2_with (first
          | (go_at_call_of 7 (Value.string s); refine hg1.mono ?_; clear hg1; rintro e w1 ⟨rfl, H1⟩)
          | (go_at_call 7; refine (hg2 H1).mono ?_; clear hg2; rintro e w2 ⟨rfl, H2⟩))
        all_goals go_ret
        all_goals refine ⟨?_, H1.trans0 H2⟩
        · have he : (s.extract 0 t.size).toList = t.toList := by assumption
          show Ending.returned (Value.bool ((s[t.size].toNat : Int) == 47)) = _
          rw [HU.out, HC.out, byte47, he]
          simp [hl]
        · have he : ¬ (s.extract 0 t.size).toList = t.toList := by assumption
          show Ending.returned (Value.bool false) = _
          rw [HU.out, beq_eq_false_iff_ne.2 he]
          simp
      · have hl' : ¬ (t.size : Int) < (s.size : Int) := by omega
        go_enter Tryd.func12, Tryd.ntmps12
        go_wp2_with (first
          | (go_at_call_of 7 (Value.string s); refine hg1.mono ?_; clear hg1; rintro e w1 ⟨rfl, H1⟩)
          | (go_at_call 7; refine (hg2 H1).mono ?_; clear hg2; rintro e w2 ⟨rfl, H2⟩))
        go_ret
        exact ⟨by rw [HU.out]; simp [hl], H1.trans0 H2⟩

def TxRel (ys : List (List UInt8)) (xs : List (List UInt8)) (w0 : World) (vi : Value) (wr : World) : Prop :=
  ∃ k : Nat, vi = .int .i64 (k : Int) ∧ k ≤ xs.length ∧ Aside (xs.take k = ys.take k) ∧ SH (fun _ => False) w0 wr []
set_option maxRecDepth 100000 in
set_option maxHeartbeats 1000000 in
theorem texts_any (va vb : Value) (xs ys : List (List UInt8)) (w0 : World) (ha : RdS encB 1 w0 va xs) (hb : RdS encB 1 w0 vb ys) (hn : xs.length ≤ 4294967300) (hn2 : ys.length ≤ 4294967300) :
    Calls Tryd.prog 8 #[va, vb] w0 fun e w' => e = .returned (.bool (xs == ys)) ∧ Ext0 w0 w' := by
  obtain ⟨A, ca, rfl, hca⟩ := ha.len
  obtain ⟨B, cb, rfl, hcb⟩ := hb.len
  have H : SH (fun _ => False) w0 w0 [] := SH.nil _ _
  by_cases hl : xs.length = ys.length
  · have hl' : ((xs.length : Int) != (ys.length : Int)) = false := by simp [hl]
    go_enter Tryd.func8, Tryd.ntmps8
    go_wp2
    go_loopw [5] (fun vi wr => TxRel ys xs w0 vi wr) (fun vi _ => xs.length - (intOf vi).toNat)
    case atStart => exact ⟨0, rfl, Nat.zero_le _, (show Aside _ from rfl), H⟩
    case round =>
      clear H
      obtain ⟨k, rfl, hk, HA, H⟩ := hrel
      by_cases hkn : k < xs.length
      · have hki : (k : Int) < (xs.length : Int) := by omega
        have hkn2 : k < ys.length := by omega
        obtain ⟨b1, o1, _, _, _, rfl, _, _⟩ := ha.cell hkn
        obtain ⟨b2, o2, _, _, _, rfl, _, _⟩ := hb.cell hkn2
        have hxk := List.take_add_one (l := xs) (i := k)
        have hyk := List.take_add_one (l := ys) (i := k)
        rw [List.getElem?_eq_getElem hkn] at hxk
        rw [List.getElem?_eq_getElem hkn2] at hyk
        obtain ⟨x, hx⟩ : ∃ x, xs[k] = x := ⟨_, rfl⟩
        obtain ⟨y, hy⟩ : ∃ y, ys[k] = y := ⟨_, rfl⟩
        have hvx : encB xs[k] = [.string (bs x)] := by rw [hx]; rfl
        have hvy : encB ys[k] = [.string (bs y)] := by rw [hy]; rfl
        have HX := Lib.hid (show xs.take (k + 1) = xs.take k ++ [x] ∧ ys.take (k + 1) = ys.take k ++ [y] ∧ xs[k] = x ∧ ys[k] = y from ⟨by rw [hxk, hx]; rfl, by rw [hyk, hy]; rfl, hx, hy⟩)
        clear hx hy hxk hyk
        by_cases hss : (bs x).toList = (bs y).toList
        · go_wp2_with fail
          refine D_start H (by kernel_rfl) (fun hS => ?_)
          try simp only [Act.put, List.setIfInBounds_toArray, List.set_cons_succ, List.set_cons_zero]
          refine D_take 0 (v := ?_) rfl (by kernel_rfl) (by kernel_rfl) (by kernel_rfl) (fun _ _ _ h => h) rfl (by rfl) (fun W hS => ?_) hS ?_
          rotate_left; (focus (first | (go_simp; done) | (go_simp; with_reducible rfl) | (go_simp; rfl))); all_goals skip; (try simp only [List.set_cons_succ, List.set_cons_zero])
          refine D_take 1 (v := ?_) rfl (by kernel_rfl) (by kernel_rfl) (by kernel_rfl) (fun _ _ _ h => h) rfl (by rfl) (fun W hS => ?_) hS ?_
          rotate_left; (focus (first | (go_simp; done) | (go_simp; with_reducible rfl) | (go_simp; rfl))); all_goals skip; (try simp only [List.set_cons_succ, List.set_cons_zero])
          refine D_take 2 (v := ?_) rfl (by kernel_rfl) (by kernel_rfl) (by kernel_rfl) (fun _ _ _ h => h) rfl (by rfl) (fun W hS => ?_) hS ?_
          rotate_left; (focus (first | (go_simp; done) | (go_simp; with_reducible rfl) | (go_simp; rfl))); all_goals skip; (try simp only [List.set_cons_succ, List.set_cons_zero])
          refine D_take 3 (v := (.string (bs x))) rfl (by kernel_rfl) (by kernel_rfl) (by kernel_rfl) (fun _ _ _ h => h) rfl (by rfl) (fun W hS => R_loadRd (ty := 9) (x := .tmp 19) rfl (ha.keep hS.ext) hkn rfl hvx Tryd.isAgg9) hS ?_; (try simp only [List.set_cons_succ, List.set_cons_zero])
          refine D_take 4 (v := ?_) rfl (by kernel_rfl) (by kernel_rfl) (by kernel_rfl) (fun _ _ _ h => h) rfl (by rfl) (fun W hS => ?_) hS ?_
          rotate_left; (focus (first | (go_simp; done) | (go_simp; with_reducible rfl) | (go_simp; rfl))); all_goals skip; (try simp only [List.set_cons_succ, List.set_cons_zero])
          refine D_take 5 (v := ?_) rfl (by kernel_rfl) (by kernel_rfl) (by kernel_rfl) (fun _ _ _ h => h) rfl (by rfl) (fun W hS => ?_) hS ?_
          rotate_left; (focus (first | (go_simp; done) | (go_simp; with_reducible rfl) | (go_simp; rfl))); all_goals skip; (try simp only [List.set_cons_succ, List.set_cons_zero])
          refine D_take 6 (v := ?_) rfl (by kernel_rfl) (by kernel_rfl) (by kernel_rfl) (fun _ _ _ h => h) rfl (by rfl) (fun W hS => ?_) hS ?_
          rotate_left; (focus (first | (go_simp; done) | (go_simp; with_reducible rfl) | (go_simp; rfl))); all_goals skip; (try simp only [List.set_cons_succ, List.set_cons_zero])
          refine D_take 7 (v := (.string (bs y))) rfl (by kernel_rfl) (by kernel_rfl) (by kernel_rfl) (fun _ _ _ h => h) rfl (by rfl) (fun W hS => R_loadRd (ty := 9) (x := .tmp 23) rfl (hb.keep hS.ext) hkn2 rfl hvy Tryd.isAgg9) hS ?_; (try simp only [List.set_cons_succ, List.set_cons_zero])
          refine D_take 8 (v := (.bool false)) rfl (by kernel_rfl) (by kernel_rfl) (by kernel_rfl) (fun _ _ _ h => h) rfl (by rfl) (fun W hS => by first | (go_simp; done) | (go_simp; exact hss)) hS ?_; (try simp only [List.set_cons_succ, List.set_cons_zero])
          refine wpAnyH_done (by kernel_rfl) ?_ _
          replace H := H.drew
          go_wp2_with fail
          go_roundw
          case rel =>
            refine ⟨k + 1, by go_num, by omega, ?_, H⟩
            show xs.take (k + 1) = ys.take (k + 1)
            have hxy : x = y := by rw [← lst_bs x, ← lst_bs y]; rwa [Go.ByteArray.toList_eq, Go.ByteArray.toList_eq] at hss
            rw [HX.out.1, HX.out.2.1, hxy, HA.out]
          case measure => simp [intOf]; omega
        · go_wp2_with fail
          refine D_start H (by kernel_rfl) (fun hS => ?_)
          try simp only [Act.put, List.setIfInBounds_toArray, List.set_cons_succ, List.set_cons_zero]
          refine D_take 0 (v := ?_) rfl (by kernel_rfl) (by kernel_rfl) (by kernel_rfl) (fun _ _ _ h => h) rfl (by rfl) (fun W hS => ?_) hS ?_
          rotate_left; (focus (first | (go_simp; done) | (go_simp; with_reducible rfl) | (go_simp; rfl))); all_goals skip; (try simp only [List.set_cons_succ, List.set_cons_zero])
          refine D_take 1 (v := ?_) rfl (by kernel_rfl) (by kernel_rfl) (by kernel_rfl) (fun _ _ _ h => h) rfl (by rfl) (fun W hS => ?_) hS ?_
          rotate_left; (focus (first | (go_simp; done) | (go_simp; with_reducible rfl) | (go_simp; rfl))); all_goals skip; (try simp only [List.set_cons_succ, List.set_cons_zero])
          refine D_take 2 (v := ?_) rfl (by kernel_rfl) (by kernel_rfl) (by kernel_rfl) (fun _ _ _ h => h) rfl (by rfl) (fun W hS => ?_) hS ?_
          rotate_left; (focus (first | (go_simp; done) | (go_simp; with_reducible rfl) | (go_simp; rfl))); all_goals skip; (try simp only [List.set_cons_succ, List.set_cons_zero])
          refine D_take 3 (v := (.string (bs x))) rfl (by kernel_rfl) (by kernel_rfl) (by kernel_rfl) (fun _ _ _ h => h) rfl (by rfl) (fun W hS => R_loadRd (ty := 9) (x := .tmp 19) rfl (ha.keep hS.ext) hkn rfl hvx Tryd.isAgg9) hS ?_; (try simp only [List.set_cons_succ, List.set_cons_zero])
          refine D_take 4 (v := ?_) rfl (by kernel_rfl) (by kernel_rfl) (by kernel_rfl) (fun _ _ _ h => h) rfl (by rfl) (fun W hS => ?_) hS ?_
          rotate_left; (focus (first | (go_simp; done) | (go_simp; with_reducible rfl) | (go_simp; rfl))); all_goals skip; (try simp only [List.set_cons_succ, List.set_cons_zero])
          refine D_take 5 (v := ?_) rfl (by kernel_rfl) (by kernel_rfl) (by kernel_rfl) (fun _ _ _ h => h) rfl (by rfl) (fun W hS => ?_) hS ?_
          rotate_left; (focus (first | (go_simp; done) | (go_simp; with_reducible rfl) | (go_simp; rfl))); all_goals skip; (try simp only [List.set_cons_succ, List.set_cons_zero])
          refine D_take 6 (v := ?_) rfl (by kernel_rfl) (by kernel_rfl) (by kernel_rfl) (fun _ _ _ h => h) rfl (by rfl) (fun W hS => ?_) hS ?_
          rotate_left; (focus (first | (go_simp; done) | (go_simp; with_reducible rfl) | (go_simp; rfl))); all_goals skip; (try simp only [List.set_cons_succ, List.set_cons_zero])
          refine D_take 7 (v := (.string (bs y))) rfl (by kernel_rfl) (by kernel_rfl) (by kernel_rfl) (fun _ _ _ h => h) rfl (by rfl) (fun W hS => R_loadRd (ty := 9) (x := .tmp 23) rfl (hb.keep hS.ext) hkn2 rfl hvy Tryd.isAgg9) hS ?_; (try simp only [List.set_cons_succ, List.set_cons_zero])
          refine D_take 8 (v := (.bool true)) rfl (by kernel_rfl) (by kernel_rfl) (by kernel_rfl) (fun _ _ _ h => h) rfl (by rfl) (fun W hS => by first | (go_simp; done) | (go_simp; exact hss)) hS ?_; (try simp only [List.set_cons_succ, List.set_cons_zero])
          refine wpAnyH_done (by kernel_rfl) ?_ _
          replace H := H.drew
          go_wp2_with fail
          go_ret
          refine ⟨?_, H.ext⟩
          have hne : (xs == ys) = false := by
            rw [beq_eq_false_iff_ne]
            intro e
            subst e
            exact hss (by rw [← HX.out.2.2.1, ← HX.out.2.2.2])
          rw [hne]
          rfl
      · obtain rfl : k = xs.length := by omega
        go_wp2
        go_ret
        refine ⟨?_, H.ext⟩
        have h1 := HA.out
        rw [List.take_length, hl, List.take_length] at h1
        rw [h1]
        simp
  · have hl' : ((xs.length : Int) != (ys.length : Int)) = true := by simp; omega
    go_enter Tryd.func8, Tryd.ntmps8
    go_wp2
    go_ret
    refine ⟨?_, H.ext⟩
    have hne : (xs == ys) = false := by
      rw [beq_eq_false_iff_ne]
      intro e
      exact hl (by rw [e])
    rw [hne]
    rfl

theorem awGood (s : ByteArray) (b : Bool) (hb : goodL (lst s) = b) (hs : s.size < 4294967281) {w : World} (hm : ML w) : Calls Tryd.prog 6 #[.string s] w fun e w' => e = .returned (.bool b) ∧ Ext0 w w' := hb ▸ good_any s w hs hm
theorem awUnder (s t : ByteArray) (b : Bool) (hb : underL (lst s) (lst t) = b) (hs : s.size < 4294967281) (ht : t.size < 4294967281) {w : World} (hm : ML w) : Calls Tryd.prog 11 #[.string s, .string t] w fun e w' => e = .returned (.bool b) ∧ Ext0 w w' := hb ▸ under_any s t w hs ht hm
theorem twoB {w : World} {g : Nat} {T : TypeId} {fr : Nat × Nat} {s t : ByteArray} (hg : w.heap[g]? = some (.cells #[.string s, .string t] T fr)) : RdS encB 1 w (.slice (some ⟨g, 0, none⟩) 2 2) [lst s, lst t] :=
  ⟨_, 2, rfl, Nat.le_refl _, .inr ⟨g, 0, _, T, fr, rfl, hg, fun j hj i hi => by
    obtain rfl : i = 0 := by omega
    match j, hj with
    | 0, _ => simp [encB, bs_lst]
    | 1, _ => simp [encB, bs_lst]⟩⟩
set_option maxRecDepth 100000 in
set_option maxHeartbeats 2000000 in
theorem awake_any (w0 : World) (hm : ML w0) : Calls Tryd.prog 5 #[] w0 fun e w' => e = .returned (.bool true) ∧ Ext0 w0 w' := by
  have H : SH (fun _ => False) w0 w0 [] := SH.nil _ _
  have hM : ∀ {w : World}, Ext0 w0 w → ML w := fun h => hm.ext h
  have h1 := fun {w : World} (hm : ML w) => awGood ⟨#[97, 47, 98, 46, 116, 120, 116]⟩ true (by decide) (by decide) hm
  have h2 := fun {w : World} (hm : ML w) => awGood ⟨#[47, 97]⟩ false (by decide) (by decide) hm
  have h3 := fun {w : World} (hm : ML w) => awGood ⟨#[97, 47, 47, 98]⟩ false (by decide) (by decide) hm
  have h4 := fun {w : World} (hm : ML w) => awGood ⟨#[97, 47, 46, 46]⟩ false (by decide) (by decide) hm
  have h5 := fun {w : World} (hm : ML w) => awGood ⟨#[]⟩ false (by decide) (by decide) hm
  have hp := fun {w : World} (hm : ML w) => parts_any ⟨#[97, 47, 98]⟩ w (by decide) hm
  rw [show partsL (lst ⟨#[97, 47, 98]⟩) = [[97], [98]] by decide] at hp
  have hu1 := fun {w : World} (hm : ML w) => awUnder ⟨#[97, 47, 98]⟩ ⟨#[97]⟩ true (by decide) (by decide) (by decide) hm
  have hu2 := fun {w : World} (hm : ML w) => awUnder ⟨#[97, 98]⟩ ⟨#[97]⟩ false (by decide) (by decide) (by decide) hm
  go_enter Tryd.func5, Tryd.ntmps5
  go_wp2_with (first
    | (go_at_call_of 6 (Value.string ⟨#[97, 47, 98, 46, 116, 120, 116]⟩); refine (h1 (hM H.ext)).mono ?_; rintro e w ⟨rfl, h⟩; replace H := H.calls h; clear h)
    | (go_at_call_of 6 (Value.string ⟨#[47, 97]⟩); refine (h2 (hM H.ext)).mono ?_; rintro e w ⟨rfl, h⟩; replace H := H.calls h; clear h)
    | (go_at_call_of 6 (Value.string ⟨#[97, 47, 47, 98]⟩); refine (h3 (hM H.ext)).mono ?_; rintro e w ⟨rfl, h⟩; replace H := H.calls h; clear h)
    | (go_at_call_of 6 (Value.string ⟨#[97, 47, 46, 46]⟩); refine (h4 (hM H.ext)).mono ?_; rintro e w ⟨rfl, h⟩; replace H := H.calls h; clear h)
    | (go_at_call_of 6 (Value.string ⟨#[]⟩); refine (h5 (hM H.ext)).mono ?_; rintro e w ⟨rfl, h⟩; replace H := H.calls h; clear h)
    | (go_at_call 9; refine (hp (hM H.ext)).mono ?_; rintro e w ⟨⟨v1, rfl, hv⟩, h⟩; replace H := H.calls h; clear h; have H0 := SH.nil (fun _ => False) w)
    | (go_at_call 8; replace H0 := H0.alloc (.cells #[.string ⟨#[97]⟩, .string ⟨#[98]⟩] 9); replace H := H.calls H0.ext; refine (texts_any _ _ [[97], [98]] [[97], [98]] _ (hv.rd.keep H0.ext) (twoB (s := ⟨#[97]⟩) (t := ⟨#[98]⟩) (H0.at_ 0 rfl)) (by decide) (by decide)).mono ?_; rw [show (([[97], [98]] : List (List UInt8)) == [[97], [98]]) = true by decide]; rintro e w2 ⟨rfl, h⟩; replace H := H.calls h; clear h H0 hv)
    | (go_at_call_of 11 (Value.string ⟨#[97, 47, 98]⟩); refine (hu1 (hM H.ext)).mono ?_; rintro e w ⟨rfl, h⟩; replace H := H.calls h; clear h)
    | (go_at_call_of 11 (Value.string ⟨#[97, 98]⟩); refine (hu2 (hM H.ext)).mono ?_; rintro e w ⟨rfl, h⟩; replace H := H.calls h; clear h))
  go_ret
  exact ⟨rfl, H.ext⟩

theorem parts_len (s : List UInt8) : (partsL s).length ≤ s.length + 1 := by
  unfold partsL
  split
  · exact Nat.zero_le _
  · exact cut_le s
set_option maxRecDepth 100000 in
set_option maxHeartbeats 2000000 in
theorem pathParts_walk (s t : ByteArray) (w0 : World) (hm : ML w0) (hs : s.size < 4294967281) (ht : t.size < 4294967281) : Calls Tryd.prog 3 #[.string s, .string t] w0 fun e w' => e = .returned (.bool true) ∧ Ext0 w0 w' := by
  have H : SH (fun _ => False) w0 w0 [] := SH.nil _ _
  have hM : ∀ {w : World}, Ext0 w0 w → ML w := fun h => hm.ext h
  have ha := fun {w : World} (hm : ML w) => awake_any w hm
  have hg := fun {w : World} (hm : ML w) => good_any s w hs hm
  have hg2 := fun {w : World} => refGood_any s w hs
  have hp := fun {w : World} (hm : ML w) => parts_any s w hs hm
  have hp2 := fun {w : World} => refParts_any s w hs
  have hu := fun {w : World} (hm : ML w) => under_any s t w hs ht hm
  have hu2 := fun {w : World} => refUnder_any s t w hs ht
  have hl := parts_len (lst s)
  rw [lst_len] at hl
  generalize partsL (lst s) = ps at hp hp2 hl
  generalize goodL (lst s) = q at hg hg2
  generalize underL (lst s) (lst t) = u at hu hu2
  have hl2 : ps.length ≤ 4294967300 := by omega
  clear hl
  go_enter Tryd.func3, Tryd.ntmps3
  go_wp2_with (first
    | (go_at_call 5; refine (ha (hM H.ext)).mono ?_; rintro e w ⟨rfl, h⟩; replace H := H.calls h; clear h)
    | (go_at_call 6; refine (hg (hM H.ext)).mono ?_; rintro e w ⟨rfl, h⟩; replace H := H.calls h; clear h)
    | (go_at_call 7; refine hg2.mono ?_; rintro e w ⟨rfl, h⟩; replace H := H.calls h; clear h)
    | (go_at_call 9; refine (hp (hM H.ext)).mono ?_; rintro e w1 ⟨⟨v1, rfl, hv1⟩, h⟩; replace H := H.calls h; clear h)
    | (go_at_call 10; refine hp2.mono ?_; rintro e w2 ⟨⟨v2, rfl, hv2⟩, h⟩; replace H := H.calls h; have hv3 := hv1.rd.keep h; clear h hv1)
    | (go_at_call 8; refine (texts_any _ _ ps ps _ hv3 hv2 hl2 hl2).mono ?_; rw [show (ps == ps) = true by simp]; rintro e w3 ⟨rfl, h⟩; replace H := H.calls h; clear h hv2 hv3)
    | (go_at_call 11; refine (hu (hM H.ext)).mono ?_; rintro e w ⟨rfl, h⟩; replace H := H.calls h; clear h)
    | (go_at_call 12; refine hu2.mono ?_; rintro e w ⟨rfl, h⟩; replace H := H.calls h; clear h))
  all_goals (go_ret; exact ⟨by simp, H.ext⟩)
end Go.Proofs.YtjdfeagjbhdceaaDoor
