/- Spans: Same, few, the fixed fact. -/
import Derived.Test.YtjdfeagjbhdceaaSpaceF
namespace Go.Proofs.Ytjdfeagjbhdceaa
set_option linter.unusedVariables false
set_option linter.unusedSimpArgs false
open Go.RowKit Go.Shelf

theorem R_loadSp {P : Program} {a : Act} {w : World} {o : Oper} {ty : TypeId} {x : Operand} (ho : o.op = .load ty x) {b off n cap : Nat} {xs : List Sp} (hr : RdS Sp.cells 2 w (.slice (some ⟨b, off, none⟩) n cap) xs) {j : Nat} (hj : j < xs.length)
    (hx : a.eval x = .pointer (some ⟨b, off + j * 2, none⟩)) {s : Sp} (hs : xs[j] = s) {d : TypeDesc} (hu : P.underlying ty = some d) (hd : d.isRow = true) (hi : (P.info? ty).map (·.size) = some 2) : (execOp a.eval o).run P w = .ok (.value (.agg #[.int .i64 s.at_, .int .i64 s.len])) w := by
  obtain ⟨b', off', cs, T, fr, he, hb, hcs⟩ := hr.cell hj
  cases he
  rw [hs] at hcs
  exact R_loadmid ho hx hb hu hd hi s.cells rfl hcs

def SaRel (ys : List Sp) (xs : List Sp) (w0 : World) (vi : Value) (wr : World) : Prop :=
  ∃ k : Nat, vi = .int .i64 (k : Int) ∧ k ≤ xs.length ∧ Aside (xs.take k = ys.take k) ∧ SH (fun _ => False) w0 wr []
theorem Sp.ext {x y : Sp} (h1 : x.at_ = y.at_) (h2 : x.len = y.len) : x = y := by cases x; cases y; simp_all
set_option maxRecDepth 100000 in
set_option maxHeartbeats 1000000 in
theorem same_any (va vb : Value) (xs ys : List Sp) (w0 : World) (ha : RdS Sp.cells 2 w0 va xs) (hb : RdS Sp.cells 2 w0 vb ys) (hn : xs.length ≤ 100000) (hn2 : ys.length ≤ 100000) :
    Calls Try.prog 18 #[va, vb] w0 fun e w' => (∃ q : Bool, e = .returned (.bool q) ∧ (q = true ↔ xs = ys)) ∧ Ext0 w0 w' := by
  obtain ⟨A, ca, rfl, hca⟩ := ha.len
  obtain ⟨B, cb, rfl, hcb⟩ := hb.len
  have H : SH (fun _ => False) w0 w0 [] := SH.nil _ _
  by_cases hl : xs.length = ys.length
  · have hl' : ((xs.length : Int) != (ys.length : Int)) = false := by simp [hl]
    go_enter Try.func18, Try.ntmps18
    go_wp2
    go_loopw [5] (fun vi wr => SaRel ys xs w0 vi wr) (fun vi _ => xs.length - (intOf vi).toNat)
    case atStart => exact ⟨0, rfl, Nat.zero_le _, (show Aside _ from rfl), H⟩
    case round =>
      clear H
      obtain ⟨k, rfl, hk, HA, H⟩ := hrel
      by_cases hkn : k < xs.length
      · have hki : (k : Int) < (xs.length : Int) := by omega
        have hkn2 : k < ys.length := by omega
        obtain ⟨b1, o1, _, _, _, rfl, _, _⟩ := ha.cell hkn
        obtain ⟨b2, o2, _, _, _, rfl, _, _⟩ := hb.cell hkn2
        have hxk := List.take_add_one (l := xs) (i := k)
        have hyk := List.take_add_one (l := ys) (i := k)
        rw [List.getElem?_eq_getElem hkn] at hxk
        rw [List.getElem?_eq_getElem hkn2] at hyk
        obtain ⟨x, hx⟩ : ∃ x, xs[k] = x := ⟨_, rfl⟩
        obtain ⟨y, hy⟩ : ∃ y, ys[k] = y := ⟨_, rfl⟩
        have HX := Lib.hid (show xs.take (k + 1) = xs.take k ++ [x] ∧ ys.take (k + 1) = ys.take k ++ [y] ∧ xs[k] = x ∧ ys[k] = y from ⟨by rw [hxk, hx]; rfl, by rw [hyk, hy]; rfl, hx, hy⟩)
        clear hxk hyk hx hy
        by_cases hss : x.at_ = y.at_ ∧ x.len = y.len
        · go_wp2_with fail
          refine D_start H (by kernel_rfl) (fun hS => ?_)
          try simp only [Act.put, List.setIfInBounds_toArray, List.set_cons_succ, List.set_cons_zero]
          refine D_take 0 (v := ?_) rfl (by kernel_rfl) (by kernel_rfl) (by kernel_rfl) (fun _ _ _ h => h) rfl (by rfl) (fun W hS => ?_) hS ?_
          rotate_left; (focus (first | (go_simp; done) | (go_simp; with_reducible rfl) | (go_simp; rfl))); all_goals skip; (try simp only [List.set_cons_succ, List.set_cons_zero])
          refine D_take 1 (v := ?_) rfl (by kernel_rfl) (by kernel_rfl) (by kernel_rfl) (fun _ _ _ h => h) rfl (by rfl) (fun W hS => ?_) hS ?_
          rotate_left; (focus (first | (go_simp; done) | (go_simp; with_reducible rfl) | (go_simp; rfl))); all_goals skip; (try simp only [List.set_cons_succ, List.set_cons_zero])
          refine D_take 2 (v := ?_) rfl (by kernel_rfl) (by kernel_rfl) (by kernel_rfl) (fun _ _ _ h => h) rfl (by rfl) (fun W hS => ?_) hS ?_
          rotate_left; (focus (first | (go_simp; done) | (go_simp; with_reducible rfl) | (go_simp; rfl))); all_goals skip; (try simp only [List.set_cons_succ, List.set_cons_zero])
          refine D_take 3 (v := (.agg #[.int .i64 x.at_, .int .i64 x.len])) rfl (by kernel_rfl) (by kernel_rfl) (by kernel_rfl) (fun _ _ _ h => h) rfl (by rfl) (fun W hS => R_loadSp (ty := 34) (x := .tmp 19) rfl (ha.keep hS.ext) hkn rfl HX.out.2.2.1 Try.underlying34 rfl info34) hS ?_; (try simp only [List.set_cons_succ, List.set_cons_zero])
          refine D_take 4 (v := ?_) rfl (by kernel_rfl) (by kernel_rfl) (by kernel_rfl) (fun _ _ _ h => h) rfl (by rfl) (fun W hS => ?_) hS ?_
          rotate_left; (focus (first | (go_simp; done) | (go_simp; with_reducible rfl) | (go_simp; rfl))); all_goals skip; (try simp only [List.set_cons_succ, List.set_cons_zero])
          refine D_take 5 (v := ?_) rfl (by kernel_rfl) (by kernel_rfl) (by kernel_rfl) (fun _ _ _ h => h) rfl (by rfl) (fun W hS => ?_) hS ?_
          rotate_left; (focus (first | (go_simp; done) | (go_simp; with_reducible rfl) | (go_simp; rfl))); all_goals skip; (try simp only [List.set_cons_succ, List.set_cons_zero])
          refine D_take 6 (v := ?_) rfl (by kernel_rfl) (by kernel_rfl) (by kernel_rfl) (fun _ _ _ h => h) rfl (by rfl) (fun W hS => ?_) hS ?_
          rotate_left; (focus (first | (go_simp; done) | (go_simp; with_reducible rfl) | (go_simp; rfl))); all_goals skip; (try simp only [List.set_cons_succ, List.set_cons_zero])
          refine D_take 7 (v := (.agg #[.int .i64 y.at_, .int .i64 y.len])) rfl (by kernel_rfl) (by kernel_rfl) (by kernel_rfl) (fun _ _ _ h => h) rfl (by rfl) (fun W hS => R_loadSp (ty := 34) (x := .tmp 23) rfl (hb.keep hS.ext) hkn2 rfl HX.out.2.2.2 Try.underlying34 rfl info34) hS ?_; (try simp only [List.set_cons_succ, List.set_cons_zero])
          refine D_take 8 (v := (.bool false)) rfl (by kernel_rfl) (by kernel_rfl) (by kernel_rfl) (fun _ _ _ h => h) rfl (by rfl) (fun W hS => by first | (go_simp; done) | (rw [hss.1, hss.2]; go_simp; done)) hS ?_; (try simp only [List.set_cons_succ, List.set_cons_zero])
          refine wpAnyH_done (by kernel_rfl) ?_ _
          replace H := H.drew
          go_wp2_with fail
          go_roundw
          case rel =>
            refine ⟨k + 1, by go_num, by omega, ?_, H⟩
            show xs.take (k + 1) = ys.take (k + 1)
            rw [HX.out.1, HX.out.2.1, Sp.ext hss.1 hss.2, HA.out]
          case measure => simp [intOf]; omega
        · go_wp2_with fail
          refine D_start H (by kernel_rfl) (fun hS => ?_)
          try simp only [Act.put, List.setIfInBounds_toArray, List.set_cons_succ, List.set_cons_zero]
          refine D_take 0 (v := ?_) rfl (by kernel_rfl) (by kernel_rfl) (by kernel_rfl) (fun _ _ _ h => h) rfl (by rfl) (fun W hS => ?_) hS ?_
          rotate_left; (focus (first | (go_simp; done) | (go_simp; with_reducible rfl) | (go_simp; rfl))); all_goals skip; (try simp only [List.set_cons_succ, List.set_cons_zero])
          refine D_take 1 (v := ?_) rfl (by kernel_rfl) (by kernel_rfl) (by kernel_rfl) (fun _ _ _ h => h) rfl (by rfl) (fun W hS => ?_) hS ?_
          rotate_left; (focus (first | (go_simp; done) | (go_simp; with_reducible rfl) | (go_simp; rfl))); all_goals skip; (try simp only [List.set_cons_succ, List.set_cons_zero])
          refine D_take 2 (v := ?_) rfl (by kernel_rfl) (by kernel_rfl) (by kernel_rfl) (fun _ _ _ h => h) rfl (by rfl) (fun W hS => ?_) hS ?_
          rotate_left; (focus (first | (go_simp; done) | (go_simp; with_reducible rfl) | (go_simp; rfl))); all_goals skip; (try simp only [List.set_cons_succ, List.set_cons_zero])
          refine D_take 3 (v := (.agg #[.int .i64 x.at_, .int .i64 x.len])) rfl (by kernel_rfl) (by kernel_rfl) (by kernel_rfl) (fun _ _ _ h => h) rfl (by rfl) (fun W hS => R_loadSp (ty := 34) (x := .tmp 19) rfl (ha.keep hS.ext) hkn rfl HX.out.2.2.1 Try.underlying34 rfl info34) hS ?_; (try simp only [List.set_cons_succ, List.set_cons_zero])
          refine D_take 4 (v := ?_) rfl (by kernel_rfl) (by kernel_rfl) (by kernel_rfl) (fun _ _ _ h => h) rfl (by rfl) (fun W hS => ?_) hS ?_
          rotate_left; (focus (first | (go_simp; done) | (go_simp; with_reducible rfl) | (go_simp; rfl))); all_goals skip; (try simp only [List.set_cons_succ, List.set_cons_zero])
          refine D_take 5 (v := ?_) rfl (by kernel_rfl) (by kernel_rfl) (by kernel_rfl) (fun _ _ _ h => h) rfl (by rfl) (fun W hS => ?_) hS ?_
          rotate_left; (focus (first | (go_simp; done) | (go_simp; with_reducible rfl) | (go_simp; rfl))); all_goals skip; (try simp only [List.set_cons_succ, List.set_cons_zero])
          refine D_take 6 (v := ?_) rfl (by kernel_rfl) (by kernel_rfl) (by kernel_rfl) (fun _ _ _ h => h) rfl (by rfl) (fun W hS => ?_) hS ?_
          rotate_left; (focus (first | (go_simp; done) | (go_simp; with_reducible rfl) | (go_simp; rfl))); all_goals skip; (try simp only [List.set_cons_succ, List.set_cons_zero])
          refine D_take 7 (v := (.agg #[.int .i64 y.at_, .int .i64 y.len])) rfl (by kernel_rfl) (by kernel_rfl) (by kernel_rfl) (fun _ _ _ h => h) rfl (by rfl) (fun W hS => R_loadSp (ty := 34) (x := .tmp 23) rfl (hb.keep hS.ext) hkn2 rfl HX.out.2.2.2 Try.underlying34 rfl info34) hS ?_; (try simp only [List.set_cons_succ, List.set_cons_zero])
          refine D_take 8 (v := (.bool true)) rfl (by kernel_rfl) (by kernel_rfl) (by kernel_rfl) (fun _ _ _ h => h) rfl (by rfl) (fun W hS => by first | (go_simp; done) | (go_simp; exact fun h1 h2 => hss ⟨h1, h2⟩)) hS ?_; (try simp only [List.set_cons_succ, List.set_cons_zero])
          refine wpAnyH_done (by kernel_rfl) ?_ _
          replace H := H.drew
          go_wp2_with fail
          go_ret
          refine ⟨⟨false, rfl, ?_⟩, H.ext⟩
          simp only [Bool.false_eq_true, false_iff]
          intro e
          subst e
          have h1 := HX.out.2.2.1
          rw [HX.out.2.2.2] at h1
          exact hss ⟨by rw [h1], by rw [h1]⟩
      · obtain rfl : k = xs.length := by omega
        go_wp2
        go_ret
        refine ⟨⟨true, rfl, ?_⟩, H.ext⟩
        have h1 := HA.out
        rw [List.take_length, hl, List.take_length] at h1
        simp [h1]
  · have hl' : ((xs.length : Int) != (ys.length : Int)) = true := by simp; omega
    go_enter Try.func18, Try.ntmps18
    go_wp2
    go_ret
    refine ⟨⟨false, rfl, ?_⟩, H.ext⟩
    simp only [Bool.false_eq_true, false_iff]
    intro e
    exact hl (by rw [e])

theorem RdS.takeS {w : World} {A : Option Addr} {n cap : Nat} {xs : List Sp} (h : RdS Sp.cells 2 w (.slice A n cap) xs) (m : Nat) (hm : m ≤ xs.length) : RdS Sp.cells 2 w (.slice A m cap) (xs.take m) := by
  obtain ⟨A', cap', he, hc, h⟩ := h
  cases he
  have hl : (xs.take m).length = m := by rw [List.length_take]; omega
  refine ⟨_, cap, by rw [hl], by omega, ?_⟩
  rcases h with h | ⟨b, off, cs, T, fr, h1, h2, h3⟩
  · left; rw [h]; simp
  · right
    refine ⟨b, off, cs, T, fr, h1, h2, fun j hj i hi => ?_⟩
    rw [List.getElem_take]
    exact h3 j (by rw [hl] at hj; omega) i hi
set_option maxHeartbeats 1000000 in
theorem few_any (sv : Value) (xs : List Sp) (w : World) (hr : RdS Sp.cells 2 w sv xs) : Calls Try.prog 12 #[sv] w fun e w' => (∃ v, e = .returned v ∧ RdS Sp.cells 2 w v (xs.take 40)) ∧ w' = w := by
  obtain ⟨A, cap, rfl, hc⟩ := hr.len
  by_cases hl : 40 < xs.length
  · have hl' : (40 : Int) < (xs.length : Int) := by omega
    obtain ⟨b, off, _, _, _, rfl, _, _⟩ := hr.cell (j := 0) (by omega)
    have hcc : 40 ≤ cap := by omega
    have HR := Lib.hid (hr.takeS 40 (by omega))
    clear hr
    go_enter Try.func12, Try.ntmps12
    go_wp2
    go_ret
    exact ⟨⟨_, rfl, by simpa using HR.out⟩, rfl⟩
  · have hl' : ¬ (40 : Int) < (xs.length : Int) := by omega
    have HR := Lib.hid hr
    clear hr
    go_enter Try.func12, Try.ntmps12
    go_wp2
    go_ret
    exact ⟨⟨_, rfl, by rw [List.take_of_length_le (by omega)]; exact HR.out⟩, rfl⟩

theorem twoSpan {w : World} {g : Nat} {T : TypeId} {fr : Nat × Nat} {s r : Sp} (hg : w.heap[g]? = some (.cells #[.int .i64 s.at_, .int .i64 s.len, .int .i64 r.at_, .int .i64 r.len] T fr)) : RdS Sp.cells 2 w (.slice (some ⟨g, 0, none⟩) 2 2) [s, r] :=
  ⟨_, 2, rfl, Nat.le_refl _, .inr ⟨g, 0, _, T, fr, rfl, hg, fun j hj i hi => by
    match j, i, hj, hi with
    | 0, 0, _, _ => rfl
    | 0, 1, _, _ => rfl
    | 1, 0, _, _ => rfl
    | 1, 1, _, _ => rfl⟩⟩
theorem small23 : Small [⟨2, 3⟩] := by intro s hs; rw [List.mem_singleton.1 hs]; simp
set_option maxRecDepth 100000 in
set_option maxHeartbeats 4000000 in
theorem awake_space (w0 : World) : Calls Try.prog 15 #[] w0 fun e w' => e = .returned (.bool true) ∧ Ext0 w0 w' := by
  have H : SH (fun _ => False) w0 w0 [] := SH.nil _ _
  have h1 := fun {sv : Value} {w : World} (h : RdS Sp.cells 2 w sv [⟨2, 3⟩]) => find_any sv [⟨2, 3⟩] 10 4 w (by decide) h (by decide) (by decide) small23
  rw [show findL (holesL [⟨2, 3⟩] 10) 4 = (5, true) by decide] at h1
  have h2 := fun {sv : Value} {w : World} (h : RdS Sp.cells 2 w sv [⟨2, 3⟩]) => find_any sv [⟨2, 3⟩] 10 6 w (by decide) h (by decide) (by decide) small23
  rw [show findL (holesL [⟨2, 3⟩] 10) 6 = (0, false) by decide] at h2
  have h3 := fun {sv : Value} {w : World} (h : RdS Sp.cells 2 w sv [⟨2, 3⟩]) => holes_any sv [⟨2, 3⟩] 10 w (by decide) h (by decide) (by decide) small23
  rw [show holesL [⟨2, 3⟩] 10 = [⟨0, 2⟩, ⟨5, 5⟩] by rfl] at h3
  have h4 := fun {sv : Value} {w : World} (h : RdS Sp.cells 2 w sv [⟨2, 3⟩]) => free_any sv [⟨2, 3⟩] 10 w (by decide) h (by decide) (by decide) small23
  rw [show freeL [⟨2, 3⟩] 10 = 7 by decide] at h4
  have h5 := fun {sv : Value} {w : World} (h : RdS Sp.cells 2 w sv [⟨2, 3⟩]) => good_any sv [⟨2, 3⟩] 5 w (by decide) h (by decide) (by decide) small23
  rw [show goodB [⟨2, 3⟩] 5 = true by decide] at h5
  have h6 := fun {sv : Value} {w : World} (h : RdS Sp.cells 2 w sv [⟨2, 3⟩]) => good_any sv [⟨2, 3⟩] 4 w (by decide) h (by decide) (by decide) small23
  rw [show goodB [⟨2, 3⟩] 4 = false by decide] at h6
  go_enter Try.func15, Try.ntmps15
  go_wp2_with (first
    | (go_at_call_of 13 (Value.int IntKind.i64 4); replace H := H.alloc (.cells #[.int .i64 2, .int .i64 3] 34); refine (h1 (oneSpan (s := ⟨2, 3⟩) (H.at_ 0 rfl))).mono ?_; rintro e w ⟨rfl, h⟩; replace H := H.calls h; clear h)
    | (go_at_call_of 13 (Value.int IntKind.i64 6); refine (h2 (oneSpan (s := ⟨2, 3⟩) (H.at_ 0 rfl))).mono ?_; rintro e w ⟨rfl, h⟩; replace H := H.calls h; clear h)
    | (go_at_call 19; refine (h3 (oneSpan (s := ⟨2, 3⟩) (H.at_ 0 rfl))).mono ?_; rintro e w ⟨⟨v1, rfl, hv⟩, h⟩; replace H := H.calls h; clear h; have H0 := SH.nil (fun _ => False) w)
    | (go_at_call 18; replace H0 := H0.alloc (.cells #[.int .i64 0, .int .i64 2, .int .i64 5, .int .i64 5] 34); replace H := H.calls H0.ext; refine (same_any _ _ [⟨0, 2⟩, ⟨5, 5⟩] [⟨0, 2⟩, ⟨5, 5⟩] _ (hv.keep H0.ext) (twoSpan (s := ⟨0, 2⟩) (r := ⟨5, 5⟩) (H0.at_ 0 rfl)) (by decide) (by decide)).mono ?_; rintro e w2 ⟨⟨q, rfl, hq⟩, h⟩; obtain rfl : q = true := hq.2 rfl; replace H := H.calls h; clear h H0 hv hq)
    | (go_at_call 21; refine (h4 (oneSpan (s := ⟨2, 3⟩) (H.at_ 0 rfl))).mono ?_; rintro e w ⟨rfl, h⟩; replace H := H.calls h; clear h)
    | (go_at_call_of 16 (Value.int IntKind.i64 5); refine (h5 (oneSpan (s := ⟨2, 3⟩) (H.at_ 0 rfl))).mono ?_; rintro e w ⟨rfl, h⟩; replace H := H.calls h; clear h)
    | (go_at_call_of 16 (Value.int IntKind.i64 4); refine (h6 (oneSpan (s := ⟨2, 3⟩) (H.at_ 0 rfl))).mono ?_; rintro e w ⟨rfl, h⟩; replace H := H.calls h; clear h))
  go_ret
  exact ⟨rfl, H.ext⟩
end Go.Proofs.Ytjdfeagjbhdceaa
