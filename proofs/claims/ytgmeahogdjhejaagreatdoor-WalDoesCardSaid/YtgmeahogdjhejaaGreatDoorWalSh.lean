/- The document's journals: Open. -/
import Derived.Test.YtgmeahogdjhejaaGreatDoorWalSg
import Derived.Deep.CutBlock
import Derived.Test.YtgmeahogdjhejaaGreatDoorSym
import Derived.Test.YtgmeahogdjhejaaGreatDoorSymV
namespace Go.Proofs.YtgmeahogdjhejaaGreatDoor
set_option linter.unusedVariables false
set_option linter.unusedSimpArgs false
open Go.RowKit Go.Shelf
open Rf (RefA)

def epR : Option Rec → Int | none => 0 | some r => r.epoch
def sqR : Option Rec → Int | none => 0 | some r => r.seq
def byR : Option Rec → List Int | none => [] | some r => r.bytes
def seR : Option Rec → Int | none => 0 | some r => r.sectors
def erR : Option Rec → Int | none => 3 | some _ => 0
def zRec : Rec := ⟨0, 0, [], 0⟩
theorem rec_none : epR none = 0 ∧ sqR none = 0 ∧ seR none = 0 ∧ erR none = 3 ∧ byR none = [] := ⟨rfl, rfl, rfl, rfl, rfl⟩
theorem rec_some (r : Rec) : epR (some r) = r.epoch ∧ sqR (some r) = r.seq ∧ seR (some r) = r.sectors ∧ erR (some r) = 0 ∧ byR (some r) = r.bytes := ⟨rfl, rfl, rfl, rfl, rfl⟩
theorem epR_get {r : Option Rec} (h : r ≠ none) : epR r = (r.getD zRec).epoch ∧ sqR r = (r.getD zRec).seq ∧ byR r = (r.getD zRec).bytes ∧ r = some (r.getD zRec) := by
  cases r with
  | none => exact absurd rfl h
  | some r => exact ⟨rfl, rfl, rfl, rfl⟩
def LiftU (r : Option Rec) (w : World) (e : Ending) (w' : World) : Prop :=
  ∃ v, e = .returned (.tuple #[.int .i64 (epR r), .int .i64 (sqR r), v, .int .i64 (seR r), .int .i64 (erR r)]) ∧ RdS (encInt .u8) 1 w' v (byR r) ∧ (∀ j, v.ownBlock = some j → w.heap.size ≤ j ∧ j < w'.heap.size) ∧ Ext0 w w'
theorem refLift_U (v : Value) (s : List Int) (w0 : World) (hr : RdS (encInt .u8) 1 w0 v s) (hb : ∀ x ∈ s, 0 ≤ x ∧ x ≤ 255) (hl : s.length ≤ 1000000) :
    Calls Tryz.prog 40 #[v] w0 (LiftU (liftP s) w0) :=
  (refLift_any v s w0 hr hb hl).mono fun e w' ⟨h, hE⟩ => by
    rcases h with ⟨r, v, h1, h2, h3, h4⟩ | ⟨h1, h2⟩
    · rw [h1]; exact ⟨v, h2, h3, h4, hE⟩
    · rw [h1]; exact ⟨.slice none 0 0, h2, RdS.nil _ _ _, fun j hj => (by cases hj), hE⟩
theorem between_drop {d : DS} {W : Int} (hf : d.Fine W) (a n k : Nat) (hk : k ≤ n) (h : a + n ≤ d.sure.length) : (d.between a n).drop (32 * k) = d.between (a + k) (n - k) := by
  have h1 : d.between a n = d.between a k ++ d.between (a + k) (n - k) := by
    unfold DS.between
    obtain ⟨m, rfl⟩ : ∃ m, n = k + m := ⟨n - k, by omega⟩
    rw [List.range_add, List.flatMap_append, Nat.add_sub_cancel_left, List.flatMap_map]
    congr 1
    rw [List.flatMap_def, List.flatMap_def]
    congr 1
    exact List.map_congr_left fun i _ => by rw [Nat.add_assoc]
  rw [h1, List.drop_left' (DS.between_len hf a k (by omega))]
def OpenR (b : Nat) (r : Option (JS × List Int × List (List Int))) (w : World) (e : Ending) (w' : World) : Prop :=
  (r = none ∧ e = .returned (.tuple #[.pointer none, .slice none 0 0, .slice none 0 0, .int .i64 15]) ∧ Ext0 w w') ∨
  ∃ j st xss jb vs vl ps, r = some (j, st, xss) ∧ e = .returned (.tuple #[.pointer (some ⟨jb, 0, none⟩), vs, vl, .int .i64 0]) ∧ ps.map (·.2) = xss ∧
    SH (fun _ => False) w w' [rowsA ps, ownA 22 1 vl ps.length (cellsOf encSl (ps.map (·.1))), pt jb (.cells (jCells b j) 54 (0, 0)), rdA vs st]
def ScanQ (b jb s l : Nat) (a : Rec) (p : Nat) (xs : List Int) (vs : Value) (w0 : World) (v22 : Value) (wr : World) : Prop :=
  ∃ (v : Value) (ps : List ((Option Addr × Nat × Nat) × List Int)) (seq : Int) (used f : Nat), v = v22 ∧ used ≤ l ∧ l ≤ f + used ∧ U32 seq ∧ ps.length ≤ used ∧
    scanP xs a.epoch l a.seq 0 = (ps.map (·.2) ++ (scanP xs a.epoch f seq used).1, (scanP xs a.epoch f seq used).2) ∧
    SH (fun _ => False) w0 wr [rowsA ps, ownA 22 1 v ps.length (cellsOf encSl (ps.map (·.1))), pt jb (.cells (jCells b ⟨s, l, a.epoch, seq, p, used, false, false⟩) 54 (0, 0)), rdA vs a.bytes]
set_option maxRecDepth 100000 in
set_option maxHeartbeats 8000000 in

theorem refOpen_any {b : Nat} {S : Nat → Prop} {d : DS} {W0 : Int} (w0 : World) (h : (RefA b S d).says w0) (hf : d.Fine W0) (s l : Nat) (hmay : mayP d.sure.length s l) :
    Calls Tryz.prog 10 #[.pointer (some ⟨b, 0, none⟩), .int .i64 s, .int .i64 l] w0 (OpenR b (openP d s l) w0) := by
  have H : SH (fun _ => False) w0 w0 [] := SH.nil _ _
  have hlen := hf.len
  have hms : 2 * s + l ≤ d.sure.length := by have := hmay.2.2.2.2; omega
  have hs1 : 1 ≤ s ∧ 1 ≤ l := by have := hmay.1; have := hmay.2.1; omega
  have hdis : ∀ w : World, Ext0 w0 w → (RefA b S d).says w := fun w hE => (RefA b S d).keep w0 w (fun j hj => hE.block j (Rf.RefA.lt h j hj) (fun e => e)) h
  have hm := refMay_any h hf.len (s : Int) (l : Int)
  rw [decide_eq_true hmay] at hm
  have hbt := fun (a n : Nat) (p q : Int) (hp : p = (a : Int)) (hq : q = ((a + n : Nat) : Int)) (han : a + n ≤ d.sure.length) {w : World} (hE : Ext0 w0 w) => refBetween_any w (hdis w hE) hf a n p q hp hq han
  have hb1 := fun {w : World} (hE : Ext0 w0 w) => hbt 0 s 0 (s : Int) rfl (by omega) (by omega) hE
  have hb2 := fun {w : World} (hE : Ext0 w0 w) => hbt s s (s : Int) (2 * (s : Int)) rfl (by omega) (by omega) hE
  have hl1 := fun {w : World} {v : Value} (hr : RdS (encInt .u8) 1 w v (d.between 0 s)) => refLift_U v _ w hr (DS.between_bytes hf 0 s (by omega)) (by rw [DS.between_len hf 0 s (by omega)]; omega)
  have hl2 := fun {w : World} {v : Value} (hr : RdS (encInt .u8) 1 w v (d.between s s)) => refLift_U v _ w hr (DS.between_bytes hf s s (by omega)) (by rw [DS.between_len hf s s (by omega)]; omega)
  have hbl1 := DS.between_len hf 0 s (by omega)
  have hbl2 := DS.between_len hf s s (by omega)
  have hlf1 := fun r (h : liftP (d.between 0 s) = some r) => lift_facts (DS.between_bytes hf 0 s (by omega)) h
  have hlf2 := fun r (h : liftP (d.between s s) = some r) => lift_facts (DS.between_bytes hf s s (by omega)) h
  have hbest : bestP d s = match liftP (d.between 0 s), liftP (d.between s s) with
    | none, none => none
    | some a, none => some (a, 0)
    | none, some b => some (b, 1)
    | some a, some b => if a.epoch < b.epoch then some (b, 1) else some (a, 0) := rfl
  obtain ⟨xs1, hxs1⟩ : ∃ xs, d.between 0 s = xs := ⟨_, rfl⟩
  obtain ⟨xs2, hxs2⟩ : ∃ xs, d.between s s = xs := ⟨_, rfl⟩
  rw [hxs1] at hb1 hl1 hbl1 hlf1 hbest
  rw [hxs2] at hb2 hl2 hbl2 hlf2 hbest
  obtain ⟨r1, hr1⟩ : ∃ r, liftP xs1 = r := ⟨_, rfl⟩
  obtain ⟨r2, hr2⟩ : ∃ r, liftP xs2 = r := ⟨_, rfl⟩
  rw [hr1] at hl1 hlf1 hbest
  rw [hr2] at hl2 hlf2 hbest
  unfold LiftU at hl1 hl2
  have HF := Lib.hid (And.intro hf (And.intro hdis (And.intro hbt (And.intro hbest (And.intro hlf1 (And.intro hlf2 (And.intro hbl1 hbl2)))))))
  have hw2s : IntKind.i64.wrap (2 * (s : Int)) = 2 * (s : Int) := by rw [IntKind.wrap_i64]; omega
  clear hmay hf h hdis hbt hbest hlf1 hlf2 hxs1 hxs2 hr1 hr2 hbl1 hbl2
  go_enter Tryz.func10, Tryz.ntmps10
  go_upto_region 4 with (first
    | (go_at_call 32; refine hm.mono ?_; rintro e1 w1 ⟨rfl, hE⟩; replace H := H.calls hE; clear hE)
    | (go_at_call 41; refine (hb1 H.ext).mono ?_; rintro e1 w1 ⟨v, rfl, h⟩; replace H := H.cat h; clear h; simp only [List.cons_append, List.nil_append] at H; have hrd := own_rd (H.get 0 rfl) HF.out.2.2.2.2.2.2.1.symm; replace H := H.drop (L' := []) (List.nil_sublist _))
    | (go_at_call 40; refine (hl1 hrd).mono ?_; rintro e1 w1 ⟨vx, rfl, hrx, hfx, hE⟩; replace H := H.add hE (rdA vx (byR r1)) hrx hfx; clear hrx hfx hE hrd hl1))
  clear hb1 hm
  go_upto_region 5 with (first
    | (go_at_call 41; refine (hb2 H.ext).mono ?_; rintro e1 w1 ⟨v, rfl, h⟩; replace H := H.cat h; clear h; simp only [List.cons_append, List.nil_append] at H; have hrd := own_rd (H.get 0 rfl) HF.out.2.2.2.2.2.2.2.symm; replace H := H.drop (L' := [_]) (.cons _ (List.Sublist.refl _)))
    | (go_at_call 40; refine (hl2 hrd).mono ?_; rintro e1 w1 ⟨vy, rfl, hry, hfy, hE⟩; replace H := H.add hE (rdA vy (byR r2)) hry hfy; clear hry hfy hE hrd hl2))
  clear hb2
  by_cases hnn : r1 = none ∧ r2 = none
  · obtain ⟨h1, h2⟩ := hnn
    subst h1 h2
    have hop : openP d s l = none := by unfold openP; rw [HF.out.2.2.2.1]
    have HO := Lib.hid hop
    clear hop
    simp only [rec_none]
    go_wp2_with fail
    (try simp only [Exit.inBlock, Exit.then])
    refine bodyPost_ret (results_tmp4 rfl _ _ _) rfl ?_
    exact .inl ⟨HO.out, rfl, H.ext⟩
  · obtain ⟨q, hq⟩ : ∃ q : Bool, (r1.isNone || (r2.isSome && decide (epR r1 < epR r2))) = q := ⟨_, rfl⟩
    have hand : (erR r1 != 0 && erR r2 != 0) = false := by cases r1 <;> cases r2 <;> first | rfl | exact absurd ⟨rfl, rfl⟩ hnn
    have hbe : bestP d s = some (if q then (r2.getD zRec, 1) else (r1.getD zRec, 0)) := by
      rw [HF.out.2.2.2.1, ← hq]
      cases r1 with
      | none =>
        cases r2 with
        | none => exact absurd ⟨rfl, rfl⟩ hnn
        | some b => rfl
      | some a =>
        cases r2 with
        | none => rfl
        | some b =>
          show (if a.epoch < b.epoch then _ else _) = some (if (decide (a.epoch < b.epoch)) = true then _ else _)
          by_cases hlt : a.epoch < b.epoch
          · rw [if_pos hlt, decide_eq_true hlt]; rfl
          · rw [if_neg hlt, decide_eq_false hlt]; rfl
    have HB := Lib.hid (And.intro hbe (And.intro hq hnn))
    clear hbe
    go_step
    refine L_take (v := ?_) rfl (by rfl) ?_ ?_
    rotate_left; (focus (first | (go_simp; done) | (go_simp; with_reducible rfl) | (go_simp; rfl))); all_goals skip; (try simp only [List.set_cons_succ, List.set_cons_zero])
    refine L_takeB (q := ?_) rfl (by rfl) ?_ ?_
    rotate_left; (focus (first | (go_simp; done) | (go_simp; with_reducible rfl) | (go_simp; rfl))); all_goals skip; (try simp only [List.set_cons_succ, List.set_cons_zero])
    intro ca1 Hca1
    refine L_take (v := ?_) rfl (by rfl) ?_ ?_
    rotate_left; (focus (first | (go_simp; done) | (go_simp; with_reducible rfl) | (go_simp; rfl))); all_goals skip; (try simp only [List.set_cons_succ, List.set_cons_zero])
    refine L_maybe ca1 (v := ?_) rfl (by cases ca1 <;> rfl) ?_ ?_
    rotate_left; (focus (intro hb; (try simp only [Bool.and_eq_true, Bool.not_eq_true'] at hb); have hb0 := hb; (try simp only [hb0, Bool.not_false, Bool.not_true, Bool.and_true, Bool.true_and, Bool.and_self, cond_true, cond_false]); first | (go_simp; done) | (go_simp; with_reducible rfl) | (go_simp; rfl))); all_goals skip; (try simp only [List.set_cons_succ, List.set_cons_zero])
    refine L_maybeB ca1 (q := ?_) rfl (by cases ca1 <;> rfl) ?_ ?_
    rotate_left; (focus (intro hb; (try simp only [Bool.and_eq_true, Bool.not_eq_true'] at hb); have hb0 := hb; (try simp only [hb0, Bool.not_false, Bool.not_true, Bool.and_true, Bool.true_and, Bool.and_self, cond_true, cond_false]); first | (go_simp; done) | (go_simp; with_reducible rfl) | (go_simp; rfl))); all_goals skip; (try simp only [List.set_cons_succ, List.set_cons_zero])
    intro ca4 Hca4
    refine L_takeB (q := (ca1 && ca4)) rfl (by rfl) ?_ ?_
    (focus (cases ca1 <;> cases ca4 <;> (first | (go_simp; done) | (go_simp; with_reducible rfl) | (go_simp; rfl)))); all_goals skip; (try simp only [List.set_cons_succ, List.set_cons_zero])
    intro ca5 Hca5
    have hfin := Hca5.out
    simp only [Hca1.out, Hca4.out] at hfin
    replace hfin := Lib.hid hfin
    clear Hca5 Hca1 Hca4
    have h5 : ca5 = false := by
      rw [hfin.out]
      cases r1 <;> cases r2 <;> first | rfl | exact absurd ⟨rfl, rfl⟩ hnn
    subst h5
    clear hfin hand
    go_upto_region 9 with (first
      | (refine L_box (cs := #[.pointer (some ⟨b, 0, none⟩), .int .i64 (s : Int), .int .i64 (l : Int), .int .i64 (epR r1), .int .i64 (sqR r1), .int .i64 0, .int .i64 0, .bool false, .bool false]) rfl rfl H rfl rfl ?_; clear H; intro jb w H; (try simp only [Act.put, List.setIfInBounds_toArray, List.set_cons_succ, List.set_cons_zero, List.getElem_toArray, List.getElem_cons_succ, List.getElem_cons_zero])))
    go_step
    refine L_take (v := ?_) rfl (by rfl) ?_ ?_
    rotate_left; (focus (first | (go_simp; done) | (go_simp; with_reducible rfl) | (go_simp; rfl))); all_goals skip; (try simp only [List.set_cons_succ, List.set_cons_zero])
    refine L_takeB (q := ?_) rfl (by rfl) ?_ ?_
    rotate_left; (focus (first | (go_simp; done) | (go_simp; with_reducible rfl) | (go_simp; rfl))); all_goals skip; (try simp only [List.set_cons_succ, List.set_cons_zero])
    intro cb1 Hcb1
    refine L_take (v := ?_) rfl (by rfl) ?_ ?_
    rotate_left; (focus (first | (go_simp; done) | (go_simp; with_reducible rfl) | (go_simp; rfl))); all_goals skip; (try simp only [List.set_cons_succ, List.set_cons_zero])
    refine L_maybe (!cb1) (v := ?_) rfl (by cases cb1 <;> rfl) ?_ ?_
    rotate_left; (focus (intro hb; (try simp only [Bool.and_eq_true, Bool.not_eq_true'] at hb); have hb0 := hb; (try simp only [hb0, Bool.not_false, Bool.not_true, Bool.and_true, Bool.true_and, Bool.and_self, cond_true, cond_false]); first | (go_simp; done) | (go_simp; with_reducible rfl) | (go_simp; rfl))); all_goals skip; (try simp only [List.set_cons_succ, List.set_cons_zero])
    refine L_maybeB (!cb1) (q := ?_) rfl (by cases cb1 <;> rfl) ?_ ?_
    rotate_left; (focus (intro hb; (try simp only [Bool.and_eq_true, Bool.not_eq_true'] at hb); have hb0 := hb; (try simp only [hb0, Bool.not_false, Bool.not_true, Bool.and_true, Bool.true_and, Bool.and_self, cond_true, cond_false]); first | (go_simp; done) | (go_simp; with_reducible rfl) | (go_simp; rfl))); all_goals skip; (try simp only [List.set_cons_succ, List.set_cons_zero])
    intro cb4 Hcb4
    refine L_maybe (!cb1) (v := ?_) rfl (by cases cb1 <;> rfl) ?_ ?_
    rotate_left; (focus (intro hb; (try simp only [Bool.and_eq_true, Bool.not_eq_true'] at hb); have hb0 := hb; (try simp only [hb0, Bool.not_false, Bool.not_true, Bool.and_true, Bool.true_and, Bool.and_self, cond_true, cond_false]); first | (go_simp; done) | (go_simp; with_reducible rfl) | (go_simp; rfl))); all_goals skip; (try simp only [List.set_cons_succ, List.set_cons_zero])
    refine L_maybe ((!cb1) && cb4) (v := ?_) rfl (by cases cb1 <;> cases cb4 <;> rfl) ?_ ?_
    rotate_left; (focus (intro hb; (try simp only [Bool.and_eq_true, Bool.not_eq_true'] at hb); obtain ⟨hb0, hb1⟩ := hb; (try simp only [hb0, hb1, Bool.not_false, Bool.not_true, Bool.and_true, Bool.true_and, Bool.and_self, cond_true, cond_false]); first | (go_simp; done) | (go_simp; with_reducible rfl) | (go_simp; rfl))); all_goals skip; (try simp only [List.set_cons_succ, List.set_cons_zero])
    refine L_maybe ((!cb1) && cb4) (v := ?_) rfl (by cases cb1 <;> cases cb4 <;> rfl) ?_ ?_
    rotate_left; (focus (intro hb; (try simp only [Bool.and_eq_true, Bool.not_eq_true'] at hb); obtain ⟨hb0, hb1⟩ := hb; (try simp only [hb0, hb1, Bool.not_false, Bool.not_true, Bool.and_true, Bool.true_and, Bool.and_self, cond_true, cond_false]); first | (go_simp; done) | (go_simp; with_reducible rfl) | (go_simp; rfl))); all_goals skip; (try simp only [List.set_cons_succ, List.set_cons_zero])
    refine L_maybeB ((!cb1) && cb4) (q := ?_) rfl (by cases cb1 <;> cases cb4 <;> rfl) ?_ ?_
    rotate_left; (focus (intro hb; (try simp only [Bool.and_eq_true, Bool.not_eq_true'] at hb); obtain ⟨hb0, hb1⟩ := hb; (try simp only [hb0, hb1, Bool.not_false, Bool.not_true, Bool.and_true, Bool.true_and, Bool.and_self, cond_true, cond_false]); first | (go_simp; done) | (go_simp; with_reducible rfl) | (go_simp; rfl))); all_goals skip; (try simp only [List.set_cons_succ, List.set_cons_zero])
    intro cb8 Hcb8
    refine L_maybeB (!cb1) (q := (cb4 && cb8)) rfl (by cases cb1 <;> rfl) ?_ ?_
    (focus (intro hb; cases cb1 <;> cases cb4 <;> cases cb8 <;> first | (exact absurd hb (by decide)) | (first | (go_simp; done) | (go_simp; with_reducible rfl) | (go_simp; rfl)))); all_goals skip; (try simp only [List.set_cons_succ, List.set_cons_zero])
    intro cb9 Hcb9
    refine L_takeB (q := (cb1 || cb9)) rfl (by rfl) ?_ ?_
    (focus (cases cb1 <;> cases cb9 <;> (first | (go_simp; done) | (go_simp; with_reducible rfl) | (go_simp; rfl)))); all_goals skip; (try simp only [List.set_cons_succ, List.set_cons_zero])
    intro cb10 Hcb10
    have hfin := Hcb10.out
    simp only [Hcb9.out, Hcb1.out, Hcb4.out, Hcb8.out] at hfin
    replace hfin := Lib.hid hfin
    clear Hcb9 Hcb10 Hcb1 Hcb4 Hcb8
    have h9 : cb10 = q := by
      rw [hfin.out, ← HB.out.2.1]
      cases r1 <;> cases r2 <;> rfl
    subst h9
    clear hfin
    go_upto_if 79 with fail
    go_cut [20, 21] from 10 to 92 (fun s20 s21 wc => ∃ (a : Rec) (p : Nat) (vs : Value), vs = s21 ∧ s20 = .pointer (some ⟨jb, 0, none⟩) ∧ bestP d s = some (a, p) ∧ U32 a.epoch ∧ U32 a.seq ∧ p ≤ 1 ∧ SH (fun _ => False) w0 wc [pt jb (.cells (jCells b ⟨s, l, a.epoch, a.seq, p, 0, false, false⟩) 54 (0, 0)), rdA vs a.bytes])
    case first =>
      cases cb10
      · have hne : r1 ≠ none := fun h => by
          have h8 := HB.out.2.1
          rw [h] at h8
          cases h8
        obtain ⟨h1, h2, h3, h4⟩ := epR_get hne
        have hfa := HF.out.2.2.2.2.1 _ h4
        have HG := Lib.hid (And.intro HB.out.1 (And.intro hfa (And.intro h1 (And.intro h2 h3))))
        clear h1 h2 h3 h4 hfa HB HF
        go_wp2_with fail
        go_meet
        case rel =>
          have h9 := H.drop (L' := [_, _]) (.cons_cons _ (.cons _ (.cons_cons _ .slnil)))
          rw [HG.out.2.2.1, HG.out.2.2.2.1, HG.out.2.2.2.2] at h9
          exact ⟨r1.getD zRec, 0, vx, rfl, rfl, HG.out.1, HG.out.2.1.1, HG.out.2.1.2.1, by omega, h9⟩
      · have hne : r2 ≠ none := fun h => by
          have h8 := HB.out.2.1
          have h7 := HB.out.2.2
          rw [h] at h8 h7
          cases r1 with
          | none => exact h7 ⟨rfl, rfl⟩
          | some a => cases h8
        obtain ⟨h1, h2, h3, h4⟩ := epR_get hne
        have hfa := HF.out.2.2.2.2.2.1 _ h4
        have HG := Lib.hid (And.intro HB.out.1 (And.intro hfa (And.intro h1 (And.intro h2 h3))))
        clear h1 h2 h3 h4 hfa HB HF
        go_wp2_with (first
          | (refine L_store1 rfl rfl H 0 rfl rfl rfl rfl rfl (Nat.le_of_ble_eq_true rfl) Tryz.sizeOf3 ?_; clear H; intro w H; simp only [List.set_cons_zero, List.set_cons_succ, List.setIfInBounds_toArray, Act.eval, Array.getD_eq_getD_getElem?, List.getElem?_toArray, List.getElem?_cons_succ, List.getElem?_cons_zero, Option.getD_some] at H; (try simp only [Act.put, List.setIfInBounds_toArray, List.set_cons_succ, List.set_cons_zero, List.getElem_toArray, List.getElem_cons_succ, List.getElem_cons_zero])))
        go_meet
        case rel =>
          have h9 := H.drop (L' := [_, _]) (.cons_cons _ (.cons_cons _ (.cons _ .slnil)))
          rw [HG.out.2.2.1, HG.out.2.2.2.1, HG.out.2.2.2.2] at h9
          exact ⟨r2.getD zRec, 1, vy, rfl, rfl, HG.out.1, HG.out.2.1.1, HG.out.2.1.2.1, by omega, h9⟩
    case rest =>
      obtain ⟨a, p, vs, rfl, rfl, hbest, hU1, hU2, hp1, H⟩ := hcut
      have hop : openP d s l = some (⟨s, l, a.epoch, (scanP (d.between (2 * s) l) a.epoch l a.seq 0).2.1, p, (scanP (d.between (2 * s) l) a.epoch l a.seq 0).2.2, false, false⟩, a.bytes, (scanP (d.between (2 * s) l) a.epoch l a.seq 0).1) := by unfold openP; rw [hbest]
      have hbl := DS.between_len HF.out.1 (2 * s) l hms
      have hbb := DS.between_bytes HF.out.1 (2 * s) l hms
      have hbd := fun k hk => between_drop HF.out.1 (2 * s) l k hk hms
      obtain ⟨xs, hxs⟩ : ∃ xs, d.between (2 * s) l = xs := ⟨_, rfl⟩
      rw [hxs] at hbl hbb hop
      simp only [hxs] at hbd
      have HX := Lib.hid (And.intro hbl (And.intro hbb (And.intro hop (And.intro hbd (And.intro hU1 hp1)))))
      clear hbl hbb hop hbd hU1 hp1 hxs hbest HB hnn
      go_upto_region 12 with (first
        | ((refine L_lit (e := ?_) (cs := ?_) rfl rfl H ?_ ?_; rotate_left 2; (focus (intro _; first | (go_simp; done) | (go_simp; with_reducible rfl) | (go_simp; rfl))); all_goals skip; clear H; intro g w H; (try simp only [Act.put, List.setIfInBounds_toArray, List.set_cons_succ, List.set_cons_zero, List.getElem_toArray, List.getElem_cons_succ, List.getElem_cons_zero])); replace H := H.toOwn 0 rfl 1 0 0 (Nat.le_refl _) (Nat.zero_le _) rfl [] rfl; simp only [List.set_cons_zero] at H))
      have hst : ScanQ b jb s l a p xs vs w0 (.slice (some ⟨g, 0, none⟩) 0 0) w := ⟨_, [], a.seq, 0, l, rfl, Nat.zero_le _, Nat.le_refl _, hU2, Nat.le_refl _, rfl, H.rowsNil⟩
      clear H hU2
      go_loopw [22] (fun v22 wr => ScanQ b jb s l a p xs vs w0 v22 wr) (fun vi _ => match vi with | .slice _ n _ => 5000 - n | _ => 5000)
      case atStart => exact hst
      case round =>
        clear hst
        obtain ⟨vl, ps, seq, used, f, rfl, hul, hlf, hU, hpu, hsc, H⟩ := hrel
        obtain ⟨Al, cl, rfl⟩ := own_slice (H.get 1 rfl)
        have hys := HX.out.2.2.2.1 used hul
        obtain ⟨ys, hye⟩ : ∃ ys, xs.drop (32 * used) = ys := ⟨_, rfl⟩
        rw [hye] at hys
        have hyl : ys.length = 32 * (l - used) := by rw [← hye, List.length_drop, HX.out.1]; omega
        have hyb : ∀ x ∈ ys, 0 ≤ x ∧ x ≤ 255 := fun x hx => by rw [← hye] at hx; exact HX.out.2.1 x (List.mem_of_mem_drop hx)
        obtain ⟨p1, hp1⟩ : ∃ p1, 2 * s + used = p1 := ⟨_, rfl⟩
        obtain ⟨p2, hp2⟩ : ∃ p2, 2 * s + l = p2 := ⟨_, rfl⟩
        have hw1 : IntKind.i64.wrap (2 * (s : Int) + (used : Int)) = (p1 : Int) := by rw [IntKind.wrap_i64]; omega
        have hw2 : IntKind.i64.wrap (2 * (s : Int) + (l : Int)) = (p2 : Int) := by rw [IntKind.wrap_i64]; omega
        have hbtw := fun {w : World} (hE : Ext0 w0 w) => HF.out.2.2.1 (2 * s + used) (l - used) (p1 : Int) (p2 : Int) (by omega) (by omega) (by omega) hE
        rw [← hys] at hbtw
        have hlift := fun {w : World} {v : Value} (hr : RdS (encInt .u8) 1 w v ys) => refLift_U v ys w hr hyb (by omega)
        obtain ⟨rl, hrl⟩ : ∃ rl, liftP ys = rl := ⟨_, rfl⟩
        rw [hrl] at hlift
        unfold LiftU at hlift
        have hl4 : l ≤ 4096 := by omega
        have hend : ∀ W, SH (fun _ => False) w0 W [rowsA ps, ownA 22 1 (.slice Al ps.length cl) ps.length (cellsOf encSl (ps.map (·.1))), pt jb (.cells (jCells b ⟨s, l, a.epoch, seq, p, used, false, false⟩) 54 (0, 0)), rdA vs a.bytes] → (∀ r, liftP ys = some r → ¬ (r.epoch = a.epoch ∧ r.seq = seq + 1)) → OpenR b (openP d s l) w0 (.returned (.tuple #[.pointer (some ⟨jb, 0, none⟩), vs, .slice Al ps.length cl, .int .i64 0])) W := fun W hW hno => by
          have h1 : scanP xs a.epoch l a.seq 0 = (ps.map (·.2), seq, used) := by
            rw [hsc, scan_end (by rw [hye]; exact hno), List.append_nil]
          refine .inr ⟨⟨s, l, a.epoch, seq, p, used, false, false⟩, a.bytes, ps.map (·.2), jb, vs, _, ps, ?_, rfl, rfl, hW⟩
          rw [HX.out.2.2.1, h1]
        have hyn := hyl.symm
        have HRET := Lib.hid hend
        have HY := Lib.hid (And.intro hye (And.intro hyl (And.intro hyb (And.intro hU (And.intro hsc (And.intro hlf hul))))))
        clear hend hye hyl hyb hsc hys hp1 hp2 hlf hul
        simp only [jCells] at H
        go_upto_region 13 with (first
          | (go_at_call 41; refine (hbtw H.ext).mono ?_; rintro e1 w1 ⟨v, rfl, h⟩; replace H := H.cat h; clear h; simp only [List.cons_append, List.nil_append] at H; have hrd := own_rd (H.get 0 rfl) hyn; replace H := H.drop (L' := [_, _, _, _]) (.cons _ (List.Sublist.refl _)))
          | (refine L_load1 rfl rfl H 0 rfl rfl rfl Tryz.isAgg3 ?_; (try simp only [Act.put, List.setIfInBounds_toArray, List.set_cons_succ, List.set_cons_zero, List.getElem_toArray, List.getElem_cons_succ, List.getElem_cons_zero])) | (refine L_load1 rfl rfl H 1 rfl rfl rfl Tryz.isAgg3 ?_; (try simp only [Act.put, List.setIfInBounds_toArray, List.set_cons_succ, List.set_cons_zero, List.getElem_toArray, List.getElem_cons_succ, List.getElem_cons_zero])) | (refine L_load1 rfl rfl H 2 rfl rfl rfl Tryz.isAgg3 ?_; (try simp only [Act.put, List.setIfInBounds_toArray, List.set_cons_succ, List.set_cons_zero, List.getElem_toArray, List.getElem_cons_succ, List.getElem_cons_zero])) | (refine L_load1 rfl rfl H 3 rfl rfl rfl Tryz.isAgg3 ?_; (try simp only [Act.put, List.setIfInBounds_toArray, List.set_cons_succ, List.set_cons_zero, List.getElem_toArray, List.getElem_cons_succ, List.getElem_cons_zero]))
          | (go_at_call 40; refine (hlift hrd).mono ?_; rintro e1 w1 ⟨vz, rfl, hrz, hfz, hE⟩))
        clear hbtw hlift hrd
        cases rl with
        | none =>
          have HE := Lib.hid (show ∀ r, liftP ys = some r → ¬ (r.epoch = a.epoch ∧ r.seq = seq + 1) from fun r h => by rw [hrl] at h; cases h)
          clear hrl
          replace H := H.calls hE
          clear hE hrz hfz
          simp only [rec_none]
          go_wp2_with fail
          (try simp only [Exit.inBlock, Exit.then])
          refine bodyPost_ret (results_tmp4 rfl _ _ _) rfl ?_
          exact HRET.out _ H HE.out
        | some r =>
          simp only [rec_some] at hrz ⊢
          have hfa := lift_facts HY.out.2.2.1 hrl
          have hws : IntKind.i64.wrap (r.seq - seq) = r.seq - seq := by rw [IntKind.wrap_i64]; have := hfa.2.1; have := hU; unfold U32 at *; omega
          by_cases he : r.epoch = a.epoch
          · by_cases hq : r.seq = seq + 1
            · have hq2 : r.seq - seq = 1 := by omega
              obtain ⟨Ab, cb, rfl, hcb⟩ := hrz.len
              replace H := H.addRow hE (Ab, r.bytes.length, cb) r.bytes hrz hfz
              clear hE hrz hfz hcb
              obtain ⟨k, hk⟩ : ∃ k, r.sectors = k := ⟨_, rfl⟩
              rw [hk] at hfa ⊢
              have hk1 : 1 ≤ k := by rw [hfa.2.2.2.1]; unfold countP; omega
              have hk2 : 32 * k ≤ ys.length := hfa.2.2.2.2.1
              rw [HY.out.2.1] at hk2
              have huk : used + k ≤ l := by have := HY.out.2.2.2.2.2.2; omega
              obtain ⟨u', hu'⟩ : ∃ u', used + k = u' := ⟨_, rfl⟩
              have hw7 : IntKind.i64.wrap ((used : Int) + (k : Int)) = (u' : Int) := by rw [IntKind.wrap_i64]; omega
              have hsc2 : scanP xs a.epoch l a.seq 0 = ((ps ++ [((Ab, r.bytes.length, cb), r.bytes)]).map (·.2) ++ (scanP xs a.epoch (f - 1) (seq + 1) u').1, (scanP xs a.epoch (f - 1) (seq + 1) u').2) := by
                have hff : f = (f - 1) + 1 := by have := HY.out.2.2.2.2.2.1; omega
                rw [HY.out.2.2.2.2.1, hff, scan_more (by rw [HY.out.1]; exact hrl) he hq, hk, hu', Nat.add_sub_cancel]
                simp [List.append_assoc]
              have hfu : u' ≤ l ∧ l ≤ f - 1 + u' ∧ ps.length + 1 ≤ u' ∧ ps.length < 5000 := by have := HY.out.2.2.2.2.2; omega
              rw [← hq] at hsc2
              have HN := Lib.hid (And.intro hsc2 (And.intro hfu hfa))
              have hb1 : (ps.length + [((none, 0, 0) : Option Addr × Nat × Nat)].length) * 24 ≤ 140737488355328 := by simp only [List.length_cons, List.length_nil]; omega
              have hm1 : ps.length + [((none, 0, 0) : Option Addr × Nat × Nat)].length ≤ maxLen := by simp only [maxLen, List.length_cons, List.length_nil]; omega
              have hc3 := cell_of_row _ jb 3 _ _ _ (H.at_ 2 rfl)
              have hc4 := cell_of_row _ jb 4 _ _ _ (H.at_ 2 rfl)
              simp only [List.getElem?_toArray, List.getElem?_cons_succ, List.getElem?_cons_zero] at hc3 hc4
              clear hrl hfa hk1 hk2 huk hu' hsc2 hfu hk hq
              go_upto_region 15 with fail
              clear hc3 hc4 he hws hq2
              go_wp2_with (first
                | (refine L_load1 rfl rfl H 0 rfl rfl rfl Tryz.isAgg3 ?_; (try simp only [Act.put, List.setIfInBounds_toArray, List.set_cons_succ, List.set_cons_zero, List.getElem_toArray, List.getElem_cons_succ, List.getElem_cons_zero])) | (refine L_load1 rfl rfl H 1 rfl rfl rfl Tryz.isAgg3 ?_; (try simp only [Act.put, List.setIfInBounds_toArray, List.set_cons_succ, List.set_cons_zero, List.getElem_toArray, List.getElem_cons_succ, List.getElem_cons_zero])) | (refine L_load1 rfl rfl H 2 rfl rfl rfl Tryz.isAgg3 ?_; (try simp only [Act.put, List.setIfInBounds_toArray, List.set_cons_succ, List.set_cons_zero, List.getElem_toArray, List.getElem_cons_succ, List.getElem_cons_zero])) | (refine L_load1 rfl rfl H 3 rfl rfl rfl Tryz.isAgg3 ?_; (try simp only [Act.put, List.setIfInBounds_toArray, List.set_cons_succ, List.set_cons_zero, List.getElem_toArray, List.getElem_cons_succ, List.getElem_cons_zero])) | (refine L_store1 rfl rfl H 0 rfl rfl rfl rfl rfl (Nat.le_of_ble_eq_true rfl) Tryz.sizeOf3 ?_; clear H; intro w H; simp only [List.set_cons_zero, List.set_cons_succ, List.setIfInBounds_toArray, Act.eval, Array.getD_eq_getD_getElem?, List.getElem?_toArray, List.getElem?_cons_succ, List.getElem?_cons_zero, Option.getD_some] at H; (try simp only [Act.put, List.setIfInBounds_toArray, List.set_cons_succ, List.set_cons_zero, List.getElem_toArray, List.getElem_cons_succ, List.getElem_cons_zero])) | (refine L_store1 rfl rfl H 1 rfl rfl rfl rfl rfl (Nat.le_of_ble_eq_true rfl) Tryz.sizeOf3 ?_; clear H; intro w H; simp only [List.set_cons_zero, List.set_cons_succ, List.setIfInBounds_toArray, Act.eval, Array.getD_eq_getD_getElem?, List.getElem?_toArray, List.getElem?_cons_succ, List.getElem?_cons_zero, Option.getD_some] at H; (try simp only [Act.put, List.setIfInBounds_toArray, List.set_cons_succ, List.set_cons_zero, List.getElem_toArray, List.getElem_cons_succ, List.getElem_cons_zero])) | (refine L_store1 rfl rfl H 2 rfl rfl rfl rfl rfl (Nat.le_of_ble_eq_true rfl) Tryz.sizeOf3 ?_; clear H; intro w H; simp only [List.set_cons_zero, List.set_cons_succ, List.setIfInBounds_toArray, Act.eval, Array.getD_eq_getD_getElem?, List.getElem?_toArray, List.getElem?_cons_succ, List.getElem?_cons_zero, Option.getD_some] at H; (try simp only [Act.put, List.setIfInBounds_toArray, List.set_cons_succ, List.set_cons_zero, List.getElem_toArray, List.getElem_cons_succ, List.getElem_cons_zero])) | (refine L_store1 rfl rfl H 3 rfl rfl rfl rfl rfl (Nat.le_of_ble_eq_true rfl) Tryz.sizeOf3 ?_; clear H; intro w H; simp only [List.set_cons_zero, List.set_cons_succ, List.setIfInBounds_toArray, Act.eval, Array.getD_eq_getD_getElem?, List.getElem?_toArray, List.getElem?_cons_succ, List.getElem?_cons_zero, Option.getD_some] at H; (try simp only [Act.put, List.setIfInBounds_toArray, List.set_cons_succ, List.set_cons_zero, List.getElem_toArray, List.getElem_cons_succ, List.getElem_cons_zero])) | (refine L_lit (e := ?_) (cs := ?_) rfl rfl H ?_ ?_; rotate_left 2; (focus (intro _; first | (go_simp; done) | (go_simp; with_reducible rfl) | (go_simp; rfl))); all_goals skip; clear H; intro g w H; (try simp only [Act.put, List.setIfInBounds_toArray, List.set_cons_succ, List.set_cons_zero, List.getElem_toArray, List.getElem_cons_succ, List.getElem_cons_zero]))
                | (refine L_append (ys := [(Ab, r.bytes.length, cb)]) encSl_len encSl_one rfl rfl Tryz.underlying33 infoSl rfl (Nat.le_refl _) H 2 rfl rfl rfl (one_part (Ab, r.bytes.length, cb) (H.at_ 0 rfl)) hb1 hm1 ?_; clear H; intro v2 w H hnn; clear hnn; simp only [List.set_cons_succ, List.set_cons_zero] at H))
              obtain ⟨A7, c7, rfl⟩ := own_slice (H.get 2 rfl)
              go_roundw
              case rel =>
                refine ⟨_, ps ++ [((Ab, r.bytes.length, cb), r.bytes)], r.seq, u', f - 1, rfl, HN.out.2.1.1, HN.out.2.1.2.1, HN.out.2.2.2.1, ?_, HN.out.1, ?_⟩
                · rw [List.length_append]; exact HN.out.2.1.2.2.1
                · have h9 := H.drop (.cons _ (List.Sublist.refl _))
                  rw [List.length_append, List.map_append, cellsOf_append]
                  exact h9
              case measure => have := HN.out.2.1.2.2.2; show 5000 - (ps.length + 1) < 5000 - ps.length; omega
            · have hq2 : (r.seq - seq == 1) = false := by simp; omega
              have hq3 : ¬ r.seq - seq = 1 := by omega
              have HE := Lib.hid (show ∀ r, liftP ys = some r → ¬ (r.epoch = a.epoch ∧ r.seq = seq + 1) from fun r' h => by rw [hrl] at h; cases h; exact fun h => hq h.2)
              clear hrl hfa hq
              replace H := H.calls hE
              clear hE hrz hfz
              have hc3 := cell_of_row _ jb 3 _ _ _ (H.at_ 2 rfl)
              have hc4 := cell_of_row _ jb 4 _ _ _ (H.at_ 2 rfl)
              simp only [List.getElem?_toArray, List.getElem?_cons_succ, List.getElem?_cons_zero] at hc3 hc4
              go_wp2_with fail
              (try simp only [Exit.inBlock, Exit.then])
              refine bodyPost_ret (results_tmp4 rfl _ _ _) rfl ?_
              exact HRET.out _ H HE.out
          · have he2 : (r.epoch == a.epoch) = false := by simp [he]
            have HE := Lib.hid (show ∀ r, liftP ys = some r → ¬ (r.epoch = a.epoch ∧ r.seq = seq + 1) from fun r' h => by rw [hrl] at h; cases h; exact fun h => he h.1)
            clear hrl hfa
            replace H := H.calls hE
            clear hE hrz hfz
            have hc3 := cell_of_row _ jb 3 _ _ _ (H.at_ 2 rfl)
            have hc4 := cell_of_row _ jb 4 _ _ _ (H.at_ 2 rfl)
            simp only [List.getElem?_toArray, List.getElem?_cons_succ, List.getElem?_cons_zero] at hc3 hc4
            go_wp2_with fail
            (try simp only [Exit.inBlock, Exit.then])
            refine bodyPost_ret (results_tmp4 rfl _ _ _) rfl ?_
            exact HRET.out _ H HE.out
end Go.Proofs.YtgmeahogdjhejaaGreatDoor
