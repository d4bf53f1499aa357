/- Tables: the document's Good walked. -/
import Derived.Test.YtoaieodcdbbndaaTabO
import Derived.Test.YtoaieodcdbbndaaTabV
import Derived.Test.YtoaieodcdbbndaaTabW
import Derived.Test.YtoaieodcdbbndaaSym
namespace Go.Proofs.Ytoaieodcdbbndaa
set_option linter.unusedVariables false
set_option linter.unusedSimpArgs false
open Go.RowKit

/-- A block as the document wants it. -/
def blkR (t : Tab) (k : Nat) (b : Blk) : Prop := (k = 0 → b.id = 0) ∧ blkP t k b
def headR (t : Tab) : Prop := ((t.phase = 0 ∧ t.old = 0 ∧ t.mode = 0) ∨ ((t.phase = 1 ∨ t.phase = 2) ∧ 1 ≤ t.old ∧ 2 ≤ t.epoch ∧ t.old = wrap64 (t.epoch - 1) ∧ (t.mode = 1 ∨ t.mode = 2))) ∧ (1 ≤ t.epoch ∧ t.epoch ≤ 1048576) ∧ (1 ≤ t.next ∧ t.next ≤ 1099511627776) ∧ (1 ≤ t.gen ∧ t.gen ≤ 1099511627776) ∧ (1 ≤ t.bs.length ∧ t.bs.length ≤ 12)
theorem goodP_ref (t : Tab) (n : Int) : goodP t n ↔ headR t ∧ (∀ k b, t.bs[k]? = some b → blkR t k b) ∧ goodB (spansP t.bs) n = true := by
  unfold goodP headP headR epochsP blkR
  constructor
  · rintro ⟨⟨he, h1, h2, h3, h4, h0⟩, hb, hg⟩
    refine ⟨⟨?_, h1, h2, h3, h4⟩, fun k b hk => ⟨fun h => h0 b (by rw [← h]; exact hk), hb k b hk⟩, hg⟩
    rcases he with he | ⟨a, b, c, d, e⟩
    · exact .inl he
    · refine .inr ⟨a, c, ?_, b, by omega⟩
      have : wrap64 (t.epoch - 1) = t.epoch - 1 := by rw [← IntWalk.i64_left, IntKind.wrap_i64]; omega
      omega
  · rintro ⟨⟨he, h1, h2, h3, h4⟩, hb, hg⟩
    refine ⟨⟨?_, h1, h2, h3, h4, fun b h => (hb 0 b h).1 rfl⟩, fun k b hk => (hb k b hk).2, hg⟩
    rcases he with he | ⟨a, c, e, b, d⟩
    · exact .inl he
    · exact .inr ⟨a, b, c, by omega, by omega⟩
def RGoodRel (g : Nat) (cells : Array Value) (t : Tab) (w0 : World) (vi : Value) (wr : World) : Prop :=
  ∃ k : Nat, vi = .int .i64 (k : Int) ∧ k ≤ t.bs.length ∧ SH (fun _ => False) w0 wr [pt g (.cells cells 24 (0, 0))] ∧ Hid (∀ j b, j < k → t.bs[j]? = some b → blkR t j b)
def SizeRel (size : Int) (wS : World) (vs vn : Value) (wr : World) : Prop :=
  ∃ (m : Nat) (s : Bool), vn = .int .i64 (m : Int) ∧ vs = .bool s ∧ m ≤ 1026 ∧ Hid (s = true ↔ ∃ i : Nat, i < m ∧ size = 88 + ((i / 16 * 16 : Nat) : Int)) ∧ wr = wS
theorem size_all (size : Int) : (∃ i : Nat, i < 1026 ∧ size = 88 + ((i / 16 * 16 : Nat) : Int)) ↔ sizedP size := by
  unfold sizedP
  constructor
  · rintro ⟨i, hi, rfl⟩; omega
  · rintro ⟨h1, h2, h3⟩
    refine ⟨(size - 88).toNat, by omega, by omega⟩
open Classical in
set_option maxRecDepth 100000 in
set_option maxHeartbeats 8000000 in
theorem refGoodT_any (t : Tab) (bv : Value) (ps : List BV) (n : Int) (w0 : World) (hps : ps.map (·.2) = t.bs) (hb : RdS bvCells 6 w0 bv ps) (hn : ps.length ≤ 1000) (hnum : ∀ b ∈ t.bs, b.Num) (hn0 : 0 ≤ n) (hn1 : n ≤ 4096) :
    Calls Try.prog 11 #[tabV t bv, .int .i64 n] w0 fun e w' => e = .returned (.bool (decide (goodP t n))) ∧ Ext0 w0 w' := by
  have H : SH (fun _ => False) w0 w0 [] := SH.nil _ _
  obtain ⟨A, cap, rfl, hcap⟩ := hb.len
  obtain ⟨res, hres⟩ : ∃ q, decide (goodP t n) = q := ⟨_, rfl⟩
  rw [hres]
  have hres2 : (goodP t n ↔ res = true) := by rw [← hres]; simp
  rw [goodP_ref] at hres2
  have HRES := Lib.hid hres2
  have hsp := fun {W : World} (h : Ext0 w0 W) => refSpans_any t (.slice A ps.length cap) ps W hps (hb.keep h) hn hnum
  have HB := Lib.hid hb
  have HP := Lib.hid (And.intro hps hnum)
  clear hres hres2 hb hps hnum
  obtain ⟨epoch, old, phase, mode, next, gen, bs⟩ := t
  simp only [tabV] at hsp ⊢
  go_enter Try.func11, Try.ntmps11
  go_upto_region 1 with (first | (refine L_box rfl rfl H rfl rfl ?_; clear H; intro g w H; (try simp only [Act.eval, Array.getD_eq_getD_getElem?, List.getElem?_toArray, List.getElem?_cons_succ, List.getElem?_cons_zero, Option.getD_some, Value.cells] at H); (try simp only [Act.put, List.setIfInBounds_toArray, List.set_cons_succ, List.set_cons_zero, List.getElem_toArray, List.getElem_cons_succ, List.getElem_cons_zero])))
  go_step
  refine L_take (v := ?_) rfl (by rfl) ?_ ?_
  rotate_left; (focus (first | (go_simp; done) | (go_simp; with_reducible rfl) | (go_simp; rfl))); all_goals skip; (try simp only [List.set_cons_succ, List.set_cons_zero])
  refine L_take (v := ?_) rfl (by rfl) ?_ ?_
  rotate_left; (focus (first | (refine R_load1 (ty := 3) (x := Operand.tmp 11) rfl H 0 rfl rfl ?_ Try.isAgg3; rfl))); all_goals skip; (try simp only [List.set_cons_succ, List.set_cons_zero, List.getElem_toArray, List.getElem_cons_succ, List.getElem_cons_zero])
  refine L_takeB (q := ?_) rfl (by rfl) ?_ ?_
  rotate_left; (focus (first | (go_simp; done) | (go_simp; with_reducible rfl) | (go_simp; rfl))); all_goals skip; (try simp only [List.set_cons_succ, List.set_cons_zero])
  intro ca2 Hca2
  refine L_take (v := ?_) rfl (by rfl) ?_ ?_
  rotate_left; (focus (first | (go_simp; done) | (go_simp; with_reducible rfl) | (go_simp; rfl))); all_goals skip; (try simp only [List.set_cons_succ, List.set_cons_zero])
  refine L_maybe ca2 (v := ?_) rfl (by cases ca2 <;> rfl) ?_ ?_
  rotate_left; (focus (intro hb; (try simp only [Bool.and_eq_true, Bool.not_eq_true'] at hb); have hb0 := hb; (try simp only [hb0, Bool.not_false, Bool.not_true, Bool.and_true, Bool.true_and, Bool.and_self, cond_true, cond_false]); first | (go_simp; done) | (go_simp; with_reducible rfl) | (go_simp; rfl))); all_goals skip; (try simp only [List.set_cons_succ, List.set_cons_zero])
  refine L_maybe ca2 (v := ?_) rfl (by cases ca2 <;> rfl) ?_ ?_
  rotate_left; (focus (intro hb; (try simp only [Bool.and_eq_true, Bool.not_eq_true'] at hb); have hb0 := hb; (try simp only [hb0, Bool.not_false, Bool.not_true, Bool.and_true, Bool.true_and, Bool.and_self, cond_true, cond_false]); first | (refine R_load1 (ty := 3) (x := Operand.tmp 15) rfl H 0 rfl rfl ?_ Try.isAgg3; rfl))); all_goals skip; (try simp only [List.set_cons_succ, List.set_cons_zero, List.getElem_toArray, List.getElem_cons_succ, List.getElem_cons_zero])
  refine L_maybeB ca2 (q := ?_) rfl (by cases ca2 <;> rfl) ?_ ?_
  rotate_left; (focus (intro hb; (try simp only [Bool.and_eq_true, Bool.not_eq_true'] at hb); have hb0 := hb; (try simp only [hb0, Bool.not_false, Bool.not_true, Bool.and_true, Bool.true_and, Bool.and_self, cond_true, cond_false]); first | (go_simp; done) | (go_simp; with_reducible rfl) | (go_simp; rfl))); all_goals skip; (try simp only [List.set_cons_succ, List.set_cons_zero])
  intro ca6 Hca6
  refine L_takeB (q := (ca2 && ca6)) rfl (by rfl) ?_ ?_
  (focus (cases ca2 <;> cases ca6 <;> (first | (go_simp; done) | (go_simp; with_reducible rfl) | (go_simp; rfl)))); all_goals skip; (try simp only [List.set_cons_succ, List.set_cons_zero])
  intro ca7 Hca7
  refine L_take (v := ?_) rfl (by rfl) ?_ ?_
  rotate_left; (focus (first | (go_simp; done) | (go_simp; with_reducible rfl) | (go_simp; rfl))); all_goals skip; (try simp only [List.set_cons_succ, List.set_cons_zero])
  refine L_maybe ca7 (v := ?_) rfl (by cases ca7 <;> rfl) ?_ ?_
  rotate_left; (focus (intro hb; (try simp only [Bool.and_eq_true, Bool.not_eq_true'] at hb); have hb0 := hb; (try simp only [hb0, Bool.not_false, Bool.not_true, Bool.and_true, Bool.true_and, Bool.and_self, cond_true, cond_false]); first | (go_simp; done) | (go_simp; with_reducible rfl) | (go_simp; rfl))); all_goals skip; (try simp only [List.set_cons_succ, List.set_cons_zero])
  refine L_maybe ca7 (v := ?_) rfl (by cases ca7 <;> rfl) ?_ ?_
  rotate_left; (focus (intro hb; (try simp only [Bool.and_eq_true, Bool.not_eq_true'] at hb); have hb0 := hb; (try simp only [hb0, Bool.not_false, Bool.not_true, Bool.and_true, Bool.true_and, Bool.and_self, cond_true, cond_false]); first | (refine R_load1 (ty := 3) (x := Operand.tmp 20) rfl H 0 rfl rfl ?_ Try.isAgg3; rfl))); all_goals skip; (try simp only [List.set_cons_succ, List.set_cons_zero, List.getElem_toArray, List.getElem_cons_succ, List.getElem_cons_zero])
  refine L_maybeB ca7 (q := ?_) rfl (by cases ca7 <;> rfl) ?_ ?_
  rotate_left; (focus (intro hb; (try simp only [Bool.and_eq_true, Bool.not_eq_true'] at hb); have hb0 := hb; (try simp only [hb0, Bool.not_false, Bool.not_true, Bool.and_true, Bool.true_and, Bool.and_self, cond_true, cond_false]); first | (go_simp; done) | (go_simp; with_reducible rfl) | (go_simp; rfl))); all_goals skip; (try simp only [List.set_cons_succ, List.set_cons_zero])
  intro ca11 Hca11
  refine L_takeB (q := (ca7 && ca11)) rfl (by rfl) ?_ ?_
  (focus (cases ca11 <;> cases ca7 <;> (first | (go_simp; done) | (go_simp; with_reducible rfl) | (go_simp; rfl)))); all_goals skip; (try simp only [List.set_cons_succ, List.set_cons_zero])
  intro ca12 Hca12
  refine L_take (v := ?_) rfl (by rfl) ?_ ?_
  rotate_left; (focus (first | (go_simp; done) | (go_simp; with_reducible rfl) | (go_simp; rfl))); all_goals skip; (try simp only [List.set_cons_succ, List.set_cons_zero])
  have hcalm := Hca12.out
  simp only [Hca7.out, Hca2.out, Hca6.out, Hca11.out] at hcalm
  replace hcalm := Lib.hid hcalm
  clear Hca7 Hca12 Hca2 Hca6 Hca11
  go_upto_region 2 with fail
  go_step
  refine L_take (v := ?_) rfl (by rfl) ?_ ?_
  rotate_left; (focus (first | (go_simp; done) | (go_simp; with_reducible rfl) | (go_simp; rfl))); all_goals skip; (try simp only [List.set_cons_succ, List.set_cons_zero])
  refine L_take (v := ?_) rfl (by rfl) ?_ ?_
  rotate_left; (focus (first | (refine R_load1 (ty := 3) (x := Operand.tmp 24) rfl H 0 rfl rfl ?_ Try.isAgg3; rfl))); all_goals skip; (try simp only [List.set_cons_succ, List.set_cons_zero, List.getElem_toArray, List.getElem_cons_succ, List.getElem_cons_zero])
  refine L_takeB (q := ?_) rfl (by rfl) ?_ ?_
  rotate_left; (focus (first | (go_simp; done) | (go_simp; with_reducible rfl) | (go_simp; rfl))); all_goals skip; (try simp only [List.set_cons_succ, List.set_cons_zero])
  intro cb2 Hcb2
  refine L_take (v := ?_) rfl (by rfl) ?_ ?_
  rotate_left; (focus (first | (go_simp; done) | (go_simp; with_reducible rfl) | (go_simp; rfl))); all_goals skip; (try simp only [List.set_cons_succ, List.set_cons_zero])
  refine L_maybe (!cb2) (v := ?_) rfl (by cases cb2 <;> rfl) ?_ ?_
  rotate_left; (focus (intro hb; (try simp only [Bool.and_eq_true, Bool.not_eq_true'] at hb); have hb0 := hb; (try simp only [hb0, Bool.not_false, Bool.not_true, Bool.and_true, Bool.true_and, Bool.and_self, cond_true, cond_false]); first | (go_simp; done) | (go_simp; with_reducible rfl) | (go_simp; rfl))); all_goals skip; (try simp only [List.set_cons_succ, List.set_cons_zero])
  refine L_maybe (!cb2) (v := ?_) rfl (by cases cb2 <;> rfl) ?_ ?_
  rotate_left; (focus (intro hb; (try simp only [Bool.and_eq_true, Bool.not_eq_true'] at hb); have hb0 := hb; (try simp only [hb0, Bool.not_false, Bool.not_true, Bool.and_true, Bool.true_and, Bool.and_self, cond_true, cond_false]); first | (refine R_load1 (ty := 3) (x := Operand.tmp 28) rfl H 0 rfl rfl ?_ Try.isAgg3; rfl))); all_goals skip; (try simp only [List.set_cons_succ, List.set_cons_zero, List.getElem_toArray, List.getElem_cons_succ, List.getElem_cons_zero])
  refine L_maybeB (!cb2) (q := ?_) rfl (by cases cb2 <;> rfl) ?_ ?_
  rotate_left; (focus (intro hb; (try simp only [Bool.and_eq_true, Bool.not_eq_true'] at hb); have hb0 := hb; (try simp only [hb0, Bool.not_false, Bool.not_true, Bool.and_true, Bool.true_and, Bool.and_self, cond_true, cond_false]); first | (go_simp; done) | (go_simp; with_reducible rfl) | (go_simp; rfl))); all_goals skip; (try simp only [List.set_cons_succ, List.set_cons_zero])
  intro cb6 Hcb6
  refine L_takeB (q := (cb2 || cb6)) rfl (by rfl) ?_ ?_
  (focus (cases cb2 <;> cases cb6 <;> (first | (go_simp; done) | (go_simp; with_reducible rfl) | (go_simp; rfl)))); all_goals skip; (try simp only [List.set_cons_succ, List.set_cons_zero])
  intro cb7 Hcb7
  refine L_take (v := ?_) rfl (by rfl) ?_ ?_
  rotate_left; (focus (first | (go_simp; done) | (go_simp; with_reducible rfl) | (go_simp; rfl))); all_goals skip; (try simp only [List.set_cons_succ, List.set_cons_zero])
  refine L_maybe cb7 (v := ?_) rfl (by cases cb7 <;> rfl) ?_ ?_
  rotate_left; (focus (intro hb; (try simp only [Bool.and_eq_true, Bool.not_eq_true'] at hb); have hb0 := hb; (try simp only [hb0, Bool.not_false, Bool.not_true, Bool.and_true, Bool.true_and, Bool.and_self, cond_true, cond_false]); first | (go_simp; done) | (go_simp; with_reducible rfl) | (go_simp; rfl))); all_goals skip; (try simp only [List.set_cons_succ, List.set_cons_zero])
  refine L_maybe cb7 (v := ?_) rfl (by cases cb7 <;> rfl) ?_ ?_
  rotate_left; (focus (intro hb; (try simp only [Bool.and_eq_true, Bool.not_eq_true'] at hb); have hb0 := hb; (try simp only [hb0, Bool.not_false, Bool.not_true, Bool.and_true, Bool.true_and, Bool.and_self, cond_true, cond_false]); first | (refine R_load1 (ty := 3) (x := Operand.tmp 33) rfl H 0 rfl rfl ?_ Try.isAgg3; rfl))); all_goals skip; (try simp only [List.set_cons_succ, List.set_cons_zero, List.getElem_toArray, List.getElem_cons_succ, List.getElem_cons_zero])
  refine L_maybeB cb7 (q := ?_) rfl (by cases cb7 <;> rfl) ?_ ?_
  rotate_left; (focus (intro hb; (try simp only [Bool.and_eq_true, Bool.not_eq_true'] at hb); have hb0 := hb; (try simp only [hb0, Bool.not_false, Bool.not_true, Bool.and_true, Bool.true_and, Bool.and_self, cond_true, cond_false]); first | (go_simp; done) | (go_simp; with_reducible rfl) | (go_simp; rfl))); all_goals skip; (try simp only [List.set_cons_succ, List.set_cons_zero])
  intro cb11 Hcb11
  refine L_takeB (q := (cb7 && cb11)) rfl (by rfl) ?_ ?_
  (focus (cases cb11 <;> cases cb7 <;> (first | (go_simp; done) | (go_simp; with_reducible rfl) | (go_simp; rfl)))); all_goals skip; (try simp only [List.set_cons_succ, List.set_cons_zero])
  intro cb12 Hcb12
  refine L_take (v := ?_) rfl (by rfl) ?_ ?_
  rotate_left; (focus (first | (go_simp; done) | (go_simp; with_reducible rfl) | (go_simp; rfl))); all_goals skip; (try simp only [List.set_cons_succ, List.set_cons_zero])
  refine L_maybe cb12 (v := ?_) rfl (by cases cb12 <;> rfl) ?_ ?_
  rotate_left; (focus (intro hb; (try simp only [Bool.and_eq_true, Bool.not_eq_true'] at hb); have hb0 := hb; (try simp only [hb0, Bool.not_false, Bool.not_true, Bool.and_true, Bool.true_and, Bool.and_self, cond_true, cond_false]); first | (go_simp; done) | (go_simp; with_reducible rfl) | (go_simp; rfl))); all_goals skip; (try simp only [List.set_cons_succ, List.set_cons_zero])
  refine L_maybe cb12 (v := ?_) rfl (by cases cb12 <;> rfl) ?_ ?_
  rotate_left; (focus (intro hb; (try simp only [Bool.and_eq_true, Bool.not_eq_true'] at hb); have hb0 := hb; (try simp only [hb0, Bool.not_false, Bool.not_true, Bool.and_true, Bool.true_and, Bool.and_self, cond_true, cond_false]); first | (refine R_load1 (ty := 3) (x := Operand.tmp 38) rfl H 0 rfl rfl ?_ Try.isAgg3; rfl))); all_goals skip; (try simp only [List.set_cons_succ, List.set_cons_zero, List.getElem_toArray, List.getElem_cons_succ, List.getElem_cons_zero])
  refine L_maybeB cb12 (q := ?_) rfl (by cases cb12 <;> rfl) ?_ ?_
  rotate_left; (focus (intro hb; (try simp only [Bool.and_eq_true, Bool.not_eq_true'] at hb); have hb0 := hb; (try simp only [hb0, Bool.not_false, Bool.not_true, Bool.and_true, Bool.true_and, Bool.and_self, cond_true, cond_false]); first | (go_simp; done) | (go_simp; with_reducible rfl) | (go_simp; rfl))); all_goals skip; (try simp only [List.set_cons_succ, List.set_cons_zero])
  intro cb16 Hcb16
  refine L_takeB (q := (cb12 && cb16)) rfl (by rfl) ?_ ?_
  (focus (cases cb12 <;> cases cb16 <;> (first | (go_simp; done) | (go_simp; with_reducible rfl) | (go_simp; rfl)))); all_goals skip; (try simp only [List.set_cons_succ, List.set_cons_zero])
  intro cb17 Hcb17
  refine L_take (v := ?_) rfl (by rfl) ?_ ?_
  rotate_left; (focus (first | (go_simp; done) | (go_simp; with_reducible rfl) | (go_simp; rfl))); all_goals skip; (try simp only [List.set_cons_succ, List.set_cons_zero])
  refine L_maybe cb17 (v := ?_) rfl (by cases cb17 <;> rfl) ?_ ?_
  rotate_left; (focus (intro hb; (try simp only [Bool.and_eq_true, Bool.not_eq_true'] at hb); have hb0 := hb; (try simp only [hb0, Bool.not_false, Bool.not_true, Bool.and_true, Bool.true_and, Bool.and_self, cond_true, cond_false]); first | (go_simp; done) | (go_simp; with_reducible rfl) | (go_simp; rfl))); all_goals skip; (try simp only [List.set_cons_succ, List.set_cons_zero])
  refine L_maybe cb17 (v := ?_) rfl (by cases cb17 <;> rfl) ?_ ?_
  rotate_left; (focus (intro hb; (try simp only [Bool.and_eq_true, Bool.not_eq_true'] at hb); have hb0 := hb; (try simp only [hb0, Bool.not_false, Bool.not_true, Bool.and_true, Bool.true_and, Bool.and_self, cond_true, cond_false]); first | (refine R_load1 (ty := 3) (x := Operand.tmp 43) rfl H 0 rfl rfl ?_ Try.isAgg3; rfl))); all_goals skip; (try simp only [List.set_cons_succ, List.set_cons_zero, List.getElem_toArray, List.getElem_cons_succ, List.getElem_cons_zero])
  refine L_maybe cb17 (v := ?_) rfl (by cases cb17 <;> rfl) ?_ ?_
  rotate_left; (focus (intro hb; (try simp only [Bool.and_eq_true, Bool.not_eq_true'] at hb); have hb0 := hb; (try simp only [hb0, Bool.not_false, Bool.not_true, Bool.and_true, Bool.true_and, Bool.and_self, cond_true, cond_false]); first | (go_simp; done) | (go_simp; with_reducible rfl) | (go_simp; rfl))); all_goals skip; (try simp only [List.set_cons_succ, List.set_cons_zero])
  refine L_maybe cb17 (v := ?_) rfl (by cases cb17 <;> rfl) ?_ ?_
  rotate_left; (focus (intro hb; (try simp only [Bool.and_eq_true, Bool.not_eq_true'] at hb); have hb0 := hb; (try simp only [hb0, Bool.not_false, Bool.not_true, Bool.and_true, Bool.true_and, Bool.and_self, cond_true, cond_false]); first | (refine R_load1 (ty := 3) (x := Operand.tmp 45) rfl H 0 rfl rfl ?_ Try.isAgg3; rfl))); all_goals skip; (try simp only [List.set_cons_succ, List.set_cons_zero, List.getElem_toArray, List.getElem_cons_succ, List.getElem_cons_zero])
  refine L_maybe cb17 (v := ?_) rfl (by cases cb17 <;> rfl) ?_ ?_
  rotate_left; (focus (intro hb; (try simp only [Bool.and_eq_true, Bool.not_eq_true'] at hb); have hb0 := hb; (try simp only [hb0, Bool.not_false, Bool.not_true, Bool.and_true, Bool.true_and, Bool.and_self, cond_true, cond_false]); first | (go_simp; done) | (go_simp; with_reducible rfl) | (go_simp; rfl))); all_goals skip; (try simp only [List.set_cons_succ, List.set_cons_zero])
  refine L_maybeB cb17 (q := ?_) rfl (by cases cb17 <;> rfl) ?_ ?_
  rotate_left; (focus (intro hb; (try simp only [Bool.and_eq_true, Bool.not_eq_true'] at hb); have hb0 := hb; (try simp only [hb0, Bool.not_false, Bool.not_true, Bool.and_true, Bool.true_and, Bool.and_self, cond_true, cond_false]); first | (go_simp; done) | (go_simp; with_reducible rfl) | (go_simp; rfl))); all_goals skip; (try simp only [List.set_cons_succ, List.set_cons_zero])
  intro cb24 Hcb24
  refine L_takeB (q := (cb17 && cb24)) rfl (by rfl) ?_ ?_
  (focus (cases cb17 <;> cases cb24 <;> (first | (go_simp; done) | (go_simp; with_reducible rfl) | (go_simp; rfl)))); all_goals skip; (try simp only [List.set_cons_succ, List.set_cons_zero])
  intro cb25 Hcb25
  refine L_take (v := ?_) rfl (by rfl) ?_ ?_
  rotate_left; (focus (first | (go_simp; done) | (go_simp; with_reducible rfl) | (go_simp; rfl))); all_goals skip; (try simp only [List.set_cons_succ, List.set_cons_zero])
  refine L_maybe cb25 (v := ?_) rfl (by cases cb25 <;> rfl) ?_ ?_
  rotate_left; (focus (intro hb; (try simp only [Bool.and_eq_true, Bool.not_eq_true'] at hb); have hb0 := hb; (try simp only [hb0, Bool.not_false, Bool.not_true, Bool.and_true, Bool.true_and, Bool.and_self, cond_true, cond_false]); first | (go_simp; done) | (go_simp; with_reducible rfl) | (go_simp; rfl))); all_goals skip; (try simp only [List.set_cons_succ, List.set_cons_zero])
  refine L_maybe cb25 (v := ?_) rfl (by cases cb25 <;> rfl) ?_ ?_
  rotate_left; (focus (intro hb; (try simp only [Bool.and_eq_true, Bool.not_eq_true'] at hb); have hb0 := hb; (try simp only [hb0, Bool.not_false, Bool.not_true, Bool.and_true, Bool.true_and, Bool.and_self, cond_true, cond_false]); first | (refine R_load1 (ty := 3) (x := Operand.tmp 51) rfl H 0 rfl rfl ?_ Try.isAgg3; rfl))); all_goals skip; (try simp only [List.set_cons_succ, List.set_cons_zero, List.getElem_toArray, List.getElem_cons_succ, List.getElem_cons_zero])
  refine L_maybeB cb25 (q := ?_) rfl (by cases cb25 <;> rfl) ?_ ?_
  rotate_left; (focus (intro hb; (try simp only [Bool.and_eq_true, Bool.not_eq_true'] at hb); have hb0 := hb; (try simp only [hb0, Bool.not_false, Bool.not_true, Bool.and_true, Bool.true_and, Bool.and_self, cond_true, cond_false]); first | (go_simp; done) | (go_simp; with_reducible rfl) | (go_simp; rfl))); all_goals skip; (try simp only [List.set_cons_succ, List.set_cons_zero])
  intro cb29 Hcb29
  refine L_maybe cb25 (v := ?_) rfl (by cases cb25 <;> rfl) ?_ ?_
  rotate_left; (focus (intro hb; (try simp only [Bool.and_eq_true, Bool.not_eq_true'] at hb); have hb0 := hb; (try simp only [hb0, Bool.not_false, Bool.not_true, Bool.and_true, Bool.true_and, Bool.and_self, cond_true, cond_false]); first | (go_simp; done) | (go_simp; with_reducible rfl) | (go_simp; rfl))); all_goals skip; (try simp only [List.set_cons_succ, List.set_cons_zero])
  refine L_maybe (cb25 && (!cb29)) (v := ?_) rfl (by cases cb25 <;> cases cb29 <;> rfl) ?_ ?_
  rotate_left; (focus (intro hb; (try simp only [Bool.and_eq_true, Bool.not_eq_true'] at hb); obtain ⟨hb0, hb1⟩ := hb; (try simp only [hb0, hb1, Bool.not_false, Bool.not_true, Bool.and_true, Bool.true_and, Bool.and_self, cond_true, cond_false]); first | (go_simp; done) | (go_simp; with_reducible rfl) | (go_simp; rfl))); all_goals skip; (try simp only [List.set_cons_succ, List.set_cons_zero])
  refine L_maybe (cb25 && (!cb29)) (v := ?_) rfl (by cases cb25 <;> cases cb29 <;> rfl) ?_ ?_
  rotate_left; (focus (intro hb; (try simp only [Bool.and_eq_true, Bool.not_eq_true'] at hb); obtain ⟨hb0, hb1⟩ := hb; (try simp only [hb0, hb1, Bool.not_false, Bool.not_true, Bool.and_true, Bool.true_and, Bool.and_self, cond_true, cond_false]); first | (refine R_load1 (ty := 3) (x := Operand.tmp 55) rfl H 0 rfl rfl ?_ Try.isAgg3; rfl))); all_goals skip; (try simp only [List.set_cons_succ, List.set_cons_zero, List.getElem_toArray, List.getElem_cons_succ, List.getElem_cons_zero])
  refine L_maybeB (cb25 && (!cb29)) (q := ?_) rfl (by cases cb25 <;> cases cb29 <;> rfl) ?_ ?_
  rotate_left; (focus (intro hb; (try simp only [Bool.and_eq_true, Bool.not_eq_true'] at hb); obtain ⟨hb0, hb1⟩ := hb; (try simp only [hb0, hb1, Bool.not_false, Bool.not_true, Bool.and_true, Bool.true_and, Bool.and_self, cond_true, cond_false]); first | (go_simp; done) | (go_simp; with_reducible rfl) | (go_simp; rfl))); all_goals skip; (try simp only [List.set_cons_succ, List.set_cons_zero])
  intro cb33 Hcb33
  refine L_maybeB cb25 (q := (cb29 || cb33)) rfl (by cases cb25 <;> rfl) ?_ ?_
  (focus (intro hb; cases cb25 <;> cases cb29 <;> cases cb33 <;> first | (exact absurd hb (by decide)) | (first | (go_simp; done) | (go_simp; with_reducible rfl) | (go_simp; rfl)))); all_goals skip; (try simp only [List.set_cons_succ, List.set_cons_zero])
  intro cb34 Hcb34
  refine L_takeB (q := (cb25 && cb34)) rfl (by rfl) ?_ ?_
  (focus (cases cb25 <;> cases cb34 <;> (first | (go_simp; done) | (go_simp; with_reducible rfl) | (go_simp; rfl)))); all_goals skip; (try simp only [List.set_cons_succ, List.set_cons_zero])
  intro cb35 Hcb35
  refine L_take (v := ?_) rfl (by rfl) ?_ ?_
  rotate_left; (focus (first | (go_simp; done) | (go_simp; with_reducible rfl) | (go_simp; rfl))); all_goals skip; (try simp only [List.set_cons_succ, List.set_cons_zero])
  have hturn := Hcb35.out
  simp only [Hcb7.out, Hcb12.out, Hcb17.out, Hcb25.out, Hcb34.out, Hcb2.out, Hcb6.out, Hcb11.out, Hcb16.out, Hcb24.out, Hcb29.out, Hcb33.out] at hturn
  replace hturn := Lib.hid hturn
  clear Hcb7 Hcb12 Hcb17 Hcb25 Hcb34 Hcb35 Hcb2 Hcb6 Hcb11 Hcb16 Hcb24 Hcb29 Hcb33
  go_upto_region 3 with fail
  go_step
  refine L_take (v := ?_) rfl (by rfl) ?_ ?_
  rotate_left; (focus (first | (go_simp; done) | (go_simp; with_reducible rfl) | (go_simp; rfl))); all_goals skip; (try simp only [List.set_cons_succ, List.set_cons_zero])
  refine L_takeB (q := (!ca12)) rfl (by rfl) ?_ ?_
  (focus (cases ca12 <;> (first | (go_simp; done) | (go_simp; with_reducible rfl) | (go_simp; rfl)))); all_goals skip; (try simp only [List.set_cons_succ, List.set_cons_zero])
  intro cc1 Hcc1
  refine L_take (v := ?_) rfl (by rfl) ?_ ?_
  rotate_left; (focus (first | (go_simp; done) | (go_simp; with_reducible rfl) | (go_simp; rfl))); all_goals skip; (try simp only [List.set_cons_succ, List.set_cons_zero])
  refine L_maybe cc1 (v := ?_) rfl (by cases cc1 <;> rfl) ?_ ?_
  rotate_left; (focus (intro hb; (try simp only [Bool.and_eq_true, Bool.not_eq_true'] at hb); have hb0 := hb; (try simp only [hb0, Bool.not_false, Bool.not_true, Bool.and_true, Bool.true_and, Bool.and_self, cond_true, cond_false]); first | (go_simp; done) | (go_simp; with_reducible rfl) | (go_simp; rfl))); all_goals skip; (try simp only [List.set_cons_succ, List.set_cons_zero])
  refine L_maybeB cc1 (q := (!cb35)) rfl (by cases cc1 <;> rfl) ?_ ?_
  (focus (intro hb; cases cb35 <;> cases cc1 <;> first | (exact absurd hb (by decide)) | (first | (go_simp; done) | (go_simp; with_reducible rfl) | (go_simp; rfl)))); all_goals skip; (try simp only [List.set_cons_succ, List.set_cons_zero])
  intro cc4 Hcc4
  refine L_takeB (q := (cc1 && cc4)) rfl (by rfl) ?_ ?_
  (focus (cases cc1 <;> cases cc4 <;> (first | (go_simp; done) | (go_simp; with_reducible rfl) | (go_simp; rfl)))); all_goals skip; (try simp only [List.set_cons_succ, List.set_cons_zero])
  intro cc5 Hcc5
  refine L_take (v := ?_) rfl (by rfl) ?_ ?_
  rotate_left; (focus (first | (go_simp; done) | (go_simp; with_reducible rfl) | (go_simp; rfl))); all_goals skip; (try simp only [List.set_cons_succ, List.set_cons_zero])
  refine L_maybe (!cc5) (v := ?_) rfl (by cases cc5 <;> rfl) ?_ ?_
  rotate_left; (focus (intro hb; (try simp only [Bool.and_eq_true, Bool.not_eq_true'] at hb); have hb0 := hb; (try simp only [hb0, Bool.not_false, Bool.not_true, Bool.and_true, Bool.true_and, Bool.and_self, cond_true, cond_false]); first | (go_simp; done) | (go_simp; with_reducible rfl) | (go_simp; rfl))); all_goals skip; (try simp only [List.set_cons_succ, List.set_cons_zero])
  refine L_maybe (!cc5) (v := ?_) rfl (by cases cc5 <;> rfl) ?_ ?_
  rotate_left; (focus (intro hb; (try simp only [Bool.and_eq_true, Bool.not_eq_true'] at hb); have hb0 := hb; (try simp only [hb0, Bool.not_false, Bool.not_true, Bool.and_true, Bool.true_and, Bool.and_self, cond_true, cond_false]); first | (refine R_load1 (ty := 3) (x := Operand.tmp 67) rfl H 0 rfl rfl ?_ Try.isAgg3; rfl))); all_goals skip; (try simp only [List.set_cons_succ, List.set_cons_zero, List.getElem_toArray, List.getElem_cons_succ, List.getElem_cons_zero])
  refine L_maybeB (!cc5) (q := ?_) rfl (by cases cc5 <;> rfl) ?_ ?_
  rotate_left; (focus (intro hb; (try simp only [Bool.and_eq_true, Bool.not_eq_true'] at hb); have hb0 := hb; (try simp only [hb0, Bool.not_false, Bool.not_true, Bool.and_true, Bool.true_and, Bool.and_self, cond_true, cond_false]); first | (go_simp; done) | (go_simp; with_reducible rfl) | (go_simp; rfl))); all_goals skip; (try simp only [List.set_cons_succ, List.set_cons_zero])
  intro cc9 Hcc9
  refine L_takeB (q := (cc5 || cc9)) rfl (by rfl) ?_ ?_
  (focus (cases cc5 <;> cases cc9 <;> (first | (go_simp; done) | (go_simp; with_reducible rfl) | (go_simp; rfl)))); all_goals skip; (try simp only [List.set_cons_succ, List.set_cons_zero])
  intro cc10 Hcc10
  refine L_take (v := ?_) rfl (by rfl) ?_ ?_
  rotate_left; (focus (first | (go_simp; done) | (go_simp; with_reducible rfl) | (go_simp; rfl))); all_goals skip; (try simp only [List.set_cons_succ, List.set_cons_zero])
  refine L_maybe (!cc10) (v := ?_) rfl (by cases cc10 <;> rfl) ?_ ?_
  rotate_left; (focus (intro hb; (try simp only [Bool.and_eq_true, Bool.not_eq_true'] at hb); have hb0 := hb; (try simp only [hb0, Bool.not_false, Bool.not_true, Bool.and_true, Bool.true_and, Bool.and_self, cond_true, cond_false]); first | (go_simp; done) | (go_simp; with_reducible rfl) | (go_simp; rfl))); all_goals skip; (try simp only [List.set_cons_succ, List.set_cons_zero])
  refine L_maybe (!cc10) (v := ?_) rfl (by cases cc10 <;> rfl) ?_ ?_
  rotate_left; (focus (intro hb; (try simp only [Bool.and_eq_true, Bool.not_eq_true'] at hb); have hb0 := hb; (try simp only [hb0, Bool.not_false, Bool.not_true, Bool.and_true, Bool.true_and, Bool.and_self, cond_true, cond_false]); first | (refine R_load1 (ty := 3) (x := Operand.tmp 72) rfl H 0 rfl rfl ?_ Try.isAgg3; rfl))); all_goals skip; (try simp only [List.set_cons_succ, List.set_cons_zero, List.getElem_toArray, List.getElem_cons_succ, List.getElem_cons_zero])
  refine L_maybeB (!cc10) (q := ?_) rfl (by cases cc10 <;> rfl) ?_ ?_
  rotate_left; (focus (intro hb; (try simp only [Bool.and_eq_true, Bool.not_eq_true'] at hb); have hb0 := hb; (try simp only [hb0, Bool.not_false, Bool.not_true, Bool.and_true, Bool.true_and, Bool.and_self, cond_true, cond_false]); first | (go_simp; done) | (go_simp; with_reducible rfl) | (go_simp; rfl))); all_goals skip; (try simp only [List.set_cons_succ, List.set_cons_zero])
  intro cc14 Hcc14
  refine L_takeB (q := (cc10 || cc14)) rfl (by rfl) ?_ ?_
  (focus (cases cc10 <;> cases cc14 <;> (first | (go_simp; done) | (go_simp; with_reducible rfl) | (go_simp; rfl)))); all_goals skip; (try simp only [List.set_cons_succ, List.set_cons_zero])
  intro cc15 Hcc15
  refine L_take (v := ?_) rfl (by rfl) ?_ ?_
  rotate_left; (focus (first | (go_simp; done) | (go_simp; with_reducible rfl) | (go_simp; rfl))); all_goals skip; (try simp only [List.set_cons_succ, List.set_cons_zero])
  refine L_maybe (!cc15) (v := ?_) rfl (by cases cc15 <;> rfl) ?_ ?_
  rotate_left; (focus (intro hb; (try simp only [Bool.and_eq_true, Bool.not_eq_true'] at hb); have hb0 := hb; (try simp only [hb0, Bool.not_false, Bool.not_true, Bool.and_true, Bool.true_and, Bool.and_self, cond_true, cond_false]); first | (go_simp; done) | (go_simp; with_reducible rfl) | (go_simp; rfl))); all_goals skip; (try simp only [List.set_cons_succ, List.set_cons_zero])
  refine L_maybe (!cc15) (v := ?_) rfl (by cases cc15 <;> rfl) ?_ ?_
  rotate_left; (focus (intro hb; (try simp only [Bool.and_eq_true, Bool.not_eq_true'] at hb); have hb0 := hb; (try simp only [hb0, Bool.not_false, Bool.not_true, Bool.and_true, Bool.true_and, Bool.and_self, cond_true, cond_false]); first | (refine R_load1 (ty := 3) (x := Operand.tmp 77) rfl H 0 rfl rfl ?_ Try.isAgg3; rfl))); all_goals skip; (try simp only [List.set_cons_succ, List.set_cons_zero, List.getElem_toArray, List.getElem_cons_succ, List.getElem_cons_zero])
  refine L_maybeB (!cc15) (q := ?_) rfl (by cases cc15 <;> rfl) ?_ ?_
  rotate_left; (focus (intro hb; (try simp only [Bool.and_eq_true, Bool.not_eq_true'] at hb); have hb0 := hb; (try simp only [hb0, Bool.not_false, Bool.not_true, Bool.and_true, Bool.true_and, Bool.and_self, cond_true, cond_false]); first | (go_simp; done) | (go_simp; with_reducible rfl) | (go_simp; rfl))); all_goals skip; (try simp only [List.set_cons_succ, List.set_cons_zero])
  intro cc19 Hcc19
  refine L_takeB (q := (cc15 || cc19)) rfl (by rfl) ?_ ?_
  (focus (cases cc15 <;> cases cc19 <;> (first | (go_simp; done) | (go_simp; with_reducible rfl) | (go_simp; rfl)))); all_goals skip; (try simp only [List.set_cons_succ, List.set_cons_zero])
  intro cc20 Hcc20
  refine L_take (v := ?_) rfl (by rfl) ?_ ?_
  rotate_left; (focus (first | (go_simp; done) | (go_simp; with_reducible rfl) | (go_simp; rfl))); all_goals skip; (try simp only [List.set_cons_succ, List.set_cons_zero])
  refine L_maybe (!cc20) (v := ?_) rfl (by cases cc20 <;> rfl) ?_ ?_
  rotate_left; (focus (intro hb; (try simp only [Bool.and_eq_true, Bool.not_eq_true'] at hb); have hb0 := hb; (try simp only [hb0, Bool.not_false, Bool.not_true, Bool.and_true, Bool.true_and, Bool.and_self, cond_true, cond_false]); first | (go_simp; done) | (go_simp; with_reducible rfl) | (go_simp; rfl))); all_goals skip; (try simp only [List.set_cons_succ, List.set_cons_zero])
  refine L_maybe (!cc20) (v := ?_) rfl (by cases cc20 <;> rfl) ?_ ?_
  rotate_left; (focus (intro hb; (try simp only [Bool.and_eq_true, Bool.not_eq_true'] at hb); have hb0 := hb; (try simp only [hb0, Bool.not_false, Bool.not_true, Bool.and_true, Bool.true_and, Bool.and_self, cond_true, cond_false]); first | (refine R_load1 (ty := 3) (x := Operand.tmp 82) rfl H 0 rfl rfl ?_ Try.isAgg3; rfl))); all_goals skip; (try simp only [List.set_cons_succ, List.set_cons_zero, List.getElem_toArray, List.getElem_cons_succ, List.getElem_cons_zero])
  refine L_maybeB (!cc20) (q := ?_) rfl (by cases cc20 <;> rfl) ?_ ?_
  rotate_left; (focus (intro hb; (try simp only [Bool.and_eq_true, Bool.not_eq_true'] at hb); have hb0 := hb; (try simp only [hb0, Bool.not_false, Bool.not_true, Bool.and_true, Bool.true_and, Bool.and_self, cond_true, cond_false]); first | (go_simp; done) | (go_simp; with_reducible rfl) | (go_simp; rfl))); all_goals skip; (try simp only [List.set_cons_succ, List.set_cons_zero])
  intro cc24 Hcc24
  refine L_takeB (q := (cc20 || cc24)) rfl (by rfl) ?_ ?_
  (focus (cases cc20 <;> cases cc24 <;> (first | (go_simp; done) | (go_simp; with_reducible rfl) | (go_simp; rfl)))); all_goals skip; (try simp only [List.set_cons_succ, List.set_cons_zero])
  intro cc25 Hcc25
  refine L_take (v := ?_) rfl (by rfl) ?_ ?_
  rotate_left; (focus (first | (go_simp; done) | (go_simp; with_reducible rfl) | (go_simp; rfl))); all_goals skip; (try simp only [List.set_cons_succ, List.set_cons_zero])
  refine L_maybe (!cc25) (v := ?_) rfl (by cases cc25 <;> rfl) ?_ ?_
  rotate_left; (focus (intro hb; (try simp only [Bool.and_eq_true, Bool.not_eq_true'] at hb); have hb0 := hb; (try simp only [hb0, Bool.not_false, Bool.not_true, Bool.and_true, Bool.true_and, Bool.and_self, cond_true, cond_false]); first | (go_simp; done) | (go_simp; with_reducible rfl) | (go_simp; rfl))); all_goals skip; (try simp only [List.set_cons_succ, List.set_cons_zero])
  refine L_maybe (!cc25) (v := ?_) rfl (by cases cc25 <;> rfl) ?_ ?_
  rotate_left; (focus (intro hb; (try simp only [Bool.and_eq_true, Bool.not_eq_true'] at hb); have hb0 := hb; (try simp only [hb0, Bool.not_false, Bool.not_true, Bool.and_true, Bool.true_and, Bool.and_self, cond_true, cond_false]); first | (refine R_load1 (ty := 3) (x := Operand.tmp 87) rfl H 0 rfl rfl ?_ Try.isAgg3; rfl))); all_goals skip; (try simp only [List.set_cons_succ, List.set_cons_zero, List.getElem_toArray, List.getElem_cons_succ, List.getElem_cons_zero])
  refine L_maybeB (!cc25) (q := ?_) rfl (by cases cc25 <;> rfl) ?_ ?_
  rotate_left; (focus (intro hb; (try simp only [Bool.and_eq_true, Bool.not_eq_true'] at hb); have hb0 := hb; (try simp only [hb0, Bool.not_false, Bool.not_true, Bool.and_true, Bool.true_and, Bool.and_self, cond_true, cond_false]); first | (go_simp; done) | (go_simp; with_reducible rfl) | (go_simp; rfl))); all_goals skip; (try simp only [List.set_cons_succ, List.set_cons_zero])
  intro cc29 Hcc29
  refine L_takeB (q := (cc25 || cc29)) rfl (by rfl) ?_ ?_
  (focus (cases cc25 <;> cases cc29 <;> (first | (go_simp; done) | (go_simp; with_reducible rfl) | (go_simp; rfl)))); all_goals skip; (try simp only [List.set_cons_succ, List.set_cons_zero])
  intro cc30 Hcc30
  refine L_take (v := ?_) rfl (by rfl) ?_ ?_
  rotate_left; (focus (first | (go_simp; done) | (go_simp; with_reducible rfl) | (go_simp; rfl))); all_goals skip; (try simp only [List.set_cons_succ, List.set_cons_zero])
  refine L_maybe (!cc30) (v := ?_) rfl (by cases cc30 <;> rfl) ?_ ?_
  rotate_left; (focus (intro hb; (try simp only [Bool.and_eq_true, Bool.not_eq_true'] at hb); have hb0 := hb; (try simp only [hb0, Bool.not_false, Bool.not_true, Bool.and_true, Bool.true_and, Bool.and_self, cond_true, cond_false]); first | (go_simp; done) | (go_simp; with_reducible rfl) | (go_simp; rfl))); all_goals skip; (try simp only [List.set_cons_succ, List.set_cons_zero])
  refine L_maybe (!cc30) (v := ?_) rfl (by cases cc30 <;> rfl) ?_ ?_
  rotate_left; (focus (intro hb; (try simp only [Bool.and_eq_true, Bool.not_eq_true'] at hb); have hb0 := hb; (try simp only [hb0, Bool.not_false, Bool.not_true, Bool.and_true, Bool.true_and, Bool.and_self, cond_true, cond_false]); first | (refine R_load1 (ty := 3) (x := Operand.tmp 92) rfl H 0 rfl rfl ?_ Try.isAgg3; rfl))); all_goals skip; (try simp only [List.set_cons_succ, List.set_cons_zero, List.getElem_toArray, List.getElem_cons_succ, List.getElem_cons_zero])
  refine L_maybeB (!cc30) (q := ?_) rfl (by cases cc30 <;> rfl) ?_ ?_
  rotate_left; (focus (intro hb; (try simp only [Bool.and_eq_true, Bool.not_eq_true'] at hb); have hb0 := hb; (try simp only [hb0, Bool.not_false, Bool.not_true, Bool.and_true, Bool.true_and, Bool.and_self, cond_true, cond_false]); first | (go_simp; done) | (go_simp; with_reducible rfl) | (go_simp; rfl))); all_goals skip; (try simp only [List.set_cons_succ, List.set_cons_zero])
  intro cc34 Hcc34
  refine L_takeB (q := (cc30 || cc34)) rfl (by rfl) ?_ ?_
  (focus (cases cc30 <;> cases cc34 <;> (first | (go_simp; done) | (go_simp; with_reducible rfl) | (go_simp; rfl)))); all_goals skip; (try simp only [List.set_cons_succ, List.set_cons_zero])
  intro cc35 Hcc35
  refine L_take (v := ?_) rfl (by rfl) ?_ ?_
  rotate_left; (focus (first | (go_simp; done) | (go_simp; with_reducible rfl) | (go_simp; rfl))); all_goals skip; (try simp only [List.set_cons_succ, List.set_cons_zero])
  refine L_maybe (!cc35) (v := ?_) rfl (by cases cc35 <;> rfl) ?_ ?_
  rotate_left; (focus (intro hb; (try simp only [Bool.and_eq_true, Bool.not_eq_true'] at hb); have hb0 := hb; (try simp only [hb0, Bool.not_false, Bool.not_true, Bool.and_true, Bool.true_and, Bool.and_self, cond_true, cond_false]); first | (go_simp; done) | (go_simp; with_reducible rfl) | (go_simp; rfl))); all_goals skip; (try simp only [List.set_cons_succ, List.set_cons_zero])
  refine L_maybe (!cc35) (v := ?_) rfl (by cases cc35 <;> rfl) ?_ ?_
  rotate_left; (focus (intro hb; (try simp only [Bool.and_eq_true, Bool.not_eq_true'] at hb); have hb0 := hb; (try simp only [hb0, Bool.not_false, Bool.not_true, Bool.and_true, Bool.true_and, Bool.and_self, cond_true, cond_false]); first | (refine R_load1 (ty := 22) (x := Operand.tmp 97) rfl H 0 rfl rfl ?_ Try.isAgg22; rfl))); all_goals skip; (try simp only [List.set_cons_succ, List.set_cons_zero, List.getElem_toArray, List.getElem_cons_succ, List.getElem_cons_zero])
  refine L_maybe (!cc35) (v := ?_) rfl (by cases cc35 <;> rfl) ?_ ?_
  rotate_left; (focus (intro hb; (try simp only [Bool.and_eq_true, Bool.not_eq_true'] at hb); have hb0 := hb; (try simp only [hb0, Bool.not_false, Bool.not_true, Bool.and_true, Bool.true_and, Bool.and_self, cond_true, cond_false]); first | (go_simp; done) | (go_simp; with_reducible rfl) | (go_simp; rfl))); all_goals skip; (try simp only [List.set_cons_succ, List.set_cons_zero])
  refine L_maybeB (!cc35) (q := ?_) rfl (by cases cc35 <;> rfl) ?_ ?_
  rotate_left; (focus (intro hb; (try simp only [Bool.and_eq_true, Bool.not_eq_true'] at hb); have hb0 := hb; (try simp only [hb0, Bool.not_false, Bool.not_true, Bool.and_true, Bool.true_and, Bool.and_self, cond_true, cond_false]); first | (go_simp; done) | (go_simp; with_reducible rfl) | (go_simp; rfl))); all_goals skip; (try simp only [List.set_cons_succ, List.set_cons_zero])
  intro cc40 Hcc40
  refine L_takeB (q := (cc35 || cc40)) rfl (by rfl) ?_ ?_
  (focus (cases cc35 <;> cases cc40 <;> (first | (go_simp; done) | (go_simp; with_reducible rfl) | (go_simp; rfl)))); all_goals skip; (try simp only [List.set_cons_succ, List.set_cons_zero])
  intro cc41 Hcc41
  refine L_take (v := ?_) rfl (by rfl) ?_ ?_
  rotate_left; (focus (first | (go_simp; done) | (go_simp; with_reducible rfl) | (go_simp; rfl))); all_goals skip; (try simp only [List.set_cons_succ, List.set_cons_zero])
  refine L_maybe (!cc41) (v := ?_) rfl (by cases cc41 <;> rfl) ?_ ?_
  rotate_left; (focus (intro hb; (try simp only [Bool.and_eq_true, Bool.not_eq_true'] at hb); have hb0 := hb; (try simp only [hb0, Bool.not_false, Bool.not_true, Bool.and_true, Bool.true_and, Bool.and_self, cond_true, cond_false]); first | (go_simp; done) | (go_simp; with_reducible rfl) | (go_simp; rfl))); all_goals skip; (try simp only [List.set_cons_succ, List.set_cons_zero])
  refine L_maybe (!cc41) (v := ?_) rfl (by cases cc41 <;> rfl) ?_ ?_
  rotate_left; (focus (intro hb; (try simp only [Bool.and_eq_true, Bool.not_eq_true'] at hb); have hb0 := hb; (try simp only [hb0, Bool.not_false, Bool.not_true, Bool.and_true, Bool.true_and, Bool.and_self, cond_true, cond_false]); first | (refine R_load1 (ty := 22) (x := Operand.tmp 103) rfl H 0 rfl rfl ?_ Try.isAgg22; rfl))); all_goals skip; (try simp only [List.set_cons_succ, List.set_cons_zero, List.getElem_toArray, List.getElem_cons_succ, List.getElem_cons_zero])
  refine L_maybe (!cc41) (v := ?_) rfl (by cases cc41 <;> rfl) ?_ ?_
  rotate_left; (focus (intro hb; (try simp only [Bool.and_eq_true, Bool.not_eq_true'] at hb); have hb0 := hb; (try simp only [hb0, Bool.not_false, Bool.not_true, Bool.and_true, Bool.true_and, Bool.and_self, cond_true, cond_false]); first | (go_simp; done) | (go_simp; with_reducible rfl) | (go_simp; rfl))); all_goals skip; (try simp only [List.set_cons_succ, List.set_cons_zero])
  refine L_maybeB (!cc41) (q := ?_) rfl (by cases cc41 <;> rfl) ?_ ?_
  rotate_left; (focus (intro hb; (try simp only [Bool.and_eq_true, Bool.not_eq_true'] at hb); have hb0 := hb; (try simp only [hb0, Bool.not_false, Bool.not_true, Bool.and_true, Bool.true_and, Bool.and_self, cond_true, cond_false]); first | (go_simp; done) | (go_simp; with_reducible rfl) | (go_simp; rfl))); all_goals skip; (try simp only [List.set_cons_succ, List.set_cons_zero])
  intro cc46 Hcc46
  refine L_takeB (q := (cc41 || cc46)) rfl (by rfl) ?_ ?_
  (focus (cases cc41 <;> cases cc46 <;> (first | (go_simp; done) | (go_simp; with_reducible rfl) | (go_simp; rfl)))); all_goals skip; (try simp only [List.set_cons_succ, List.set_cons_zero])
  intro cc47 Hcc47
  have hhead := Hcc47.out
  simp only [Hcc1.out, Hcc4.out, Hcc5.out, Hcc10.out, Hcc15.out, Hcc20.out, Hcc25.out, Hcc30.out, Hcc35.out, Hcc41.out, Hcc9.out, Hcc14.out, Hcc19.out, Hcc24.out, Hcc29.out, Hcc34.out, Hcc40.out, Hcc46.out] at hhead
  replace hhead := Lib.hid hhead
  clear Hcc1 Hcc4 Hcc5 Hcc10 Hcc15 Hcc20 Hcc25 Hcc30 Hcc35 Hcc41 Hcc47 Hcc9 Hcc14 Hcc19 Hcc24 Hcc29 Hcc34 Hcc40 Hcc46
  have h9 : ps.map (·.2) = bs := HP.out.1
  have hbl : bs.length = ps.length := by rw [← h9, List.length_map]
  clear h9
  have hh : headR ⟨epoch, old, phase, mode, next, gen, bs⟩ ↔ cc47 = false := by
    rw [hhead.out, hcalm.out, hturn.out]
    unfold headR
    simp only [hbl, ← IntWalk.i64_left]
    generalize IntKind.i64.wrap (epoch - 1) = e1
    simp only [Bool.or_eq_false_iff, Bool.and_eq_false_iff, Bool.not_eq_false', beq_iff_eq, decide_eq_false_iff_not, Bool.or_eq_true, Bool.and_eq_true, Bool.not_eq_true', decide_eq_true_eq]
    omega
  have HH := Lib.hid hh
  have HBL := Lib.hid hbl
  clear hcalm hturn hhead hh hbl
  cases cc47
  · have hhd := HH.out.2 rfl
    have HHD := Lib.hid hhd
    clear hhd HH
    go_wp2_with fail
    go_loopw [7] (fun vi wr => RGoodRel g #[.int .i64 epoch, .int .i64 old, .int .i64 phase, .int .i64 mode, .int .i64 next, .int .i64 gen, .slice A ps.length cap] ⟨epoch, old, phase, mode, next, gen, bs⟩ w0 vi wr) (fun vi _ => ps.length - (intOf vi).toNat)
    case atStart => exact ⟨0, rfl, Nat.zero_le _, H, Lib.hid (fun j b hj => absurd hj (Nat.not_lt_zero _))⟩
    case round =>
      clear H
      obtain ⟨k, rfl, hk, H, HA⟩ := hrel
      have hbk := H.at_ 0 rfl
      have hk6 : wr.cell? ⟨g, 6, none⟩ = some (.slice A ps.length cap) := cell_of_row _ g 6 _ _ _ hbk
      clear hbk
      by_cases hkn : k < ps.length
      · have hki : (k : Int) < (ps.length : Int) := by omega
        obtain ⟨p, hp⟩ : ∃ p, ps[k] = p := ⟨_, rfl⟩
        obtain ⟨bb, off, cs, T, fr, hAA, hbb, hcs⟩ := HB.out.cell hkn
        have hbs : bs[k]? = some p.2 := by rw [← HP.out.1, List.getElem?_map, List.getElem?_eq_getElem hkn, hp]; rfl
        have hpid0 : ∀ (m : Nat) (hm : k = m + 1), ∃ c, bs[m]? = some c ∧ cs[off + m * 6]? = some (.int .i64 c.id) := fun m hm => by
          have hmn : m < ps.length := by omega
          refine ⟨ps[m].2, by rw [← HP.out.1, List.getElem?_map, List.getElem?_eq_getElem hmn]; rfl, ?_⟩
          obtain ⟨bb2, off2, cs2, T2, fr2, hA2, hbb2, hcs2⟩ := HB.out.cell hmn
          rw [hAA] at hA2
          simp only [Option.some.injEq, Addr.mk.injEq] at hA2
          obtain ⟨rfl, rfl, _⟩ := hA2
          rw [hbb] at hbb2
          cases hbb2
          have := hcs2 0 (by omega)
          rw [Nat.add_zero] at this
          rw [this]; rfl
        subst hAA
        rw [hp] at hcs
        clear hp
        obtain ⟨⟨WA, wc9⟩, id, bgen, at_, size, ep, wrap⟩ := p
        simp only at hbs
        have hcs6 : ∀ i, i < 6 → cs[off + k * 6 + i]? = [Value.int .i64 id, .int .i64 bgen, .int .i64 at_, .int .i64 size, .int .i64 ep, .slice WA wrap.length wc9][i]? := fun i hi => hcs i hi
        clear hcs
        go_upto_region 9 with (first
          | (refine L_loadmidr rfl rfl H rfl hbb (fun e => e) Try.underlying45 rfl info45 [Value.int .i64 id, .int .i64 bgen, .int .i64 at_, .int .i64 size, .int .i64 ep, .slice WA wrap.length wc9] rfl hcs6 ?_; (try simp only [Act.put, List.setIfInBounds_toArray, List.set_cons_succ, List.set_cons_zero, List.getElem_toArray, List.getElem_cons_succ, List.getElem_cons_zero]))
          | fail)
        clear hcs6 hk6
        replace H := H.alloc (.cells #[.int .i64 id, .int .i64 bgen, .int .i64 at_, .int .i64 size, .int .i64 ep, .slice WA wrap.length wc9] 45)
        generalize wr.heap.size = g8 at *
        generalize wr.alloc (.cells #[.int .i64 id, .int .i64 bgen, .int .i64 at_, .int .i64 size, .int .i64 ep, .slice WA wrap.length wc9] 45) = wA at *
        obtain ⟨cA, hcA⟩ : ∃ q : Bool, ∀ m, k = m + 1 → ∀ c, bs[m]? = some c → q = decide (c.id < id) := by
          cases k with
          | zero => exact ⟨true, fun m h => by omega⟩
          | succ m =>
            obtain ⟨c, hc, _⟩ := hpid0 m rfl
            exact ⟨decide (c.id < id), fun m' h c' hc' => by
              obtain rfl : m = m' := by omega
              rw [hc] at hc'
              cases hc'
              rfl⟩
        obtain ⟨okB, hok⟩ : ∃ q : Bool, (((decide (k = 0) && decide (id = 0)) || (!decide (k = 0) && cA)) && (decide (id < next) && (decide (1 ≤ bgen) && (decide (bgen ≤ gen) && decide ((wrap.length : Int) = 72))))) = q := ⟨_, rfl⟩
        have hblk : blkR ⟨epoch, old, phase, mode, next, gen, bs⟩ k ⟨id, bgen, at_, size, ep, wrap⟩ ↔ okB = true ∧ sizedP size ∧ (ep = epoch ∨ (phase = 1 ∧ ep = old)) := by
          rw [← hok]
          unfold blkR blkP
          simp only [Bool.and_eq_true, Bool.or_eq_true, decide_eq_true_eq, Bool.not_eq_true', decide_eq_false_iff_not]
          have hA : (k = 0 → id = 0) ∧ (∀ c, 0 < k → bs[k - 1]? = some c → c.id < id) ↔ ((k = 0 ∧ id = 0) ∨ (¬ k = 0 ∧ cA = true)) := by
            cases k with
            | zero => simp
            | succ m =>
              obtain ⟨c, hc, _⟩ := hpid0 m rfl
              rw [hcA m rfl c hc]
              simp [hc]
          constructor
          · rintro ⟨z, a, b, c, d, e, f⟩; exact ⟨⟨hA.1 ⟨z, a⟩, b, c.1, c.2, by omega⟩, d, f⟩
          · rintro ⟨⟨a, b, c, d, e⟩, s, f⟩; exact ⟨(hA.2 a).1, (hA.2 a).2, b, ⟨c, d⟩, s, by omega, f⟩
        have HOK := Lib.hid hok.symm
        have HBLK := Lib.hid (And.intro hblk hbs)
        have HCA := Lib.hid hcA
        have HPID := Lib.hid hpid0
        clear hok hblk hbs hcA hpid0
        go_cut [167] from 120 to 166 (fun s wc => s = .bool (!okB) ∧ SH (fun _ => False) w0 wc [pt g8 (.cells #[.int .i64 id, .int .i64 bgen, .int .i64 at_, .int .i64 size, .int .i64 ep, .slice WA wrap.length wc9] 45 (0, 0)), pt g (.cells #[.int .i64 epoch, .int .i64 old, .int .i64 phase, .int .i64 mode, .int .i64 next, .int .i64 gen, .slice (some ⟨bb, off, none⟩) ps.length cap] 24 (0, 0))])
        case first =>
          clear HBLK HA hsp HRES HHD HB
          by_cases hk0 : k = 0
          · have hkn0 : ¬ (0 : Int) < (k : Int) := by omega
            clear HCA HPID
            subst hk0
            refine D_start H (by kernel_rfl) (fun hS => ?_)
            try simp only [Act.put, List.setIfInBounds_toArray, List.set_cons_succ, List.set_cons_zero]
            refine D_take 0 rfl (by kernel_rfl) (by kernel_rfl) (by kernel_rfl) (v := ?_) (fun _ _ _ h => h) rfl (by rfl) ?_ hS ?_
            rotate_left; (focus (intro W hS; first | (go_simp; done) | (go_simp; with_reducible rfl) | (go_simp; rfl))); all_goals skip; (try simp only [List.set_cons_succ, List.set_cons_zero])
            refine D_takeB 1 rfl (by kernel_rfl) (by kernel_rfl) (by kernel_rfl) (q := ?_) (fun _ _ _ h => h) rfl (by rfl) hS ?_ ?_
            rotate_left; (focus (intro W hS; first | (go_simp; done) | (go_simp; with_reducible rfl) | (go_simp; rfl))); all_goals skip; (try simp only [List.set_cons_succ, List.set_cons_zero])
            intro cd1 Hcd1
            refine D_take 2 rfl (by kernel_rfl) (by kernel_rfl) (by kernel_rfl) (v := ?_) (fun _ _ _ h => h) rfl (by rfl) ?_ hS ?_
            rotate_left; (focus (intro W hS; first | (go_simp; done) | (go_simp; with_reducible rfl) | (go_simp; rfl))); all_goals skip; (try simp only [List.set_cons_succ, List.set_cons_zero])
            refine D_maybe 3 cd1 rfl (by kernel_rfl) (by kernel_rfl) (by kernel_rfl) (v := ?_) (fun _ _ _ _ h => h) rfl (by cases cd1 <;> rfl) hS ?_ ?_
            rotate_left; (focus (intro hb; intro W hS; (try simp only [Bool.and_eq_true, Bool.not_eq_true'] at hb); have hb0 := hb; (try simp only [hb0, Bool.not_false, Bool.not_true, Bool.and_true, Bool.true_and, Bool.and_self, cond_true, cond_false]); first | (go_simp; done) | (go_simp; with_reducible rfl) | (go_simp; rfl))); all_goals skip; (try simp only [List.set_cons_succ, List.set_cons_zero])
            refine D_maybe 4 cd1 rfl (by kernel_rfl) (by kernel_rfl) (by kernel_rfl) (v := ?_) (fun _ _ _ _ h => h) rfl (by cases cd1 <;> rfl) hS ?_ ?_
            rotate_left; (focus (intro hb; intro W hS; (try simp only [Bool.and_eq_true, Bool.not_eq_true'] at hb); have hb0 := hb; (try simp only [hb0, Bool.not_false, Bool.not_true, Bool.and_true, Bool.true_and, Bool.and_self, cond_true, cond_false]); first | (refine R_load1 (ty := 3) (x := Operand.tmp 123) rfl hS 0 rfl rfl ?_ Try.isAgg3; rfl) | (refine R_load1 (ty := 3) (x := Operand.tmp 123) rfl hS 1 rfl rfl ?_ Try.isAgg3; rfl))); all_goals skip; (try simp only [List.set_cons_succ, List.set_cons_zero, List.getElem_toArray, List.getElem_cons_succ, List.getElem_cons_zero])
            refine D_maybeB 5 cd1 rfl (by kernel_rfl) (by kernel_rfl) (by kernel_rfl) (q := ?_) (fun _ _ _ _ h => h) rfl (by cases cd1 <;> rfl) hS ?_ ?_
            rotate_left; (focus (intro hb; intro W hS; (try simp only [Bool.and_eq_true, Bool.not_eq_true'] at hb); have hb0 := hb; (try simp only [hb0, Bool.not_false, Bool.not_true, Bool.and_true, Bool.true_and, Bool.and_self, cond_true, cond_false]); first | (go_simp; done) | (go_simp; with_reducible rfl) | (go_simp; rfl))); all_goals skip; (try simp only [List.set_cons_succ, List.set_cons_zero])
            intro cd5 Hcd5
            refine D_takeB 6 rfl (by kernel_rfl) (by kernel_rfl) (by kernel_rfl) (q := (cd1 && cd5)) (fun _ _ _ h => h) rfl (by rfl) hS ?_ ?_
            (focus (intro W hS; cases cd1 <;> cases cd5 <;> (first | (go_simp; done) | (go_simp; with_reducible rfl) | (go_simp; rfl)))); all_goals skip; (try simp only [List.set_cons_succ, List.set_cons_zero])
            intro cd6 Hcd6
            refine D_take 7 rfl (by kernel_rfl) (by kernel_rfl) (by kernel_rfl) (v := ?_) (fun _ _ _ h => h) rfl (by rfl) ?_ hS ?_
            rotate_left; (focus (intro W hS; first | (go_simp; done) | (go_simp; with_reducible rfl) | (go_simp; rfl))); all_goals skip; (try simp only [List.set_cons_succ, List.set_cons_zero])
            refine D_maybe 8 (!cd6) rfl (by kernel_rfl) (by kernel_rfl) (by kernel_rfl) (v := ?_) (fun _ _ _ _ h => h) rfl (by cases cd6 <;> rfl) hS ?_ ?_
            rotate_left; (focus (intro hb; intro W hS; (try simp only [Bool.and_eq_true, Bool.not_eq_true'] at hb); have hb0 := hb; (try simp only [hb0, Bool.not_false, Bool.not_true, Bool.and_true, Bool.true_and, Bool.and_self, cond_true, cond_false]); first | (go_simp; done) | (go_simp; with_reducible rfl) | (go_simp; rfl))); all_goals skip; (try simp only [List.set_cons_succ, List.set_cons_zero])
            refine D_maybeB 9 (!cd6) rfl (by kernel_rfl) (by kernel_rfl) (by kernel_rfl) (q := ?_) (fun _ _ _ _ h => h) rfl (by cases cd6 <;> rfl) hS ?_ ?_
            rotate_left; (focus (intro hb; intro W hS; (try simp only [Bool.and_eq_true, Bool.not_eq_true'] at hb); have hb0 := hb; (try simp only [hb0, Bool.not_false, Bool.not_true, Bool.and_true, Bool.true_and, Bool.and_self, cond_true, cond_false]); first | (go_simp; done) | (go_simp; with_reducible rfl) | (go_simp; rfl))); all_goals skip; (try simp only [List.set_cons_succ, List.set_cons_zero])
            intro cd9 Hcd9
            refine D_maybe 10 (!cd6) rfl (by kernel_rfl) (by kernel_rfl) (by kernel_rfl) (v := ?_) (fun _ _ _ _ h => h) rfl (by cases cd6 <;> rfl) hS ?_ ?_
            rotate_left; (focus (intro hb; intro W hS; (try simp only [Bool.and_eq_true, Bool.not_eq_true'] at hb); have hb0 := hb; (try simp only [hb0, Bool.not_false, Bool.not_true, Bool.and_true, Bool.true_and, Bool.and_self, cond_true, cond_false]); first | (go_simp; done) | (go_simp; with_reducible rfl) | (go_simp; rfl))); all_goals skip; (try simp only [List.set_cons_succ, List.set_cons_zero])
            refine D_maybe 11 ((!cd6) && cd9) rfl (by kernel_rfl) (by kernel_rfl) (by kernel_rfl) (v := ?_) (fun _ _ _ _ h => h) rfl (by cases cd6 <;> cases cd9 <;> rfl) hS ?_ ?_
            rotate_left; (focus (intro hb; intro W hS; (try simp only [Bool.and_eq_true, Bool.not_eq_true'] at hb); obtain ⟨hb0, hb1⟩ := hb; (try simp only [hb0, hb1, Bool.not_false, Bool.not_true, Bool.and_true, Bool.true_and, Bool.and_self, cond_true, cond_false]); first | (go_simp; done) | (go_simp; with_reducible rfl) | (go_simp; rfl))); all_goals skip; (try simp only [List.set_cons_succ, List.set_cons_zero])
            refine D_maybe 12 ((!cd6) && cd9) rfl (by kernel_rfl) (by kernel_rfl) (by kernel_rfl) (v := ?_) (fun _ _ _ _ h => h) rfl (by cases cd6 <;> cases cd9 <;> rfl) hS ?_ ?_
            rotate_left; (focus (intro hb; intro W hS; (try simp only [Bool.and_eq_true, Bool.not_eq_true'] at hb); obtain ⟨hb0, hb1⟩ := hb; (try simp only [hb0, hb1, Bool.not_false, Bool.not_true, Bool.and_true, Bool.true_and, Bool.and_self, cond_true, cond_false]); first | (refine R_load1 (ty := 3) (x := Operand.tmp 131) rfl hS 0 rfl rfl ?_ Try.isAgg3; rfl) | (refine R_load1 (ty := 3) (x := Operand.tmp 131) rfl hS 1 rfl rfl ?_ Try.isAgg3; rfl))); all_goals skip; (try simp only [List.set_cons_succ, List.set_cons_zero, List.getElem_toArray, List.getElem_cons_succ, List.getElem_cons_zero])
            refine D_maybe 13 ((!cd6) && cd9) rfl (by kernel_rfl) (by kernel_rfl) (by kernel_rfl) (v := ?_) (fun _ _ _ _ h => h) rfl (by cases cd6 <;> cases cd9 <;> rfl) hS ?_ ?_
            rotate_left; (focus (intro hb; intro W hS; (try simp only [Bool.and_eq_true, Bool.not_eq_true'] at hb); obtain ⟨hb0, hb1⟩ := hb; (try simp only [hb0, hb1, Bool.not_false, Bool.not_true, Bool.and_true, Bool.true_and, Bool.and_self, cond_true, cond_false]); first | (go_simp; done) | (go_simp; with_reducible rfl) | (go_simp; rfl))); all_goals skip; (try simp only [List.set_cons_succ, List.set_cons_zero])
            refine D_maybe 14 ((!cd6) && cd9) rfl (by kernel_rfl) (by kernel_rfl) (by kernel_rfl) (v := ?_) (fun _ _ _ _ h => h) rfl (by cases cd6 <;> cases cd9 <;> rfl) hS ?_ ?_
            rotate_left; (focus (intro hb; intro W hS; (try simp only [Bool.and_eq_true, Bool.not_eq_true'] at hb); obtain ⟨hb0, hb1⟩ := hb; (try simp only [hb0, hb1, Bool.not_false, Bool.not_true, Bool.and_true, Bool.true_and, Bool.and_self, cond_true, cond_false]); first | (refine R_load1 (ty := 22) (x := Operand.tmp 133) rfl hS 0 rfl rfl ?_ Try.isAgg22; rfl) | (refine R_load1 (ty := 22) (x := Operand.tmp 133) rfl hS 1 rfl rfl ?_ Try.isAgg22; rfl))); all_goals skip; (try simp only [List.set_cons_succ, List.set_cons_zero, List.getElem_toArray, List.getElem_cons_succ, List.getElem_cons_zero])
            refine D_maybe 15 ((!cd6) && cd9) rfl (by kernel_rfl) (by kernel_rfl) (by kernel_rfl) (v := ?_) (fun _ _ _ _ h => h) rfl (by cases cd6 <;> cases cd9 <;> rfl) hS ?_ ?_
            rotate_left; (focus (intro hb; intro W hS; (try simp only [Bool.and_eq_true, Bool.not_eq_true'] at hb); obtain ⟨hb0, hb1⟩ := hb; (try simp only [hb0, hb1, Bool.not_false, Bool.not_true, Bool.and_true, Bool.true_and, Bool.and_self, cond_true, cond_false]); first | (go_simp; done) | (go_simp; with_reducible rfl) | (go_simp; rfl))); all_goals skip; (try simp only [List.set_cons_succ, List.set_cons_zero])
            refine D_maybe 16 ((!cd6) && cd9) rfl (by kernel_rfl) (by kernel_rfl) (by kernel_rfl) (v := undef) (fun _ _ _ _ h => h) rfl (by cases cd6 <;> cases cd9 <;> rfl) hS ?_ ?_
            (focus (intro hb; intro W hS; (try simp only [Bool.and_eq_true, Bool.not_eq_true'] at hb); obtain ⟨hb0, hb1⟩ := hb; (try simp only [hb0, hb1, Bool.not_false, Bool.not_true, Bool.and_true, Bool.true_and, Bool.and_self, cond_true, cond_false]); exfalso; exact absurd (hb1.symm.trans Hcd9.out) (by decide))); all_goals skip; (try simp only [List.set_cons_succ, List.set_cons_zero])
            refine D_maybe 17 ((!cd6) && cd9) rfl (by kernel_rfl) (by kernel_rfl) (by kernel_rfl) (v := undef) (fun _ _ _ _ h => h) rfl (by cases cd6 <;> cases cd9 <;> rfl) hS ?_ ?_
            (focus (intro hb; intro W hS; (try simp only [Bool.and_eq_true, Bool.not_eq_true'] at hb); obtain ⟨hb0, hb1⟩ := hb; (try simp only [hb0, hb1, Bool.not_false, Bool.not_true, Bool.and_true, Bool.true_and, Bool.and_self, cond_true, cond_false]); exfalso; exact absurd (hb1.symm.trans Hcd9.out) (by decide))); all_goals skip; (try simp only [List.set_cons_succ, List.set_cons_zero])
            refine D_maybe 18 ((!cd6) && cd9) rfl (by kernel_rfl) (by kernel_rfl) (by kernel_rfl) (v := undef) (fun _ _ _ _ h => h) rfl (by cases cd6 <;> cases cd9 <;> rfl) hS ?_ ?_
            (focus (intro hb; intro W hS; (try simp only [Bool.and_eq_true, Bool.not_eq_true'] at hb); obtain ⟨hb0, hb1⟩ := hb; (try simp only [hb0, hb1, Bool.not_false, Bool.not_true, Bool.and_true, Bool.true_and, Bool.and_self, cond_true, cond_false]); exfalso; exact absurd (hb1.symm.trans Hcd9.out) (by decide))); all_goals skip; (try simp only [List.set_cons_succ, List.set_cons_zero])
            refine D_maybe 19 ((!cd6) && cd9) rfl (by kernel_rfl) (by kernel_rfl) (by kernel_rfl) (v := undef) (fun _ _ _ _ h => h) rfl (by cases cd6 <;> cases cd9 <;> rfl) hS ?_ ?_
            (focus (intro hb; intro W hS; (try simp only [Bool.and_eq_true, Bool.not_eq_true'] at hb); obtain ⟨hb0, hb1⟩ := hb; (try simp only [hb0, hb1, Bool.not_false, Bool.not_true, Bool.and_true, Bool.true_and, Bool.and_self, cond_true, cond_false]); exfalso; exact absurd (hb1.symm.trans Hcd9.out) (by decide))); all_goals skip; (try simp only [List.set_cons_succ, List.set_cons_zero, List.getElem_toArray, List.getElem_cons_succ, List.getElem_cons_zero])
            refine D_maybeB 20 ((!cd6) && cd9) rfl (by kernel_rfl) (by kernel_rfl) (by kernel_rfl) (q := false) (fun _ _ _ _ h => h) rfl (by cases cd6 <;> cases cd9 <;> rfl) hS ?_ ?_
            (focus (intro hb; intro W hS; (try simp only [Bool.and_eq_true, Bool.not_eq_true'] at hb); obtain ⟨hb0, hb1⟩ := hb; (try simp only [hb0, hb1, Bool.not_false, Bool.not_true, Bool.and_true, Bool.true_and, Bool.and_self, cond_true, cond_false]); exfalso; exact absurd (hb1.symm.trans Hcd9.out) (by decide))); all_goals skip; (try simp only [List.set_cons_succ, List.set_cons_zero])
            intro cd20 Hcd20
            refine D_maybeB 21 (!cd6) rfl (by kernel_rfl) (by kernel_rfl) (by kernel_rfl) (q := (cd9 && cd20)) (fun _ _ _ _ h => h) rfl (by cases cd6 <;> rfl) hS ?_ ?_
            (focus (intro hb; intro W hS; cases cd20 <;> cases cd6 <;> cases cd9 <;> first | (exact absurd hb (by decide)) | (first | (go_simp; done) | (go_simp; with_reducible rfl) | (go_simp; rfl)))); all_goals skip; (try simp only [List.set_cons_succ, List.set_cons_zero])
            intro cd21 Hcd21
            refine D_takeB 22 rfl (by kernel_rfl) (by kernel_rfl) (by kernel_rfl) (q := (cd6 || cd21)) (fun _ _ _ h => h) rfl (by rfl) hS ?_ ?_
            (focus (intro W hS; cases cd21 <;> cases cd6 <;> (first | (go_simp; done) | (go_simp; with_reducible rfl) | (go_simp; rfl)))); all_goals skip; (try simp only [List.set_cons_succ, List.set_cons_zero])
            intro cd22 Hcd22
            refine D_take 23 rfl (by kernel_rfl) (by kernel_rfl) (by kernel_rfl) (v := ?_) (fun _ _ _ h => h) rfl (by rfl) ?_ hS ?_
            rotate_left; (focus (intro W hS; first | (go_simp; done) | (go_simp; with_reducible rfl) | (go_simp; rfl))); all_goals skip; (try simp only [List.set_cons_succ, List.set_cons_zero])
            refine D_maybe 24 (!cd22) rfl (by kernel_rfl) (by kernel_rfl) (by kernel_rfl) (v := ?_) (fun _ _ _ _ h => h) rfl (by cases cd22 <;> rfl) hS ?_ ?_
            rotate_left; (focus (intro hb; intro W hS; (try simp only [Bool.and_eq_true, Bool.not_eq_true'] at hb); have hb0 := hb; (try simp only [hb0, Bool.not_false, Bool.not_true, Bool.and_true, Bool.true_and, Bool.and_self, cond_true, cond_false]); first | (go_simp; done) | (go_simp; with_reducible rfl) | (go_simp; rfl))); all_goals skip; (try simp only [List.set_cons_succ, List.set_cons_zero])
            refine D_maybe 25 (!cd22) rfl (by kernel_rfl) (by kernel_rfl) (by kernel_rfl) (v := ?_) (fun _ _ _ _ h => h) rfl (by cases cd22 <;> rfl) hS ?_ ?_
            rotate_left; (focus (intro hb; intro W hS; (try simp only [Bool.and_eq_true, Bool.not_eq_true'] at hb); have hb0 := hb; (try simp only [hb0, Bool.not_false, Bool.not_true, Bool.and_true, Bool.true_and, Bool.and_self, cond_true, cond_false]); first | (refine R_load1 (ty := 3) (x := Operand.tmp 144) rfl hS 0 rfl rfl ?_ Try.isAgg3; rfl) | (refine R_load1 (ty := 3) (x := Operand.tmp 144) rfl hS 1 rfl rfl ?_ Try.isAgg3; rfl))); all_goals skip; (try simp only [List.set_cons_succ, List.set_cons_zero, List.getElem_toArray, List.getElem_cons_succ, List.getElem_cons_zero])
            refine D_maybe 26 (!cd22) rfl (by kernel_rfl) (by kernel_rfl) (by kernel_rfl) (v := ?_) (fun _ _ _ _ h => h) rfl (by cases cd22 <;> rfl) hS ?_ ?_
            rotate_left; (focus (intro hb; intro W hS; (try simp only [Bool.and_eq_true, Bool.not_eq_true'] at hb); have hb0 := hb; (try simp only [hb0, Bool.not_false, Bool.not_true, Bool.and_true, Bool.true_and, Bool.and_self, cond_true, cond_false]); first | (go_simp; done) | (go_simp; with_reducible rfl) | (go_simp; rfl))); all_goals skip; (try simp only [List.set_cons_succ, List.set_cons_zero])
            refine D_maybe 27 (!cd22) rfl (by kernel_rfl) (by kernel_rfl) (by kernel_rfl) (v := ?_) (fun _ _ _ _ h => h) rfl (by cases cd22 <;> rfl) hS ?_ ?_
            rotate_left; (focus (intro hb; intro W hS; (try simp only [Bool.and_eq_true, Bool.not_eq_true'] at hb); have hb0 := hb; (try simp only [hb0, Bool.not_false, Bool.not_true, Bool.and_true, Bool.true_and, Bool.and_self, cond_true, cond_false]); first | (refine R_load1 (ty := 3) (x := Operand.tmp 146) rfl hS 0 rfl rfl ?_ Try.isAgg3; rfl) | (refine R_load1 (ty := 3) (x := Operand.tmp 146) rfl hS 1 rfl rfl ?_ Try.isAgg3; rfl))); all_goals skip; (try simp only [List.set_cons_succ, List.set_cons_zero, List.getElem_toArray, List.getElem_cons_succ, List.getElem_cons_zero])
            refine D_maybeB 28 (!cd22) rfl (by kernel_rfl) (by kernel_rfl) (by kernel_rfl) (q := ?_) (fun _ _ _ _ h => h) rfl (by cases cd22 <;> rfl) hS ?_ ?_
            rotate_left; (focus (intro hb; intro W hS; (try simp only [Bool.and_eq_true, Bool.not_eq_true'] at hb); have hb0 := hb; (try simp only [hb0, Bool.not_false, Bool.not_true, Bool.and_true, Bool.true_and, Bool.and_self, cond_true, cond_false]); first | (go_simp; done) | (go_simp; with_reducible rfl) | (go_simp; rfl))); all_goals skip; (try simp only [List.set_cons_succ, List.set_cons_zero])
            intro cd28 Hcd28
            refine D_takeB 29 rfl (by kernel_rfl) (by kernel_rfl) (by kernel_rfl) (q := (cd22 || cd28)) (fun _ _ _ h => h) rfl (by rfl) hS ?_ ?_
            (focus (intro W hS; cases cd22 <;> cases cd28 <;> (first | (go_simp; done) | (go_simp; with_reducible rfl) | (go_simp; rfl)))); all_goals skip; (try simp only [List.set_cons_succ, List.set_cons_zero])
            intro cd29 Hcd29
            refine D_take 30 rfl (by kernel_rfl) (by kernel_rfl) (by kernel_rfl) (v := ?_) (fun _ _ _ h => h) rfl (by rfl) ?_ hS ?_
            rotate_left; (focus (intro W hS; first | (go_simp; done) | (go_simp; with_reducible rfl) | (go_simp; rfl))); all_goals skip; (try simp only [List.set_cons_succ, List.set_cons_zero])
            refine D_maybe 31 (!cd29) rfl (by kernel_rfl) (by kernel_rfl) (by kernel_rfl) (v := ?_) (fun _ _ _ _ h => h) rfl (by cases cd29 <;> rfl) hS ?_ ?_
            rotate_left; (focus (intro hb; intro W hS; (try simp only [Bool.and_eq_true, Bool.not_eq_true'] at hb); have hb0 := hb; (try simp only [hb0, Bool.not_false, Bool.not_true, Bool.and_true, Bool.true_and, Bool.and_self, cond_true, cond_false]); first | (go_simp; done) | (go_simp; with_reducible rfl) | (go_simp; rfl))); all_goals skip; (try simp only [List.set_cons_succ, List.set_cons_zero])
            refine D_maybe 32 (!cd29) rfl (by kernel_rfl) (by kernel_rfl) (by kernel_rfl) (v := ?_) (fun _ _ _ _ h => h) rfl (by cases cd29 <;> rfl) hS ?_ ?_
            rotate_left; (focus (intro hb; intro W hS; (try simp only [Bool.and_eq_true, Bool.not_eq_true'] at hb); have hb0 := hb; (try simp only [hb0, Bool.not_false, Bool.not_true, Bool.and_true, Bool.true_and, Bool.and_self, cond_true, cond_false]); first | (refine R_load1 (ty := 3) (x := Operand.tmp 151) rfl hS 0 rfl rfl ?_ Try.isAgg3; rfl) | (refine R_load1 (ty := 3) (x := Operand.tmp 151) rfl hS 1 rfl rfl ?_ Try.isAgg3; rfl))); all_goals skip; (try simp only [List.set_cons_succ, List.set_cons_zero, List.getElem_toArray, List.getElem_cons_succ, List.getElem_cons_zero])
            refine D_maybeB 33 (!cd29) rfl (by kernel_rfl) (by kernel_rfl) (by kernel_rfl) (q := ?_) (fun _ _ _ _ h => h) rfl (by cases cd29 <;> rfl) hS ?_ ?_
            rotate_left; (focus (intro hb; intro W hS; (try simp only [Bool.and_eq_true, Bool.not_eq_true'] at hb); have hb0 := hb; (try simp only [hb0, Bool.not_false, Bool.not_true, Bool.and_true, Bool.true_and, Bool.and_self, cond_true, cond_false]); first | (go_simp; done) | (go_simp; with_reducible rfl) | (go_simp; rfl))); all_goals skip; (try simp only [List.set_cons_succ, List.set_cons_zero])
            intro cd33 Hcd33
            refine D_takeB 34 rfl (by kernel_rfl) (by kernel_rfl) (by kernel_rfl) (q := (cd29 || cd33)) (fun _ _ _ h => h) rfl (by rfl) hS ?_ ?_
            (focus (intro W hS; cases cd29 <;> cases cd33 <;> (first | (go_simp; done) | (go_simp; with_reducible rfl) | (go_simp; rfl)))); all_goals skip; (try simp only [List.set_cons_succ, List.set_cons_zero])
            intro cd34 Hcd34
            refine D_take 35 rfl (by kernel_rfl) (by kernel_rfl) (by kernel_rfl) (v := ?_) (fun _ _ _ h => h) rfl (by rfl) ?_ hS ?_
            rotate_left; (focus (intro W hS; first | (go_simp; done) | (go_simp; with_reducible rfl) | (go_simp; rfl))); all_goals skip; (try simp only [List.set_cons_succ, List.set_cons_zero])
            refine D_maybe 36 (!cd34) rfl (by kernel_rfl) (by kernel_rfl) (by kernel_rfl) (v := ?_) (fun _ _ _ _ h => h) rfl (by cases cd34 <;> rfl) hS ?_ ?_
            rotate_left; (focus (intro hb; intro W hS; (try simp only [Bool.and_eq_true, Bool.not_eq_true'] at hb); have hb0 := hb; (try simp only [hb0, Bool.not_false, Bool.not_true, Bool.and_true, Bool.true_and, Bool.and_self, cond_true, cond_false]); first | (go_simp; done) | (go_simp; with_reducible rfl) | (go_simp; rfl))); all_goals skip; (try simp only [List.set_cons_succ, List.set_cons_zero])
            refine D_maybe 37 (!cd34) rfl (by kernel_rfl) (by kernel_rfl) (by kernel_rfl) (v := ?_) (fun _ _ _ _ h => h) rfl (by cases cd34 <;> rfl) hS ?_ ?_
            rotate_left; (focus (intro hb; intro W hS; (try simp only [Bool.and_eq_true, Bool.not_eq_true'] at hb); have hb0 := hb; (try simp only [hb0, Bool.not_false, Bool.not_true, Bool.and_true, Bool.true_and, Bool.and_self, cond_true, cond_false]); first | (refine R_load1 (ty := 3) (x := Operand.tmp 156) rfl hS 0 rfl rfl ?_ Try.isAgg3; rfl) | (refine R_load1 (ty := 3) (x := Operand.tmp 156) rfl hS 1 rfl rfl ?_ Try.isAgg3; rfl))); all_goals skip; (try simp only [List.set_cons_succ, List.set_cons_zero, List.getElem_toArray, List.getElem_cons_succ, List.getElem_cons_zero])
            refine D_maybe 38 (!cd34) rfl (by kernel_rfl) (by kernel_rfl) (by kernel_rfl) (v := ?_) (fun _ _ _ _ h => h) rfl (by cases cd34 <;> rfl) hS ?_ ?_
            rotate_left; (focus (intro hb; intro W hS; (try simp only [Bool.and_eq_true, Bool.not_eq_true'] at hb); have hb0 := hb; (try simp only [hb0, Bool.not_false, Bool.not_true, Bool.and_true, Bool.true_and, Bool.and_self, cond_true, cond_false]); first | (go_simp; done) | (go_simp; with_reducible rfl) | (go_simp; rfl))); all_goals skip; (try simp only [List.set_cons_succ, List.set_cons_zero])
            refine D_maybe 39 (!cd34) rfl (by kernel_rfl) (by kernel_rfl) (by kernel_rfl) (v := ?_) (fun _ _ _ _ h => h) rfl (by cases cd34 <;> rfl) hS ?_ ?_
            rotate_left; (focus (intro hb; intro W hS; (try simp only [Bool.and_eq_true, Bool.not_eq_true'] at hb); have hb0 := hb; (try simp only [hb0, Bool.not_false, Bool.not_true, Bool.and_true, Bool.true_and, Bool.and_self, cond_true, cond_false]); first | (refine R_load1 (ty := 3) (x := Operand.tmp 158) rfl hS 0 rfl rfl ?_ Try.isAgg3; rfl) | (refine R_load1 (ty := 3) (x := Operand.tmp 158) rfl hS 1 rfl rfl ?_ Try.isAgg3; rfl))); all_goals skip; (try simp only [List.set_cons_succ, List.set_cons_zero, List.getElem_toArray, List.getElem_cons_succ, List.getElem_cons_zero])
            refine D_maybeB 40 (!cd34) rfl (by kernel_rfl) (by kernel_rfl) (by kernel_rfl) (q := ?_) (fun _ _ _ _ h => h) rfl (by cases cd34 <;> rfl) hS ?_ ?_
            rotate_left; (focus (intro hb; intro W hS; (try simp only [Bool.and_eq_true, Bool.not_eq_true'] at hb); have hb0 := hb; (try simp only [hb0, Bool.not_false, Bool.not_true, Bool.and_true, Bool.true_and, Bool.and_self, cond_true, cond_false]); first | (go_simp; done) | (go_simp; with_reducible rfl) | (go_simp; rfl))); all_goals skip; (try simp only [List.set_cons_succ, List.set_cons_zero])
            intro cd40 Hcd40
            refine D_takeB 41 rfl (by kernel_rfl) (by kernel_rfl) (by kernel_rfl) (q := (cd34 || cd40)) (fun _ _ _ h => h) rfl (by rfl) hS ?_ ?_
            (focus (intro W hS; cases cd34 <;> cases cd40 <;> (first | (go_simp; done) | (go_simp; with_reducible rfl) | (go_simp; rfl)))); all_goals skip; (try simp only [List.set_cons_succ, List.set_cons_zero])
            intro cd41 Hcd41
            refine D_take 42 rfl (by kernel_rfl) (by kernel_rfl) (by kernel_rfl) (v := ?_) (fun _ _ _ h => h) rfl (by rfl) ?_ hS ?_
            rotate_left; (focus (intro W hS; first | (go_simp; done) | (go_simp; with_reducible rfl) | (go_simp; rfl))); all_goals skip; (try simp only [List.set_cons_succ, List.set_cons_zero])
            refine D_maybe 43 (!cd41) rfl (by kernel_rfl) (by kernel_rfl) (by kernel_rfl) (v := ?_) (fun _ _ _ _ h => h) rfl (by cases cd41 <;> rfl) hS ?_ ?_
            rotate_left; (focus (intro hb; intro W hS; (try simp only [Bool.and_eq_true, Bool.not_eq_true'] at hb); have hb0 := hb; (try simp only [hb0, Bool.not_false, Bool.not_true, Bool.and_true, Bool.true_and, Bool.and_self, cond_true, cond_false]); first | (go_simp; done) | (go_simp; with_reducible rfl) | (go_simp; rfl))); all_goals skip; (try simp only [List.set_cons_succ, List.set_cons_zero])
            refine D_maybe 44 (!cd41) rfl (by kernel_rfl) (by kernel_rfl) (by kernel_rfl) (v := ?_) (fun _ _ _ _ h => h) rfl (by cases cd41 <;> rfl) hS ?_ ?_
            rotate_left; (focus (intro hb; intro W hS; (try simp only [Bool.and_eq_true, Bool.not_eq_true'] at hb); have hb0 := hb; (try simp only [hb0, Bool.not_false, Bool.not_true, Bool.and_true, Bool.true_and, Bool.and_self, cond_true, cond_false]); first | (refine R_load1 (ty := 34) (x := Operand.tmp 163) rfl hS 0 rfl rfl ?_ Try.isAgg34; rfl) | (refine R_load1 (ty := 34) (x := Operand.tmp 163) rfl hS 1 rfl rfl ?_ Try.isAgg34; rfl))); all_goals skip; (try simp only [List.set_cons_succ, List.set_cons_zero, List.getElem_toArray, List.getElem_cons_succ, List.getElem_cons_zero])
            refine D_maybe 45 (!cd41) rfl (by kernel_rfl) (by kernel_rfl) (by kernel_rfl) (v := ?_) (fun _ _ _ _ h => h) rfl (by cases cd41 <;> rfl) hS ?_ ?_
            rotate_left; (focus (intro hb; intro W hS; (try simp only [Bool.and_eq_true, Bool.not_eq_true'] at hb); have hb0 := hb; (try simp only [hb0, Bool.not_false, Bool.not_true, Bool.and_true, Bool.true_and, Bool.and_self, cond_true, cond_false]); first | (go_simp; done) | (go_simp; with_reducible rfl) | (go_simp; rfl))); all_goals skip; (try simp only [List.set_cons_succ, List.set_cons_zero])
            refine D_maybeB 46 (!cd41) rfl (by kernel_rfl) (by kernel_rfl) (by kernel_rfl) (q := ?_) (fun _ _ _ _ h => h) rfl (by cases cd41 <;> rfl) hS ?_ ?_
            rotate_left; (focus (intro hb; intro W hS; (try simp only [Bool.and_eq_true, Bool.not_eq_true'] at hb); have hb0 := hb; (try simp only [hb0, Bool.not_false, Bool.not_true, Bool.and_true, Bool.true_and, Bool.and_self, cond_true, cond_false]); first | (go_simp; done) | (go_simp; with_reducible rfl) | (go_simp; rfl))); all_goals skip; (try simp only [List.set_cons_succ, List.set_cons_zero])
            intro cd46 Hcd46
            refine D_takeB 47 rfl (by kernel_rfl) (by kernel_rfl) (by kernel_rfl) (q := (cd41 || cd46)) (fun _ _ _ h => h) rfl (by rfl) hS ?_ ?_
            (focus (intro W hS; cases cd41 <;> cases cd46 <;> (first | (go_simp; done) | (go_simp; with_reducible rfl) | (go_simp; rfl)))); all_goals skip; (try simp only [List.set_cons_succ, List.set_cons_zero])
            intro cd47 Hcd47
            have hrow := Hcd47.out
            simp only [Hcd6.out, Hcd21.out, Hcd22.out, Hcd29.out, Hcd34.out, Hcd41.out, Hcd1.out, Hcd5.out, Hcd9.out, Hcd20.out, Hcd28.out, Hcd33.out, Hcd40.out, Hcd46.out] at hrow
            replace hrow := Lib.hid hrow
            clear Hcd6 Hcd21 Hcd22 Hcd29 Hcd34 Hcd41 Hcd47 Hcd1 Hcd5 Hcd9 Hcd20 Hcd28 Hcd33 Hcd40 Hcd46
            refine wpAnyH_done (by kernel_rfl) ?_ _
            go_wp2_with fail
            go_meet
            case rel => exact ⟨by rw [HOK.out, hrow.out]; refine congrArg _ (Bool.eq_iff_iff.2 ?_); simp; omega, hS⟩
          · obtain ⟨m, rfl⟩ : ∃ m, k = m + 1 := ⟨k - 1, by omega⟩
            have hkn0 : (0 : Int) < ((m + 1 : Nat) : Int) := by omega
            have hm1 : (m : Int) < (ps.length : Int) := by omega
            have hwm : IntKind.i64.wrap (m : Int) = (m : Int) := by rw [IntKind.wrap_i64]; omega
            obtain ⟨c, hc, hpid⟩ := HPID.out m rfl
            have hcAv := HCA.out m rfl c hc
            generalize c.id = pid at *
            subst hcAv
            clear HCA HPID hc
            refine D_start H (by kernel_rfl) (fun hS => ?_)
            try simp only [Act.put, List.setIfInBounds_toArray, List.set_cons_succ, List.set_cons_zero]
            refine D_take 0 rfl (by kernel_rfl) (by kernel_rfl) (by kernel_rfl) (v := ?_) (fun _ _ _ h => h) rfl (by rfl) ?_ hS ?_
            rotate_left; (focus (intro W hS; first | (go_simp; done) | (go_simp; with_reducible rfl) | (go_simp; rfl))); all_goals skip; (try simp only [List.set_cons_succ, List.set_cons_zero])
            refine D_takeB 1 rfl (by kernel_rfl) (by kernel_rfl) (by kernel_rfl) (q := ?_) (fun _ _ _ h => h) rfl (by rfl) hS ?_ ?_
            rotate_left; (focus (intro W hS; first | (go_simp; done) | (go_simp; with_reducible rfl) | (go_simp; rfl))); all_goals skip; (try simp only [List.set_cons_succ, List.set_cons_zero])
            intro cd1 Hcd1
            refine D_take 2 rfl (by kernel_rfl) (by kernel_rfl) (by kernel_rfl) (v := ?_) (fun _ _ _ h => h) rfl (by rfl) ?_ hS ?_
            rotate_left; (focus (intro W hS; first | (go_simp; done) | (go_simp; with_reducible rfl) | (go_simp; rfl))); all_goals skip; (try simp only [List.set_cons_succ, List.set_cons_zero])
            refine D_maybe 3 cd1 rfl (by kernel_rfl) (by kernel_rfl) (by kernel_rfl) (v := ?_) (fun _ _ _ _ h => h) rfl (by cases cd1 <;> rfl) hS ?_ ?_
            rotate_left; (focus (intro hb; intro W hS; (try simp only [Bool.and_eq_true, Bool.not_eq_true'] at hb); have hb0 := hb; (try simp only [hb0, Bool.not_false, Bool.not_true, Bool.and_true, Bool.true_and, Bool.and_self, cond_true, cond_false]); first | (go_simp; done) | (go_simp; with_reducible rfl) | (go_simp; rfl))); all_goals skip; (try simp only [List.set_cons_succ, List.set_cons_zero])
            refine D_maybe 4 cd1 rfl (by kernel_rfl) (by kernel_rfl) (by kernel_rfl) (v := ?_) (fun _ _ _ _ h => h) rfl (by cases cd1 <;> rfl) hS ?_ ?_
            rotate_left; (focus (intro hb; intro W hS; (try simp only [Bool.and_eq_true, Bool.not_eq_true'] at hb); have hb0 := hb; (try simp only [hb0, Bool.not_false, Bool.not_true, Bool.and_true, Bool.true_and, Bool.and_self, cond_true, cond_false]); first | (refine R_load1 (ty := 3) (x := Operand.tmp 123) rfl hS 0 rfl rfl ?_ Try.isAgg3; rfl) | (refine R_load1 (ty := 3) (x := Operand.tmp 123) rfl hS 1 rfl rfl ?_ Try.isAgg3; rfl))); all_goals skip; (try simp only [List.set_cons_succ, List.set_cons_zero, List.getElem_toArray, List.getElem_cons_succ, List.getElem_cons_zero])
            refine D_maybeB 5 cd1 rfl (by kernel_rfl) (by kernel_rfl) (by kernel_rfl) (q := ?_) (fun _ _ _ _ h => h) rfl (by cases cd1 <;> rfl) hS ?_ ?_
            rotate_left; (focus (intro hb; intro W hS; (try simp only [Bool.and_eq_true, Bool.not_eq_true'] at hb); have hb0 := hb; (try simp only [hb0, Bool.not_false, Bool.not_true, Bool.and_true, Bool.true_and, Bool.and_self, cond_true, cond_false]); first | (go_simp; done) | (go_simp; with_reducible rfl) | (go_simp; rfl))); all_goals skip; (try simp only [List.set_cons_succ, List.set_cons_zero])
            intro cd5 Hcd5
            refine D_takeB 6 rfl (by kernel_rfl) (by kernel_rfl) (by kernel_rfl) (q := (cd1 && cd5)) (fun _ _ _ h => h) rfl (by rfl) hS ?_ ?_
            (focus (intro W hS; cases cd1 <;> cases cd5 <;> (first | (go_simp; done) | (go_simp; with_reducible rfl) | (go_simp; rfl)))); all_goals skip; (try simp only [List.set_cons_succ, List.set_cons_zero])
            intro cd6 Hcd6
            refine D_take 7 rfl (by kernel_rfl) (by kernel_rfl) (by kernel_rfl) (v := ?_) (fun _ _ _ h => h) rfl (by rfl) ?_ hS ?_
            rotate_left; (focus (intro W hS; first | (go_simp; done) | (go_simp; with_reducible rfl) | (go_simp; rfl))); all_goals skip; (try simp only [List.set_cons_succ, List.set_cons_zero])
            refine D_maybe 8 (!cd6) rfl (by kernel_rfl) (by kernel_rfl) (by kernel_rfl) (v := ?_) (fun _ _ _ _ h => h) rfl (by cases cd6 <;> rfl) hS ?_ ?_
            rotate_left; (focus (intro hb; intro W hS; (try simp only [Bool.and_eq_true, Bool.not_eq_true'] at hb); have hb0 := hb; (try simp only [hb0, Bool.not_false, Bool.not_true, Bool.and_true, Bool.true_and, Bool.and_self, cond_true, cond_false]); first | (go_simp; done) | (go_simp; with_reducible rfl) | (go_simp; rfl))); all_goals skip; (try simp only [List.set_cons_succ, List.set_cons_zero])
            refine D_maybeB 9 (!cd6) rfl (by kernel_rfl) (by kernel_rfl) (by kernel_rfl) (q := ?_) (fun _ _ _ _ h => h) rfl (by cases cd6 <;> rfl) hS ?_ ?_
            rotate_left; (focus (intro hb; intro W hS; (try simp only [Bool.and_eq_true, Bool.not_eq_true'] at hb); have hb0 := hb; (try simp only [hb0, Bool.not_false, Bool.not_true, Bool.and_true, Bool.true_and, Bool.and_self, cond_true, cond_false]); first | (go_simp; done) | (go_simp; with_reducible rfl) | (go_simp; rfl))); all_goals skip; (try simp only [List.set_cons_succ, List.set_cons_zero])
            intro cd9 Hcd9
            refine D_maybe 10 (!cd6) rfl (by kernel_rfl) (by kernel_rfl) (by kernel_rfl) (v := ?_) (fun _ _ _ _ h => h) rfl (by cases cd6 <;> rfl) hS ?_ ?_
            rotate_left; (focus (intro hb; intro W hS; (try simp only [Bool.and_eq_true, Bool.not_eq_true'] at hb); have hb0 := hb; (try simp only [hb0, Bool.not_false, Bool.not_true, Bool.and_true, Bool.true_and, Bool.and_self, cond_true, cond_false]); first | (go_simp; done) | (go_simp; with_reducible rfl) | (go_simp; rfl))); all_goals skip; (try simp only [List.set_cons_succ, List.set_cons_zero])
            refine D_maybe 11 ((!cd6) && cd9) rfl (by kernel_rfl) (by kernel_rfl) (by kernel_rfl) (v := ?_) (fun _ _ _ _ h => h) rfl (by cases cd6 <;> cases cd9 <;> rfl) hS ?_ ?_
            rotate_left; (focus (intro hb; intro W hS; (try simp only [Bool.and_eq_true, Bool.not_eq_true'] at hb); obtain ⟨hb0, hb1⟩ := hb; (try simp only [hb0, hb1, Bool.not_false, Bool.not_true, Bool.and_true, Bool.true_and, Bool.and_self, cond_true, cond_false]); first | (go_simp; done) | (go_simp; with_reducible rfl) | (go_simp; rfl))); all_goals skip; (try simp only [List.set_cons_succ, List.set_cons_zero])
            refine D_maybe 12 ((!cd6) && cd9) rfl (by kernel_rfl) (by kernel_rfl) (by kernel_rfl) (v := ?_) (fun _ _ _ _ h => h) rfl (by cases cd6 <;> cases cd9 <;> rfl) hS ?_ ?_
            rotate_left; (focus (intro hb; intro W hS; (try simp only [Bool.and_eq_true, Bool.not_eq_true'] at hb); obtain ⟨hb0, hb1⟩ := hb; (try simp only [hb0, hb1, Bool.not_false, Bool.not_true, Bool.and_true, Bool.true_and, Bool.and_self, cond_true, cond_false]); first | (refine R_load1 (ty := 3) (x := Operand.tmp 131) rfl hS 0 rfl rfl ?_ Try.isAgg3; rfl) | (refine R_load1 (ty := 3) (x := Operand.tmp 131) rfl hS 1 rfl rfl ?_ Try.isAgg3; rfl))); all_goals skip; (try simp only [List.set_cons_succ, List.set_cons_zero, List.getElem_toArray, List.getElem_cons_succ, List.getElem_cons_zero])
            refine D_maybe 13 ((!cd6) && cd9) rfl (by kernel_rfl) (by kernel_rfl) (by kernel_rfl) (v := ?_) (fun _ _ _ _ h => h) rfl (by cases cd6 <;> cases cd9 <;> rfl) hS ?_ ?_
            rotate_left; (focus (intro hb; intro W hS; (try simp only [Bool.and_eq_true, Bool.not_eq_true'] at hb); obtain ⟨hb0, hb1⟩ := hb; (try simp only [hb0, hb1, Bool.not_false, Bool.not_true, Bool.and_true, Bool.true_and, Bool.and_self, cond_true, cond_false]); first | (go_simp; done) | (go_simp; with_reducible rfl) | (go_simp; rfl))); all_goals skip; (try simp only [List.set_cons_succ, List.set_cons_zero])
            refine D_maybe 14 ((!cd6) && cd9) rfl (by kernel_rfl) (by kernel_rfl) (by kernel_rfl) (v := ?_) (fun _ _ _ _ h => h) rfl (by cases cd6 <;> cases cd9 <;> rfl) hS ?_ ?_
            rotate_left; (focus (intro hb; intro W hS; (try simp only [Bool.and_eq_true, Bool.not_eq_true'] at hb); obtain ⟨hb0, hb1⟩ := hb; (try simp only [hb0, hb1, Bool.not_false, Bool.not_true, Bool.and_true, Bool.true_and, Bool.and_self, cond_true, cond_false]); first | (refine R_load1 (ty := 22) (x := Operand.tmp 133) rfl hS 0 rfl rfl ?_ Try.isAgg22; rfl) | (refine R_load1 (ty := 22) (x := Operand.tmp 133) rfl hS 1 rfl rfl ?_ Try.isAgg22; rfl))); all_goals skip; (try simp only [List.set_cons_succ, List.set_cons_zero, List.getElem_toArray, List.getElem_cons_succ, List.getElem_cons_zero])
            refine D_maybe 15 ((!cd6) && cd9) rfl (by kernel_rfl) (by kernel_rfl) (by kernel_rfl) (v := ?_) (fun _ _ _ _ h => h) rfl (by cases cd6 <;> cases cd9 <;> rfl) hS ?_ ?_
            rotate_left; (focus (intro hb; intro W hS; (try simp only [Bool.and_eq_true, Bool.not_eq_true'] at hb); obtain ⟨hb0, hb1⟩ := hb; (try simp only [hb0, hb1, Bool.not_false, Bool.not_true, Bool.and_true, Bool.true_and, Bool.and_self, cond_true, cond_false]); first | (go_simp; done) | (go_simp; with_reducible rfl) | (go_simp; rfl))); all_goals skip; (try simp only [List.set_cons_succ, List.set_cons_zero])
            refine D_maybe 16 ((!cd6) && cd9) rfl (by kernel_rfl) (by kernel_rfl) (by kernel_rfl) (v := ?_) (fun _ _ _ _ h => h) rfl (by cases cd6 <;> cases cd9 <;> rfl) hS ?_ ?_
            rotate_left; (focus (intro hb; intro W hS; (try simp only [Bool.and_eq_true, Bool.not_eq_true'] at hb); obtain ⟨hb0, hb1⟩ := hb; (try simp only [hb0, hb1, Bool.not_false, Bool.not_true, Bool.and_true, Bool.true_and, Bool.and_self, cond_true, cond_false]); first | (go_simp; done) | (go_simp; with_reducible rfl) | (go_simp; rfl))); all_goals skip; (try simp only [List.set_cons_succ, List.set_cons_zero])
            refine D_maybe 17 ((!cd6) && cd9) rfl (by kernel_rfl) (by kernel_rfl) (by kernel_rfl) (v := ?_) (fun _ _ _ _ h => h) rfl (by cases cd6 <;> cases cd9 <;> rfl) hS ?_ ?_
            rotate_left; (focus (intro hb; intro W hS; (try simp only [Bool.and_eq_true, Bool.not_eq_true'] at hb); obtain ⟨hb0, hb1⟩ := hb; (try simp only [hb0, hb1, Bool.not_false, Bool.not_true, Bool.and_true, Bool.true_and, Bool.and_self, cond_true, cond_false]); first | (go_simp; done) | (go_simp; with_reducible rfl) | (go_simp; rfl))); all_goals skip; (try simp only [List.set_cons_succ, List.set_cons_zero])
            refine D_maybe 18 ((!cd6) && cd9) rfl (by kernel_rfl) (by kernel_rfl) (by kernel_rfl) (v := ?_) (fun _ _ _ _ h => h) rfl (by cases cd6 <;> cases cd9 <;> rfl) hS ?_ ?_
            rotate_left; (focus (intro hb; intro W hS; (try simp only [Bool.and_eq_true, Bool.not_eq_true'] at hb); obtain ⟨hb0, hb1⟩ := hb; (try simp only [hb0, hb1, Bool.not_false, Bool.not_true, Bool.and_true, Bool.true_and, Bool.and_self, cond_true, cond_false]); first | (go_simp; done) | (go_simp; with_reducible rfl) | (go_simp; rfl))); all_goals skip; (try simp only [List.set_cons_succ, List.set_cons_zero])
            refine D_maybe 19 ((!cd6) && cd9) rfl (by kernel_rfl) (by kernel_rfl) (by kernel_rfl) (v := (.int .i64 pid)) (fun _ _ _ _ h => h) rfl (by cases cd6 <;> cases cd9 <;> rfl) hS ?_ ?_
            (focus (intro hb; intro W hS; (try simp only [Bool.and_eq_true, Bool.not_eq_true'] at hb); obtain ⟨hb0, hb1⟩ := hb; (try simp only [hb0, hb1, Bool.not_false, Bool.not_true, Bool.and_true, Bool.true_and, Bool.and_self, cond_true, cond_false]); exact R_load1r (ty := 3) (x := .tmp 138) (off := off + m * 6) rfl hS rfl hbb (fun e => e) hpid Try.isAgg3)); all_goals skip; (try simp only [List.set_cons_succ, List.set_cons_zero, List.getElem_toArray, List.getElem_cons_succ, List.getElem_cons_zero])
            refine D_maybeB 20 ((!cd6) && cd9) rfl (by kernel_rfl) (by kernel_rfl) (by kernel_rfl) (q := ?_) (fun _ _ _ _ h => h) rfl (by cases cd6 <;> cases cd9 <;> rfl) hS ?_ ?_
            rotate_left; (focus (intro hb; intro W hS; (try simp only [Bool.and_eq_true, Bool.not_eq_true'] at hb); obtain ⟨hb0, hb1⟩ := hb; (try simp only [hb0, hb1, Bool.not_false, Bool.not_true, Bool.and_true, Bool.true_and, Bool.and_self, cond_true, cond_false]); first | (go_simp; done) | (go_simp; with_reducible rfl) | (go_simp; rfl))); all_goals skip; (try simp only [List.set_cons_succ, List.set_cons_zero])
            intro cd20 Hcd20
            refine D_maybeB 21 (!cd6) rfl (by kernel_rfl) (by kernel_rfl) (by kernel_rfl) (q := (cd9 && cd20)) (fun _ _ _ _ h => h) rfl (by cases cd6 <;> rfl) hS ?_ ?_
            (focus (intro hb; intro W hS; cases cd20 <;> cases cd6 <;> cases cd9 <;> first | (exact absurd hb (by decide)) | (first | (go_simp; done) | (go_simp; with_reducible rfl) | (go_simp; rfl)))); all_goals skip; (try simp only [List.set_cons_succ, List.set_cons_zero])
            intro cd21 Hcd21
            refine D_takeB 22 rfl (by kernel_rfl) (by kernel_rfl) (by kernel_rfl) (q := (cd6 || cd21)) (fun _ _ _ h => h) rfl (by rfl) hS ?_ ?_
            (focus (intro W hS; cases cd21 <;> cases cd6 <;> (first | (go_simp; done) | (go_simp; with_reducible rfl) | (go_simp; rfl)))); all_goals skip; (try simp only [List.set_cons_succ, List.set_cons_zero])
            intro cd22 Hcd22
            refine D_take 23 rfl (by kernel_rfl) (by kernel_rfl) (by kernel_rfl) (v := ?_) (fun _ _ _ h => h) rfl (by rfl) ?_ hS ?_
            rotate_left; (focus (intro W hS; first | (go_simp; done) | (go_simp; with_reducible rfl) | (go_simp; rfl))); all_goals skip; (try simp only [List.set_cons_succ, List.set_cons_zero])
            refine D_maybe 24 (!cd22) rfl (by kernel_rfl) (by kernel_rfl) (by kernel_rfl) (v := ?_) (fun _ _ _ _ h => h) rfl (by cases cd22 <;> rfl) hS ?_ ?_
            rotate_left; (focus (intro hb; intro W hS; (try simp only [Bool.and_eq_true, Bool.not_eq_true'] at hb); have hb0 := hb; (try simp only [hb0, Bool.not_false, Bool.not_true, Bool.and_true, Bool.true_and, Bool.and_self, cond_true, cond_false]); first | (go_simp; done) | (go_simp; with_reducible rfl) | (go_simp; rfl))); all_goals skip; (try simp only [List.set_cons_succ, List.set_cons_zero])
            refine D_maybe 25 (!cd22) rfl (by kernel_rfl) (by kernel_rfl) (by kernel_rfl) (v := ?_) (fun _ _ _ _ h => h) rfl (by cases cd22 <;> rfl) hS ?_ ?_
            rotate_left; (focus (intro hb; intro W hS; (try simp only [Bool.and_eq_true, Bool.not_eq_true'] at hb); have hb0 := hb; (try simp only [hb0, Bool.not_false, Bool.not_true, Bool.and_true, Bool.true_and, Bool.and_self, cond_true, cond_false]); first | (refine R_load1 (ty := 3) (x := Operand.tmp 144) rfl hS 0 rfl rfl ?_ Try.isAgg3; rfl) | (refine R_load1 (ty := 3) (x := Operand.tmp 144) rfl hS 1 rfl rfl ?_ Try.isAgg3; rfl))); all_goals skip; (try simp only [List.set_cons_succ, List.set_cons_zero, List.getElem_toArray, List.getElem_cons_succ, List.getElem_cons_zero])
            refine D_maybe 26 (!cd22) rfl (by kernel_rfl) (by kernel_rfl) (by kernel_rfl) (v := ?_) (fun _ _ _ _ h => h) rfl (by cases cd22 <;> rfl) hS ?_ ?_
            rotate_left; (focus (intro hb; intro W hS; (try simp only [Bool.and_eq_true, Bool.not_eq_true'] at hb); have hb0 := hb; (try simp only [hb0, Bool.not_false, Bool.not_true, Bool.and_true, Bool.true_and, Bool.and_self, cond_true, cond_false]); first | (go_simp; done) | (go_simp; with_reducible rfl) | (go_simp; rfl))); all_goals skip; (try simp only [List.set_cons_succ, List.set_cons_zero])
            refine D_maybe 27 (!cd22) rfl (by kernel_rfl) (by kernel_rfl) (by kernel_rfl) (v := ?_) (fun _ _ _ _ h => h) rfl (by cases cd22 <;> rfl) hS ?_ ?_
            rotate_left; (focus (intro hb; intro W hS; (try simp only [Bool.and_eq_true, Bool.not_eq_true'] at hb); have hb0 := hb; (try simp only [hb0, Bool.not_false, Bool.not_true, Bool.and_true, Bool.true_and, Bool.and_self, cond_true, cond_false]); first | (refine R_load1 (ty := 3) (x := Operand.tmp 146) rfl hS 0 rfl rfl ?_ Try.isAgg3; rfl) | (refine R_load1 (ty := 3) (x := Operand.tmp 146) rfl hS 1 rfl rfl ?_ Try.isAgg3; rfl))); all_goals skip; (try simp only [List.set_cons_succ, List.set_cons_zero, List.getElem_toArray, List.getElem_cons_succ, List.getElem_cons_zero])
            refine D_maybeB 28 (!cd22) rfl (by kernel_rfl) (by kernel_rfl) (by kernel_rfl) (q := ?_) (fun _ _ _ _ h => h) rfl (by cases cd22 <;> rfl) hS ?_ ?_
            rotate_left; (focus (intro hb; intro W hS; (try simp only [Bool.and_eq_true, Bool.not_eq_true'] at hb); have hb0 := hb; (try simp only [hb0, Bool.not_false, Bool.not_true, Bool.and_true, Bool.true_and, Bool.and_self, cond_true, cond_false]); first | (go_simp; done) | (go_simp; with_reducible rfl) | (go_simp; rfl))); all_goals skip; (try simp only [List.set_cons_succ, List.set_cons_zero])
            intro cd28 Hcd28
            refine D_takeB 29 rfl (by kernel_rfl) (by kernel_rfl) (by kernel_rfl) (q := (cd22 || cd28)) (fun _ _ _ h => h) rfl (by rfl) hS ?_ ?_
            (focus (intro W hS; cases cd22 <;> cases cd28 <;> (first | (go_simp; done) | (go_simp; with_reducible rfl) | (go_simp; rfl)))); all_goals skip; (try simp only [List.set_cons_succ, List.set_cons_zero])
            intro cd29 Hcd29
            refine D_take 30 rfl (by kernel_rfl) (by kernel_rfl) (by kernel_rfl) (v := ?_) (fun _ _ _ h => h) rfl (by rfl) ?_ hS ?_
            rotate_left; (focus (intro W hS; first | (go_simp; done) | (go_simp; with_reducible rfl) | (go_simp; rfl))); all_goals skip; (try simp only [List.set_cons_succ, List.set_cons_zero])
            refine D_maybe 31 (!cd29) rfl (by kernel_rfl) (by kernel_rfl) (by kernel_rfl) (v := ?_) (fun _ _ _ _ h => h) rfl (by cases cd29 <;> rfl) hS ?_ ?_
            rotate_left; (focus (intro hb; intro W hS; (try simp only [Bool.and_eq_true, Bool.not_eq_true'] at hb); have hb0 := hb; (try simp only [hb0, Bool.not_false, Bool.not_true, Bool.and_true, Bool.true_and, Bool.and_self, cond_true, cond_false]); first | (go_simp; done) | (go_simp; with_reducible rfl) | (go_simp; rfl))); all_goals skip; (try simp only [List.set_cons_succ, List.set_cons_zero])
            refine D_maybe 32 (!cd29) rfl (by kernel_rfl) (by kernel_rfl) (by kernel_rfl) (v := ?_) (fun _ _ _ _ h => h) rfl (by cases cd29 <;> rfl) hS ?_ ?_
            rotate_left; (focus (intro hb; intro W hS; (try simp only [Bool.and_eq_true, Bool.not_eq_true'] at hb); have hb0 := hb; (try simp only [hb0, Bool.not_false, Bool.not_true, Bool.and_true, Bool.true_and, Bool.and_self, cond_true, cond_false]); first | (refine R_load1 (ty := 3) (x := Operand.tmp 151) rfl hS 0 rfl rfl ?_ Try.isAgg3; rfl) | (refine R_load1 (ty := 3) (x := Operand.tmp 151) rfl hS 1 rfl rfl ?_ Try.isAgg3; rfl))); all_goals skip; (try simp only [List.set_cons_succ, List.set_cons_zero, List.getElem_toArray, List.getElem_cons_succ, List.getElem_cons_zero])
            refine D_maybeB 33 (!cd29) rfl (by kernel_rfl) (by kernel_rfl) (by kernel_rfl) (q := ?_) (fun _ _ _ _ h => h) rfl (by cases cd29 <;> rfl) hS ?_ ?_
            rotate_left; (focus (intro hb; intro W hS; (try simp only [Bool.and_eq_true, Bool.not_eq_true'] at hb); have hb0 := hb; (try simp only [hb0, Bool.not_false, Bool.not_true, Bool.and_true, Bool.true_and, Bool.and_self, cond_true, cond_false]); first | (go_simp; done) | (go_simp; with_reducible rfl) | (go_simp; rfl))); all_goals skip; (try simp only [List.set_cons_succ, List.set_cons_zero])
            intro cd33 Hcd33
            refine D_takeB 34 rfl (by kernel_rfl) (by kernel_rfl) (by kernel_rfl) (q := (cd29 || cd33)) (fun _ _ _ h => h) rfl (by rfl) hS ?_ ?_
            (focus (intro W hS; cases cd29 <;> cases cd33 <;> (first | (go_simp; done) | (go_simp; with_reducible rfl) | (go_simp; rfl)))); all_goals skip; (try simp only [List.set_cons_succ, List.set_cons_zero])
            intro cd34 Hcd34
            refine D_take 35 rfl (by kernel_rfl) (by kernel_rfl) (by kernel_rfl) (v := ?_) (fun _ _ _ h => h) rfl (by rfl) ?_ hS ?_
            rotate_left; (focus (intro W hS; first | (go_simp; done) | (go_simp; with_reducible rfl) | (go_simp; rfl))); all_goals skip; (try simp only [List.set_cons_succ, List.set_cons_zero])
            refine D_maybe 36 (!cd34) rfl (by kernel_rfl) (by kernel_rfl) (by kernel_rfl) (v := ?_) (fun _ _ _ _ h => h) rfl (by cases cd34 <;> rfl) hS ?_ ?_
            rotate_left; (focus (intro hb; intro W hS; (try simp only [Bool.and_eq_true, Bool.not_eq_true'] at hb); have hb0 := hb; (try simp only [hb0, Bool.not_false, Bool.not_true, Bool.and_true, Bool.true_and, Bool.and_self, cond_true, cond_false]); first | (go_simp; done) | (go_simp; with_reducible rfl) | (go_simp; rfl))); all_goals skip; (try simp only [List.set_cons_succ, List.set_cons_zero])
            refine D_maybe 37 (!cd34) rfl (by kernel_rfl) (by kernel_rfl) (by kernel_rfl) (v := ?_) (fun _ _ _ _ h => h) rfl (by cases cd34 <;> rfl) hS ?_ ?_
            rotate_left; (focus (intro hb; intro W hS; (try simp only [Bool.and_eq_true, Bool.not_eq_true'] at hb); have hb0 := hb; (try simp only [hb0, Bool.not_false, Bool.not_true, Bool.and_true, Bool.true_and, Bool.and_self, cond_true, cond_false]); first | (refine R_load1 (ty := 3) (x := Operand.tmp 156) rfl hS 0 rfl rfl ?_ Try.isAgg3; rfl) | (refine R_load1 (ty := 3) (x := Operand.tmp 156) rfl hS 1 rfl rfl ?_ Try.isAgg3; rfl))); all_goals skip; (try simp only [List.set_cons_succ, List.set_cons_zero, List.getElem_toArray, List.getElem_cons_succ, List.getElem_cons_zero])
            refine D_maybe 38 (!cd34) rfl (by kernel_rfl) (by kernel_rfl) (by kernel_rfl) (v := ?_) (fun _ _ _ _ h => h) rfl (by cases cd34 <;> rfl) hS ?_ ?_
            rotate_left; (focus (intro hb; intro W hS; (try simp only [Bool.and_eq_true, Bool.not_eq_true'] at hb); have hb0 := hb; (try simp only [hb0, Bool.not_false, Bool.not_true, Bool.and_true, Bool.true_and, Bool.and_self, cond_true, cond_false]); first | (go_simp; done) | (go_simp; with_reducible rfl) | (go_simp; rfl))); all_goals skip; (try simp only [List.set_cons_succ, List.set_cons_zero])
            refine D_maybe 39 (!cd34) rfl (by kernel_rfl) (by kernel_rfl) (by kernel_rfl) (v := ?_) (fun _ _ _ _ h => h) rfl (by cases cd34 <;> rfl) hS ?_ ?_
            rotate_left; (focus (intro hb; intro W hS; (try simp only [Bool.and_eq_true, Bool.not_eq_true'] at hb); have hb0 := hb; (try simp only [hb0, Bool.not_false, Bool.not_true, Bool.and_true, Bool.true_and, Bool.and_self, cond_true, cond_false]); first | (refine R_load1 (ty := 3) (x := Operand.tmp 158) rfl hS 0 rfl rfl ?_ Try.isAgg3; rfl) | (refine R_load1 (ty := 3) (x := Operand.tmp 158) rfl hS 1 rfl rfl ?_ Try.isAgg3; rfl))); all_goals skip; (try simp only [List.set_cons_succ, List.set_cons_zero, List.getElem_toArray, List.getElem_cons_succ, List.getElem_cons_zero])
            refine D_maybeB 40 (!cd34) rfl (by kernel_rfl) (by kernel_rfl) (by kernel_rfl) (q := ?_) (fun _ _ _ _ h => h) rfl (by cases cd34 <;> rfl) hS ?_ ?_
            rotate_left; (focus (intro hb; intro W hS; (try simp only [Bool.and_eq_true, Bool.not_eq_true'] at hb); have hb0 := hb; (try simp only [hb0, Bool.not_false, Bool.not_true, Bool.and_true, Bool.true_and, Bool.and_self, cond_true, cond_false]); first | (go_simp; done) | (go_simp; with_reducible rfl) | (go_simp; rfl))); all_goals skip; (try simp only [List.set_cons_succ, List.set_cons_zero])
            intro cd40 Hcd40
            refine D_takeB 41 rfl (by kernel_rfl) (by kernel_rfl) (by kernel_rfl) (q := (cd34 || cd40)) (fun _ _ _ h => h) rfl (by rfl) hS ?_ ?_
            (focus (intro W hS; cases cd34 <;> cases cd40 <;> (first | (go_simp; done) | (go_simp; with_reducible rfl) | (go_simp; rfl)))); all_goals skip; (try simp only [List.set_cons_succ, List.set_cons_zero])
            intro cd41 Hcd41
            refine D_take 42 rfl (by kernel_rfl) (by kernel_rfl) (by kernel_rfl) (v := ?_) (fun _ _ _ h => h) rfl (by rfl) ?_ hS ?_
            rotate_left; (focus (intro W hS; first | (go_simp; done) | (go_simp; with_reducible rfl) | (go_simp; rfl))); all_goals skip; (try simp only [List.set_cons_succ, List.set_cons_zero])
            refine D_maybe 43 (!cd41) rfl (by kernel_rfl) (by kernel_rfl) (by kernel_rfl) (v := ?_) (fun _ _ _ _ h => h) rfl (by cases cd41 <;> rfl) hS ?_ ?_
            rotate_left; (focus (intro hb; intro W hS; (try simp only [Bool.and_eq_true, Bool.not_eq_true'] at hb); have hb0 := hb; (try simp only [hb0, Bool.not_false, Bool.not_true, Bool.and_true, Bool.true_and, Bool.and_self, cond_true, cond_false]); first | (go_simp; done) | (go_simp; with_reducible rfl) | (go_simp; rfl))); all_goals skip; (try simp only [List.set_cons_succ, List.set_cons_zero])
            refine D_maybe 44 (!cd41) rfl (by kernel_rfl) (by kernel_rfl) (by kernel_rfl) (v := ?_) (fun _ _ _ _ h => h) rfl (by cases cd41 <;> rfl) hS ?_ ?_
            rotate_left; (focus (intro hb; intro W hS; (try simp only [Bool.and_eq_true, Bool.not_eq_true'] at hb); have hb0 := hb; (try simp only [hb0, Bool.not_false, Bool.not_true, Bool.and_true, Bool.true_and, Bool.and_self, cond_true, cond_false]); first | (refine R_load1 (ty := 34) (x := Operand.tmp 163) rfl hS 0 rfl rfl ?_ Try.isAgg34; rfl) | (refine R_load1 (ty := 34) (x := Operand.tmp 163) rfl hS 1 rfl rfl ?_ Try.isAgg34; rfl))); all_goals skip; (try simp only [List.set_cons_succ, List.set_cons_zero, List.getElem_toArray, List.getElem_cons_succ, List.getElem_cons_zero])
            refine D_maybe 45 (!cd41) rfl (by kernel_rfl) (by kernel_rfl) (by kernel_rfl) (v := ?_) (fun _ _ _ _ h => h) rfl (by cases cd41 <;> rfl) hS ?_ ?_
            rotate_left; (focus (intro hb; intro W hS; (try simp only [Bool.and_eq_true, Bool.not_eq_true'] at hb); have hb0 := hb; (try simp only [hb0, Bool.not_false, Bool.not_true, Bool.and_true, Bool.true_and, Bool.and_self, cond_true, cond_false]); first | (go_simp; done) | (go_simp; with_reducible rfl) | (go_simp; rfl))); all_goals skip; (try simp only [List.set_cons_succ, List.set_cons_zero])
            refine D_maybeB 46 (!cd41) rfl (by kernel_rfl) (by kernel_rfl) (by kernel_rfl) (q := ?_) (fun _ _ _ _ h => h) rfl (by cases cd41 <;> rfl) hS ?_ ?_
            rotate_left; (focus (intro hb; intro W hS; (try simp only [Bool.and_eq_true, Bool.not_eq_true'] at hb); have hb0 := hb; (try simp only [hb0, Bool.not_false, Bool.not_true, Bool.and_true, Bool.true_and, Bool.and_self, cond_true, cond_false]); first | (go_simp; done) | (go_simp; with_reducible rfl) | (go_simp; rfl))); all_goals skip; (try simp only [List.set_cons_succ, List.set_cons_zero])
            intro cd46 Hcd46
            refine D_takeB 47 rfl (by kernel_rfl) (by kernel_rfl) (by kernel_rfl) (q := (cd41 || cd46)) (fun _ _ _ h => h) rfl (by rfl) hS ?_ ?_
            (focus (intro W hS; cases cd41 <;> cases cd46 <;> (first | (go_simp; done) | (go_simp; with_reducible rfl) | (go_simp; rfl)))); all_goals skip; (try simp only [List.set_cons_succ, List.set_cons_zero])
            intro cd47 Hcd47
            have hrow := Hcd47.out
            simp only [Hcd6.out, Hcd21.out, Hcd22.out, Hcd29.out, Hcd34.out, Hcd41.out, Hcd1.out, Hcd5.out, Hcd9.out, Hcd20.out, Hcd28.out, Hcd33.out, Hcd40.out, Hcd46.out] at hrow
            replace hrow := Lib.hid hrow
            clear Hcd6 Hcd21 Hcd22 Hcd29 Hcd34 Hcd41 Hcd47 Hcd1 Hcd5 Hcd9 Hcd20 Hcd28 Hcd33 Hcd40 Hcd46
            refine wpAnyH_done (by kernel_rfl) ?_ _
            go_wp2_with fail
            go_meet
            case rel => exact ⟨by rw [HOK.out, hrow.out]; refine congrArg _ (Bool.eq_iff_iff.2 ?_); simp; omega, hS⟩
        case rest =>
          obtain ⟨rfl, H⟩ := hcut
          cases okB
          · have hr : res = false := by
              rcases Bool.eq_false_or_eq_true res with h | h
              · have := (HBLK.out.1.1 ((HRES.out.2 h).2.1 k _ HBLK.out.2)).1; cases this
              · exact h
            subst hr
            go_wp2_with fail
            go_ret
            exact ⟨rfl, H.ext⟩
          · go_wp2_with fail
            go_loopw [9, 10] (fun vs vn wr => SizeRel size wc vs vn wr) (fun _ vn _ => 1026 - (intOf vn).toNat)
            case atStart => exact ⟨0, false, rfl, rfl, by omega, Lib.hid (by simp), rfl⟩
            case round =>
              obtain ⟨m, s, rfl, rfl, hm, HS, rfl⟩ := hrel
              by_cases hm5 : m ≤ 1025
              · have hmi : (m : Int) ≤ 1025 := by omega
                go_upto_region 15 with fail
                go_step
                refine L_take (v := ?_) rfl (by rfl) ?_ ?_
                rotate_left; (focus (first | (go_simp; done) | (go_simp; with_reducible rfl) | (go_simp; rfl))); all_goals skip; (try simp only [List.set_cons_succ, List.set_cons_zero])
                refine L_take (v := ?_) rfl (by rfl) ?_ ?_
                rotate_left; (focus (first | (go_simp; done) | (go_simp; with_reducible rfl) | (go_simp; rfl))); all_goals skip; (try simp only [List.set_cons_succ, List.set_cons_zero])
                refine L_maybe (!s) (v := ?_) rfl (by cases s <;> rfl) ?_ ?_
                rotate_left; (focus (intro hb; (try simp only [Bool.and_eq_true, Bool.not_eq_true'] at hb); have hb0 := hb; (try simp only [hb0, Bool.not_false, Bool.not_true, Bool.and_true, Bool.true_and, Bool.and_self, cond_true, cond_false]); first | (go_simp; done) | (go_simp; with_reducible rfl) | (go_simp; rfl))); all_goals skip; (try simp only [List.set_cons_succ, List.set_cons_zero])
                refine L_maybe (!s) (v := ?_) rfl (by cases s <;> rfl) ?_ ?_
                rotate_left; (focus (intro hb; (try simp only [Bool.and_eq_true, Bool.not_eq_true'] at hb); have hb0 := hb; (try simp only [hb0, Bool.not_false, Bool.not_true, Bool.and_true, Bool.true_and, Bool.and_self, cond_true, cond_false]); first | (refine R_load1 (ty := 3) (x := Operand.tmp 174) rfl H 0 rfl rfl ?_ Try.isAgg3; rfl))); all_goals skip; (try simp only [List.set_cons_succ, List.set_cons_zero, List.getElem_toArray, List.getElem_cons_succ, List.getElem_cons_zero])
                refine L_maybe (!s) (v := ?_) rfl (by cases s <;> rfl) ?_ ?_
                rotate_left; (focus (intro hb; (try simp only [Bool.and_eq_true, Bool.not_eq_true'] at hb); have hb0 := hb; (try simp only [hb0, Bool.not_false, Bool.not_true, Bool.and_true, Bool.true_and, Bool.and_self, cond_true, cond_false]); first | (go_simp; done) | (go_simp; with_reducible rfl) | (go_simp; rfl))); all_goals skip; (try simp only [List.set_cons_succ, List.set_cons_zero])
                refine L_maybe (!s) (v := ?_) rfl (by cases s <;> rfl) ?_ ?_
                rotate_left; (focus (intro hb; (try simp only [Bool.and_eq_true, Bool.not_eq_true'] at hb); have hb0 := hb; (try simp only [hb0, Bool.not_false, Bool.not_true, Bool.and_true, Bool.true_and, Bool.and_self, cond_true, cond_false]); first | (go_simp; done) | (go_simp; with_reducible rfl) | (go_simp; rfl))); all_goals skip; (try simp only [List.set_cons_succ, List.set_cons_zero])
                refine L_maybe (!s) (v := ?_) rfl (by cases s <;> rfl) ?_ ?_
                rotate_left; (focus (intro hb; (try simp only [Bool.and_eq_true, Bool.not_eq_true'] at hb); have hb0 := hb; (try simp only [hb0, Bool.not_false, Bool.not_true, Bool.and_true, Bool.true_and, Bool.and_self, cond_true, cond_false]); first | (go_simp; done) | (go_simp; with_reducible rfl) | (go_simp; rfl))); all_goals skip; (try simp only [List.set_cons_succ, List.set_cons_zero])
                refine L_maybe (!s) (v := ?_) rfl (by cases s <;> rfl) ?_ ?_
                rotate_left; (focus (intro hb; (try simp only [Bool.and_eq_true, Bool.not_eq_true'] at hb); have hb0 := hb; (try simp only [hb0, Bool.not_false, Bool.not_true, Bool.and_true, Bool.true_and, Bool.and_self, cond_true, cond_false]); first | (go_simp; done) | (go_simp; with_reducible rfl) | (go_simp; rfl))); all_goals skip; (try simp only [List.set_cons_succ, List.set_cons_zero])
                refine L_maybeB (!s) (q := ?_) rfl (by cases s <;> rfl) ?_ ?_
                rotate_left; (focus (intro hb; (try simp only [Bool.and_eq_true, Bool.not_eq_true'] at hb); have hb0 := hb; (try simp only [hb0, Bool.not_false, Bool.not_true, Bool.and_true, Bool.true_and, Bool.and_self, cond_true, cond_false]); first | (go_simp; done) | (go_simp; with_reducible rfl) | (go_simp; rfl))); all_goals skip; (try simp only [List.set_cons_succ, List.set_cons_zero])
                intro ce8 Hce8
                refine L_takeB (q := (s || ce8)) rfl (by rfl) ?_ ?_
                (focus (cases ce8 <;> cases s <;> (first | (go_simp; done) | (go_simp; with_reducible rfl) | (go_simp; rfl)))); all_goals skip; (try simp only [List.set_cons_succ, List.set_cons_zero])
                intro ce9 Hce9
                refine L_take (v := ?_) rfl (by rfl) ?_ ?_
                rotate_left; (focus (first | (go_simp; done) | (go_simp; with_reducible rfl) | (go_simp; rfl))); all_goals skip; (try simp only [List.set_cons_succ, List.set_cons_zero])
                have hsz := Hce9.out
                simp only [Hce8.out] at hsz
                replace hsz := Lib.hid hsz
                clear Hce9 Hce8
                have hwr : IntKind.i64.wrap (88 + IntKind.i64.wrap (IntKind.i64.wrap ((m : Int) / 16) * 16)) = 88 + ((m / 16 * 16 : Nat) : Int) := by simp only [IntKind.wrap_i64]; omega
                have hs2 : ce9 = true ↔ ∃ i : Nat, i < m + 1 ∧ size = 88 + ((i / 16 * 16 : Nat) : Int) := by
                  rw [hsz.out, hwr, Bool.or_eq_true, HS.out, beq_iff_eq]
                  constructor
                  · rintro (⟨i, h1, h2⟩ | h)
                    · exact ⟨i, by omega, h2⟩
                    · exact ⟨m, by omega, h⟩
                  · rintro ⟨i, h1, h2⟩
                    by_cases hi : i < m
                    · exact .inl ⟨i, hi, h2⟩
                    · obtain rfl : i = m := by omega
                      exact .inr h2
                have HS2 := Lib.hid hs2
                clear hs2 hwr hsz HS
                go_wp2_with fail
                go_roundw
                case rel => exact ⟨m + 1, ce9, by go_num, rfl, by omega, HS2, rfl⟩
                case measure => simp [intOf]; omega
              · obtain rfl : m = 1026 := by omega
                have hss := HS.out.trans (size_all size)
                have hm6 : ¬ ((1026 : Nat) : Int) ≤ 1025 := by omega
                have HSS := Lib.hid hss
                clear hss HS
                go_upto_region 16 with fail
                go_step
                refine L_take (v := ?_) rfl (by rfl) ?_ ?_
                rotate_left; (focus (first | (go_simp; done) | (go_simp; with_reducible rfl) | (go_simp; rfl))); all_goals skip; (try simp only [List.set_cons_succ, List.set_cons_zero])
                refine L_takeB (q := (!s)) rfl (by rfl) ?_ ?_
                (focus (cases s <;> (first | (go_simp; done) | (go_simp; with_reducible rfl) | (go_simp; rfl)))); all_goals skip; (try simp only [List.set_cons_succ, List.set_cons_zero])
                intro cf1 Hcf1
                refine L_take (v := ?_) rfl (by rfl) ?_ ?_
                rotate_left; (focus (first | (go_simp; done) | (go_simp; with_reducible rfl) | (go_simp; rfl))); all_goals skip; (try simp only [List.set_cons_succ, List.set_cons_zero])
                refine L_maybe (!cf1) (v := ?_) rfl (by cases cf1 <;> rfl) ?_ ?_
                rotate_left; (focus (intro hb; (try simp only [Bool.and_eq_true, Bool.not_eq_true'] at hb); have hb0 := hb; (try simp only [hb0, Bool.not_false, Bool.not_true, Bool.and_true, Bool.true_and, Bool.and_self, cond_true, cond_false]); first | (go_simp; done) | (go_simp; with_reducible rfl) | (go_simp; rfl))); all_goals skip; (try simp only [List.set_cons_succ, List.set_cons_zero])
                refine L_maybe (!cf1) (v := ?_) rfl (by cases cf1 <;> rfl) ?_ ?_
                rotate_left; (focus (intro hb; (try simp only [Bool.and_eq_true, Bool.not_eq_true'] at hb); have hb0 := hb; (try simp only [hb0, Bool.not_false, Bool.not_true, Bool.and_true, Bool.true_and, Bool.and_self, cond_true, cond_false]); first | (refine R_load1 (ty := 3) (x := Operand.tmp 185) rfl H 0 rfl rfl ?_ Try.isAgg3; rfl) | (refine R_load1 (ty := 3) (x := Operand.tmp 185) rfl H 1 rfl rfl ?_ Try.isAgg3; rfl))); all_goals skip; (try simp only [List.set_cons_succ, List.set_cons_zero, List.getElem_toArray, List.getElem_cons_succ, List.getElem_cons_zero])
                refine L_maybe (!cf1) (v := ?_) rfl (by cases cf1 <;> rfl) ?_ ?_
                rotate_left; (focus (intro hb; (try simp only [Bool.and_eq_true, Bool.not_eq_true'] at hb); have hb0 := hb; (try simp only [hb0, Bool.not_false, Bool.not_true, Bool.and_true, Bool.true_and, Bool.and_self, cond_true, cond_false]); first | (go_simp; done) | (go_simp; with_reducible rfl) | (go_simp; rfl))); all_goals skip; (try simp only [List.set_cons_succ, List.set_cons_zero])
                refine L_maybe (!cf1) (v := ?_) rfl (by cases cf1 <;> rfl) ?_ ?_
                rotate_left; (focus (intro hb; (try simp only [Bool.and_eq_true, Bool.not_eq_true'] at hb); have hb0 := hb; (try simp only [hb0, Bool.not_false, Bool.not_true, Bool.and_true, Bool.true_and, Bool.and_self, cond_true, cond_false]); first | (refine R_load1 (ty := 3) (x := Operand.tmp 187) rfl H 0 rfl rfl ?_ Try.isAgg3; rfl) | (refine R_load1 (ty := 3) (x := Operand.tmp 187) rfl H 1 rfl rfl ?_ Try.isAgg3; rfl))); all_goals skip; (try simp only [List.set_cons_succ, List.set_cons_zero, List.getElem_toArray, List.getElem_cons_succ, List.getElem_cons_zero])
                refine L_maybeB (!cf1) (q := ?_) rfl (by cases cf1 <;> rfl) ?_ ?_
                rotate_left; (focus (intro hb; (try simp only [Bool.and_eq_true, Bool.not_eq_true'] at hb); have hb0 := hb; (try simp only [hb0, Bool.not_false, Bool.not_true, Bool.and_true, Bool.true_and, Bool.and_self, cond_true, cond_false]); first | (go_simp; done) | (go_simp; with_reducible rfl) | (go_simp; rfl))); all_goals skip; (try simp only [List.set_cons_succ, List.set_cons_zero])
                intro cf7 Hcf7
                refine L_maybe (!cf1) (v := ?_) rfl (by cases cf1 <;> rfl) ?_ ?_
                rotate_left; (focus (intro hb; (try simp only [Bool.and_eq_true, Bool.not_eq_true'] at hb); have hb0 := hb; (try simp only [hb0, Bool.not_false, Bool.not_true, Bool.and_true, Bool.true_and, Bool.and_self, cond_true, cond_false]); first | (go_simp; done) | (go_simp; with_reducible rfl) | (go_simp; rfl))); all_goals skip; (try simp only [List.set_cons_succ, List.set_cons_zero])
                refine L_maybe ((!cf1) && cf7) (v := ?_) rfl (by cases cf1 <;> cases cf7 <;> rfl) ?_ ?_
                rotate_left; (focus (intro hb; (try simp only [Bool.and_eq_true, Bool.not_eq_true'] at hb); obtain ⟨hb0, hb1⟩ := hb; (try simp only [hb0, hb1, Bool.not_false, Bool.not_true, Bool.and_true, Bool.true_and, Bool.and_self, cond_true, cond_false]); first | (go_simp; done) | (go_simp; with_reducible rfl) | (go_simp; rfl))); all_goals skip; (try simp only [List.set_cons_succ, List.set_cons_zero])
                refine L_maybe ((!cf1) && cf7) (v := ?_) rfl (by cases cf1 <;> cases cf7 <;> rfl) ?_ ?_
                rotate_left; (focus (intro hb; (try simp only [Bool.and_eq_true, Bool.not_eq_true'] at hb); obtain ⟨hb0, hb1⟩ := hb; (try simp only [hb0, hb1, Bool.not_false, Bool.not_true, Bool.and_true, Bool.true_and, Bool.and_self, cond_true, cond_false]); first | (refine R_load1 (ty := 3) (x := Operand.tmp 191) rfl H 0 rfl rfl ?_ Try.isAgg3; rfl) | (refine R_load1 (ty := 3) (x := Operand.tmp 191) rfl H 1 rfl rfl ?_ Try.isAgg3; rfl))); all_goals skip; (try simp only [List.set_cons_succ, List.set_cons_zero, List.getElem_toArray, List.getElem_cons_succ, List.getElem_cons_zero])
                refine L_maybeB ((!cf1) && cf7) (q := ?_) rfl (by cases cf1 <;> cases cf7 <;> rfl) ?_ ?_
                rotate_left; (focus (intro hb; (try simp only [Bool.and_eq_true, Bool.not_eq_true'] at hb); obtain ⟨hb0, hb1⟩ := hb; (try simp only [hb0, hb1, Bool.not_false, Bool.not_true, Bool.and_true, Bool.true_and, Bool.and_self, cond_true, cond_false]); first | (go_simp; done) | (go_simp; with_reducible rfl) | (go_simp; rfl))); all_goals skip; (try simp only [List.set_cons_succ, List.set_cons_zero])
                intro cf11 Hcf11
                refine L_maybe ((!cf1) && cf7) (v := ?_) rfl (by cases cf1 <;> cases cf7 <;> rfl) ?_ ?_
                rotate_left; (focus (intro hb; (try simp only [Bool.and_eq_true, Bool.not_eq_true'] at hb); obtain ⟨hb0, hb1⟩ := hb; (try simp only [hb0, hb1, Bool.not_false, Bool.not_true, Bool.and_true, Bool.true_and, Bool.and_self, cond_true, cond_false]); first | (go_simp; done) | (go_simp; with_reducible rfl) | (go_simp; rfl))); all_goals skip; (try simp only [List.set_cons_succ, List.set_cons_zero])
                refine L_maybe (((!cf1) && cf7) && cf11) (v := ?_) rfl (by cases cf1 <;> cases cf11 <;> cases cf7 <;> rfl) ?_ ?_
                rotate_left; (focus (intro hb; (try simp only [Bool.and_eq_true, Bool.not_eq_true'] at hb); obtain ⟨⟨hb0, hb1⟩, hb2⟩ := hb; (try simp only [hb0, hb1, hb2, Bool.not_false, Bool.not_true, Bool.and_true, Bool.true_and, Bool.and_self, cond_true, cond_false]); first | (go_simp; done) | (go_simp; with_reducible rfl) | (go_simp; rfl))); all_goals skip; (try simp only [List.set_cons_succ, List.set_cons_zero])
                refine L_maybe (((!cf1) && cf7) && cf11) (v := ?_) rfl (by cases cf1 <;> cases cf11 <;> cases cf7 <;> rfl) ?_ ?_
                rotate_left; (focus (intro hb; (try simp only [Bool.and_eq_true, Bool.not_eq_true'] at hb); obtain ⟨⟨hb0, hb1⟩, hb2⟩ := hb; (try simp only [hb0, hb1, hb2, Bool.not_false, Bool.not_true, Bool.and_true, Bool.true_and, Bool.and_self, cond_true, cond_false]); first | (refine R_load1 (ty := 3) (x := Operand.tmp 195) rfl H 0 rfl rfl ?_ Try.isAgg3; rfl) | (refine R_load1 (ty := 3) (x := Operand.tmp 195) rfl H 1 rfl rfl ?_ Try.isAgg3; rfl))); all_goals skip; (try simp only [List.set_cons_succ, List.set_cons_zero, List.getElem_toArray, List.getElem_cons_succ, List.getElem_cons_zero])
                refine L_maybe (((!cf1) && cf7) && cf11) (v := ?_) rfl (by cases cf1 <;> cases cf11 <;> cases cf7 <;> rfl) ?_ ?_
                rotate_left; (focus (intro hb; (try simp only [Bool.and_eq_true, Bool.not_eq_true'] at hb); obtain ⟨⟨hb0, hb1⟩, hb2⟩ := hb; (try simp only [hb0, hb1, hb2, Bool.not_false, Bool.not_true, Bool.and_true, Bool.true_and, Bool.and_self, cond_true, cond_false]); first | (go_simp; done) | (go_simp; with_reducible rfl) | (go_simp; rfl))); all_goals skip; (try simp only [List.set_cons_succ, List.set_cons_zero])
                refine L_maybe (((!cf1) && cf7) && cf11) (v := ?_) rfl (by cases cf1 <;> cases cf11 <;> cases cf7 <;> rfl) ?_ ?_
                rotate_left; (focus (intro hb; (try simp only [Bool.and_eq_true, Bool.not_eq_true'] at hb); obtain ⟨⟨hb0, hb1⟩, hb2⟩ := hb; (try simp only [hb0, hb1, hb2, Bool.not_false, Bool.not_true, Bool.and_true, Bool.true_and, Bool.and_self, cond_true, cond_false]); first | (refine R_load1 (ty := 3) (x := Operand.tmp 197) rfl H 0 rfl rfl ?_ Try.isAgg3; rfl) | (refine R_load1 (ty := 3) (x := Operand.tmp 197) rfl H 1 rfl rfl ?_ Try.isAgg3; rfl))); all_goals skip; (try simp only [List.set_cons_succ, List.set_cons_zero, List.getElem_toArray, List.getElem_cons_succ, List.getElem_cons_zero])
                refine L_maybeB (((!cf1) && cf7) && cf11) (q := ?_) rfl (by cases cf1 <;> cases cf11 <;> cases cf7 <;> rfl) ?_ ?_
                rotate_left; (focus (intro hb; (try simp only [Bool.and_eq_true, Bool.not_eq_true'] at hb); obtain ⟨⟨hb0, hb1⟩, hb2⟩ := hb; (try simp only [hb0, hb1, hb2, Bool.not_false, Bool.not_true, Bool.and_true, Bool.true_and, Bool.and_self, cond_true, cond_false]); first | (go_simp; done) | (go_simp; with_reducible rfl) | (go_simp; rfl))); all_goals skip; (try simp only [List.set_cons_succ, List.set_cons_zero])
                intro cf17 Hcf17
                refine L_maybeB ((!cf1) && cf7) (q := (cf11 && cf17)) rfl (by cases cf1 <;> cases cf7 <;> rfl) ?_ ?_
                (focus (intro hb; cases cf1 <;> cases cf11 <;> cases cf17 <;> cases cf7 <;> first | (exact absurd hb (by decide)) | (first | (go_simp; done) | (go_simp; with_reducible rfl) | (go_simp; rfl)))); all_goals skip; (try simp only [List.set_cons_succ, List.set_cons_zero])
                intro cf18 Hcf18
                refine L_maybeB ((!cf1) && cf7) (q := (!cf18)) rfl (by cases cf1 <;> cases cf7 <;> rfl) ?_ ?_
                (focus (intro hb; cases cf1 <;> cases cf18 <;> cases cf7 <;> first | (exact absurd hb (by decide)) | (first | (go_simp; done) | (go_simp; with_reducible rfl) | (go_simp; rfl)))); all_goals skip; (try simp only [List.set_cons_succ, List.set_cons_zero])
                intro cf19 Hcf19
                refine L_maybeB (!cf1) (q := (cf7 && cf19)) rfl (by cases cf1 <;> rfl) ?_ ?_
                (focus (intro hb; cases cf1 <;> cases cf19 <;> cases cf7 <;> first | (exact absurd hb (by decide)) | (first | (go_simp; done) | (go_simp; with_reducible rfl) | (go_simp; rfl)))); all_goals skip; (try simp only [List.set_cons_succ, List.set_cons_zero])
                intro cf20 Hcf20
                refine L_takeB (q := (cf1 || cf20)) rfl (by rfl) ?_ ?_
                (focus (cases cf1 <;> cases cf20 <;> (first | (go_simp; done) | (go_simp; with_reducible rfl) | (go_simp; rfl)))); all_goals skip; (try simp only [List.set_cons_succ, List.set_cons_zero])
                intro cf21 Hcf21
                have hep := Hcf21.out
                simp only [Hcf1.out, Hcf18.out, Hcf19.out, Hcf20.out, Hcf7.out, Hcf11.out, Hcf17.out] at hep
                replace hep := Lib.hid hep
                clear Hcf1 Hcf18 Hcf19 Hcf20 Hcf21 Hcf7 Hcf11 Hcf17
                have hok2 : cf21 = false ↔ (sizedP size ∧ (ep = epoch ∨ (phase = 1 ∧ ep = old))) := by
                  rw [← HSS.out, hep.out]
                  cases s <;> simp <;> omega
                have HOK2 := Lib.hid hok2
                clear hok2 hep
                cases cf21
                · have hb2 := HBLK.out.1.2 ⟨by simp, HOK2.out.1 rfl⟩
                  have HB2 := Lib.hid hb2
                  clear hb2
                  go_wp2_with fail
                  go_roundw
                  case rel => exact ⟨k + 1, by go_num, by have := HBL.out; show k + 1 ≤ bs.length; omega, H.drop (List.sublist_cons_self _ _), Lib.hid (fun j b hj hb => by
                    by_cases hjk : j < k
                    · exact HA.out j b hjk hb
                    · obtain rfl : j = k := by omega
                      rw [HBLK.out.2] at hb
                      cases hb
                      exact HB2.out)⟩
                  case measure => simp [intOf]; omega
                · have hr : res = false := by
                    rcases Bool.eq_false_or_eq_true res with h | h
                    · have := HOK2.out.2 (HBLK.out.1.1 ((HRES.out.2 h).2.1 k _ HBLK.out.2)).2; cases this
                    · exact h
                  subst hr
                  go_wp2_with fail
                  go_ret
                  exact ⟨rfl, H.ext⟩
      · have hbl := HBL.out
        have hke : k = ps.length := by have h9 : k ≤ bs.length := hk; omega
        have hjn2 : ¬ ((k : Int) < (ps.length : Int)) := by omega
        have hr : res = goodB (spansP bs) n := by
          have hg : res = true ↔ goodB (spansP bs) n = true := ⟨fun h => (HRES.out.2 h).2.2, fun h => HRES.out.1 ⟨HHD.out, fun j b hj => HA.out j b (by
            have := (List.getElem?_eq_some_iff.1 hj).1
            have h9 : j < bs.length := this
            omega) hj, h⟩⟩
          exact Bool.eq_iff_iff.2 hg
        have hlen : (spansP bs).length ≤ 1000 := by rw [spansP, List.length_map, hbl]; exact hn
        have hsm : Small (spansP bs) := fun x hx => by
          obtain ⟨b, hb, rfl⟩ := List.mem_map.1 hx
          have h1 := HP.out.2 b hb
          have h2 := needP_le h1.2.2
          exact ⟨h1.1.1, by show b.at_ < _; have := h1.1.2; omega, by show _ ≤ needP b.size; omega, by show needP b.size < _; omega⟩
        have hgd := fun {W : World} {v2 : Value} (h : RdS Sp.cells 2 W v2 (spansP bs)) => refGood_any v2 (spansP bs) n W hlen h hn0 hn1 hsm
        rw [← hr] at hgd
        clear hr hlen hsm hbl HRES
        go_wp2_with (first
          | (refine L_loadrow rfl rfl H 0 rfl rfl Try.underlying24 rfl info24 rfl ?_; (try simp only [Act.put, List.setIfInBounds_toArray, List.set_cons_succ, List.set_cons_zero, List.getElem_toArray, List.getElem_cons_succ, List.getElem_cons_zero]))
          | (go_at_call 14; refine (hsp H.ext).mono ?_; rintro e w2 ⟨v2, rfl, hv2, hE⟩; replace H := H.calls hE; clear hE)
          | (go_at_call 32; refine (hgd hv2).mono ?_; rintro e w3 ⟨rfl, hE3⟩))
        go_ret
        exact ⟨rfl, H.ext.trans0 hE3⟩
  · have hr : res = false := by
      rcases Bool.eq_false_or_eq_true res with h | h
      · have := HH.out.1 (HRES.out.2 h).1; cases this
      · exact h
    subst hr
    go_wp2_with fail
    go_ret
    exact ⟨rfl, H.ext⟩
end Go.Proofs.Ytoaieodcdbbndaa
