/- DiskNobody: whatever the arguments, a nil disk answers as the law says: for every input. -/
import Derived.Test.YtjdfeagjbhdceaaLaw14C
import Derived.Test.YtjdfeagjbhdceaaRows
import Derived.WalkKit
import Derived.ProofKit
import Derived.OpenShut
import Derived.ShutString
import Derived.ChangeOld
import Derived.Below
namespace Go.Proofs.Ytjdfeagjbhdceaa
set_option linter.unusedVariables false
set_option linter.unusedSimpArgs false
open Go.RowKit

theorem there_zero (i : Int) (w : World) : Calls Try.prog 49 #[.pointer none, .int .i64 i] w fun e w' => e = .returned (.bool false) ∧ w = w' := there_nil i w
set_option maxRecDepth 100000 in
set_option maxHeartbeats 1000000 in
theorem nobody_walk (i n : Int) (v : Value) (w0 : World) : Calls Try.prog 11 #[.int .i64 i, .int .i64 n, v] w0 fun e w' => e = .returned (.bool true) ∧ Ext0 w0 w' := by
  have H : Ext0 w0 w0 := Ext.refl _ _
  go_enter Try.func11, Try.ntmps11
  go_wp2_with (first
    | (go_at_call 39; refine (fuse_nil _ _).mono ?_; rintro e w ⟨rfl, rfl⟩)
    | (go_at_call 29; refine (crash_nil _ _ _ _).mono ?_; rintro e w ⟨rfl, rfl⟩)
    | (go_at_call 41; refine (read_off _ _ _ (there_nil _ _)).mono ?_; rintro e w ⟨rfl, rfl⟩)
    | (go_at_call 30; refine (awake_any _).mono ?_; clear H; rintro e w ⟨rfl, H⟩)
    | (go_at_call 36; refine (size_nil _).mono ?_; rintro e w ⟨rfl, rfl⟩)
    | (go_at_call 27; refine (write_off _ _ _ _ (there_nil _ _)).mono ?_; rintro e w ⟨rfl, rfl⟩)
    | (go_at_call 24; refine (flush_nil _).mono ?_; rintro e w ⟨rfl, rfl⟩)
    | (go_at_call 25; refine (pending_nil _).mono ?_; rintro e w ⟨rfl, rfl⟩)
    | (go_at_call 31; refine (writes_nil _).mono ?_; rintro e w ⟨rfl, rfl⟩)
    | (go_at_call 33; refine (since_off _ _ _ (there_nil _ _)).mono ?_; rintro e w ⟨rfl, rfl⟩))
  go_ret
  exact ⟨rfl, H⟩

theorem nobody_row (i : Int) (_ : (Lit.int .i64 i).wf = true) (n : Int) (_ : (Lit.int .i64 n).wf = true) (v : Value) (w : World) : Calls Try.prog 11 #[.int .i64 i, .int .i64 n, v] w fun e w' => e = .returned (.bool true) ∧ Below w.heap.size w w' :=
  (nobody_walk i n v w).mono fun _ _ h => ⟨h.1, h.2.below⟩
section
open Go.ChangeShapes Go.WideShapes Go.ChangeAt Go.RowKit
open Go.ChangeMaps (open_string shut_string)
theorem diskNobody_own : ownKnob Try.prog.godebug = none := by kernel_rfl
theorem diskNobody_laidOut : laidOutB Try.prog = true := by kernel_rfl
set_option maxRecDepth 100000 in
theorem diskNobody_lifted (os : Os) (started : os.Started) (H : Type) (enc : TypeId × Value → H) :
    ReturnsInHanded {} Try.checked os 11 .any (Rows.diskNobodySpec.pre6 enc Try.prog Try.f11 Rows.diskNobodyRow.domain false) (Rows.diskNobodySpec.post enc Try.prog Try.f11 false true false false) := by
  refine returnsInHanded_of_change (C := Try.checked) diskNobody_own started (by kernel_rfl) Try.func11
    (ChangeSpec.witness6 (enc := enc) (C := Try.checked) false ⟨#[], #[.int .i64 0, .int .i64 0, .slice none 0 0], []⟩ 8 (by kernel_rfl) (by kernel_rfl) (by kernel_rfl) (by kernel_rfl)) ?_
  intro W base args ds gs before hval0 hW hcnd _
  have hval : ∀ (j : Nat) t v, Try.f11.params[j]? = some t → args[j]? = some v → Value.okWide Try.prog W .any base t v := hval0
  have hW' := hW
  obtain ⟨p, q, hA0, hV, rfl, hfz, hnd⟩ := hW
  have hA : DataW.TrodAll enc Try.prog W 0 (fun _ => true) true Try.f11.params.toList args.toList ds p := hA0
  rw [Try.params11] at hA hval
  obtain ⟨v0, vs0, d0, ds0, p0, q0, hargs, rfl, rfl, h0, r0⟩ := trodAll_cons hA
  obtain ⟨v1, vs1, d1, ds1, p1, q1, rfl, rfl, rfl, h1, r1⟩ := trodAll_cons r0
  obtain ⟨v2, vs2, d2, ds2, p2, q2, rfl, rfl, rfl, h2, r2⟩ := trodAll_cons r1
  obtain ⟨rfl, rfl, rfl⟩ := trodAll_nil r2
  obtain rfl : args = #[v0, v1, v2] := by cases args; simp_all
  obtain ⟨rfl, rfl⟩ := trodVars_none hV
  obtain ⟨a0, rfl, rfl, rfl, w0⟩ := open_int Try.underlying3 (hval 0 3 v0 rfl rfl) h0
  obtain ⟨a1, rfl, rfl, rfl, w1⟩ := open_int Try.underlying3 (hval 1 3 v1 rfl rfl) h1
  have k2 := h2
  have lt2 : ∀ x ∈ p2, x.block < W.heap.size := by obtain ⟨m, hm⟩ := k2; exact DataW.trod_lt m _ _ _ hm
  clear hA0 hval0
  refine (nobody_row a0 w0 a1 w1 v2 W).mono fun e W' ⟨he, bel⟩ => ?_
  subst he
  exact ⟨_, rfl, _, _, _, [], _, [], hW', trodAll_mk1 (shut_bool Try.underlying4 _), (trodAll_cons_mk (shut_int Try.underlying3 w0) (trodAll_cons_mk (shut_int Try.underlying3 w1) (trodAll_cons_mk (Below.trod diskNobody_laidOut (by kernel_rfl) (of_decide_eq_true (by kernel_rfl)) k2 bel lt2) trodAll_mk0))), rfl, bel.frame _, fun h => by cases h⟩
theorem diskNobody_over : Rows.diskNobodyRow.holds Try.pinned (OpenSpec.ofChange Rows.diskNobodySpec) :=
  OpenClaim.holds_of_wide 11 Try.f11 rfl rfl rfl rfl rfl rfl rfl ⟨rfl, rfl, rfl, rfl, rfl⟩ rfl rfl rfl rfl rfl (by kernel_rfl) Try.func11 (by kernel_rfl)
    (of_decide_eq_true (by kernel_rfl)) (by unfold Func.isWrapper; first | (rw [if_pos (by decide +kernel)]; kernel_rfl) | (rw [if_neg (by decide +kernel)]; exact ⟨rfl, rfl⟩))
    (fun os started H enc _ => diskNobody_lifted os started H enc)
/-- THE STATEMENT. -/
theorem diskNobody_holds : Rows.DiskNobodySaid := diskNobody_over
#print axioms diskNobody_holds
end
end Go.Proofs.Ytjdfeagjbhdceaa
