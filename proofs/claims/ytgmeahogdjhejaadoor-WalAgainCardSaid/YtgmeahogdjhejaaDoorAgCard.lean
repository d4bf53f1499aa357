/- The law WalAgain holds for every input: the card. -/
import Derived.Test.YtgmeahogdjhejaaDoorWalAgw
import Derived.Test.YtgmeahogdjhejaaDoorWalAs
namespace Go.Proofs.YtgmeahogdjhejaaDoor
set_option linter.unusedVariables false
set_option linter.unusedSimpArgs false
open Go.ChangeShapes Go.WideShapes Go.ChangeAt Go.RowKit
open Go.ChangeMaps (open_string shut_string)

set_option maxRecDepth 100000 in
theorem walAgain_contract (H : Type) (enc : TypeId × Value → H) (W : World) (base : Nat) (args : Array Value) (ds gs : List (DataW H)) (before : List MemPlace)
    (hval : ∀ (j : Nat) t v, Tryd.f6.params[j]? = some t → args[j]? = some v → Value.okWide Tryd.prog W .any base t v)
    (hW : DataW.Whole enc Tryd.prog Tryd.f6.params.toList Rows.walAgainSpec.vars false W args.toList ds gs before) (hsh : W.ShapedOpen Tryd.prog) :
    Calls Tryd.prog 6 args W fun e W' => ∃ v, e = .returned v ∧ Rows.walAgainSpec.post enc Tryd.prog Tryd.f6 false true false false W args v W' := by
  have hW' := hW
  obtain ⟨p, q, hA0, hV, rfl, hfz, hnd⟩ := hW
  have hA : DataW.TrodAll enc Tryd.prog W 0 (fun _ => true) true Tryd.f6.params.toList args.toList ds p := hA0
  rw [Tryd.params6] at hA hval
  obtain ⟨v0, vs0, d0, ds0, p0, q0, hargs, rfl, rfl, h0, r0⟩ := trodAll_cons hA
  obtain ⟨v1, vs1, d1, ds1, p1, q1, rfl, rfl, rfl, h1, r1⟩ := trodAll_cons r0
  obtain ⟨rfl, rfl, rfl⟩ := trodAll_nil r1
  obtain rfl : args = #[v0, v1] := by cases args; simp_all
  obtain ⟨rfl, rfl⟩ := trodVars_none hV
  have k0 := h0
  have lt0 : ∀ x ∈ p0, x.block < W.heap.size := by obtain ⟨m, hm⟩ := k0; exact DataW.trod_lt m _ _ _ hm
  obtain ⟨xs0, rd0, in0⟩ := deeds16_arg (hval 0 43 v0 rfl rfl) h0
  have k1 := h1
  have lt1 : ∀ x ∈ p1, x.block < W.heap.size := by obtain ⟨m, hm⟩ := k1; exact DataW.trod_lt m _ _ _ hm
  obtain ⟨xs1, rd1, in1⟩ := deed16_arg (hval 1 46 v1 rfl rfl) h1
  clear hA0
  refine (again_any v0 v1 xs0 xs1 W rd0 rd1).mono fun e W' ⟨he, hg⟩ => ?_
  have bel := hg.below
  subst he
  exact ⟨_, rfl, _, _, _, [], _, [], hW', trodAll_mk1 (shut_bool Tryd.underlying4 _), (trodAll_cons_mk (Below.trod plaidOut (by kernel_rfl) (of_decide_eq_true (by kernel_rfl)) k0 bel lt0) (trodAll_cons_mk (Below.trod plaidOut (by kernel_rfl) (of_decide_eq_true (by kernel_rfl)) k1 bel lt1) trodAll_mk0)), rfl, bel.frame _, fun h => by cases h⟩

theorem walAgain_met (os : Os) : laidMet Tryd.prog Rows.walAgainRow.laid ((walWorld os #[.slice none 0 0, .agg #[.int .u8 0, .slice none 0 0, .int .i64 0, .int .i64 0, .int .i64 0]]).forCall (fun _ _ => 0) ⟨#[], #[.slice none 0 0, .agg #[.int .u8 0, .slice none 0 0, .int .i64 0, .int .i64 0, .int .i64 0]], []⟩).memory :=
  laidMet_of_run' 8 (by kernel_rfl) (by kernel_rfl)
theorem walAgain_reads (os : Os) {H : Type} (enc : TypeId × Value → H) : ∃ places, DataW.whole enc Tryd.prog ((walWorld os #[.slice none 0 0, .agg #[.int .u8 0, .slice none 0 0, .int .i64 0, .int .i64 0, .int .i64 0]]).forCall (fun _ _ => 0) ⟨#[], #[.slice none 0 0, .agg #[.int .u8 0, .slice none 0 0, .int .i64 0, .int .i64 0, .int .i64 0]], []⟩).memory Tryd.f6.params.toList Rows.walAgainSpec.vars false #[Value.slice none 0 0, .agg #[.int .u8 0, .slice none 0 0, .int .i64 0, .int .i64 0, .int .i64 0]].toList 8 = some ([.nil, .agg [.lit (.int .u8 0), .nil, .lit (.int .i64 0), .lit (.int .i64 0), .lit (.int .i64 0)]], [], places) :=
  ⟨[], by kernel_rfl⟩
set_option maxRecDepth 100000 in
theorem walAgain_lifted (os : Os) (started : os.Started) (H : Type) (enc : TypeId × Value → H) (F : Stop.Interp) :
    ReturnsInHanded {} Tryd.checked os 6 .any ((OpenSpec.ofChange Rows.walAgainSpec).preRow enc Tryd.prog Tryd.f6 Rows.walAgainRow.domain false Rows.walAgainRow.laid) (((OpenSpec.ofChange Rows.walAgainSpec).at F).post enc Tryd.prog Tryd.f6 false true false false) := by
  obtain ⟨places, hx⟩ := walAgain_reads os enc
  refine returnsInHanded_of_row (C := Tryd.checked) (s := OpenSpec.ofChange Rows.walAgainSpec) pown started (by kernel_rfl) Tryd.func6
    (witness_row_at (enc := enc) (C := Tryd.checked) false (walWorld os #[.slice none 0 0, .agg #[.int .u8 0, .slice none 0 0, .int .i64 0, .int .i64 0, .int .i64 0]]) #[.slice none 0 0, .agg #[.int .u8 0, .slice none 0 0, .int .i64 0, .int .i64 0, .int .i64 0]] rfl (by kernel_rfl) (by kernel_rfl) (by kernel_rfl)
      (OpenSpec.preRow_of_cond 8 hx (by kernel_rfl) (fun k hk => by cases hk) (by kernel_rfl) (walAgain_met os))) ?_
  intro W base args ds gs before hval hW _ hcond _ _ hsh _
  exact walAgain_contract H enc W base args ds gs before hval hW hsh
theorem walAgain_said : Rows.WalAgainSaid :=
  OpenClaim.holds_of_cond 6 Tryd.f6 rfl rfl rfl rfl rfl rfl rfl ⟨rfl, rfl, rfl, rfl, rfl⟩ rfl rfl rfl rfl rfl (by kernel_rfl) Tryd.func6 (by kernel_rfl)
    (of_decide_eq_true (by kernel_rfl)) (by unfold Func.isWrapper; first | (rw [if_pos (by decide +kernel)]; kernel_rfl) | (rw [if_neg (by decide +kernel)]; exact ⟨rfl, rfl⟩))
    (fun os started H enc _ F => by rw [OpenClaim.pre_eq_preRow]; exact walAgain_lifted os started H enc F)
theorem walAgain_plain (f : FuncId) (fn : Func) (hf : Tryd.pinned.checked.prog.funcNamed "garderobe/garderobelaw16.WalAgain" = some f) (hfn : Tryd.pinned.checked.prog.funcs[f]? = some fn) :
    false = Tryd.pinned.checked.prog.looks [] ∧ ∀ (j : Nat) t, fn.params[j]? = some t → Tryd.pinned.checked.prog.wantsStandIn t = false := by
  obtain rfl : f = 6 := Option.some.inj ((show Tryd.prog.funcNamed "garderobe/garderobelaw16.WalAgain" = some 6 by kernel_rfl).symm.trans hf) |>.symm
  obtain rfl : fn = Tryd.f6 := (Option.some.inj (Tryd.func6.symm.trans hfn)).symm
  refine ⟨by kernel_rfl, fun j t ht => ?_⟩
  rw [Tryd.params6] at ht
  have hm : t ∈ [43, 46] := by simpa using Array.mem_of_getElem? ht
  simp only [List.mem_cons, List.not_mem_nil, or_false] at hm
  rcases hm with rfl | rfl
  · exact (show Tryd.prog.wantsStandIn 43 = false by kernel_rfl)
  · exact (show Tryd.prog.wantsStandIn 46 = false by kernel_rfl)
/-- THE STATEMENT. -/
theorem walAgain_holds : Rows.WalAgainCardSaid :=
  Claim7.holds_tied_plain_at .later [] _ _ _ _ walAgain_said (fun _ h => by cases h) (by kernel_rfl) (fun _ h => by cases h) walAgain_row_tie rfl ⟨rfl, rfl⟩ (by kernel_rfl) rfl walAgain_plain (by kernel_rfl)
#print axioms walAgain_holds
end Go.Proofs.YtgmeahogdjhejaaDoor
