/- SpaceFinds: Holes, Find and Free agree with the document's answer: for every input. -/
import Derived.Test.YtjdfeagjbhdceaaSpaceK
namespace Go.Proofs.Ytjdfeagjbhdceaa
set_option linter.unusedVariables false
set_option linter.unusedSimpArgs false
open Go.RowKit Go.Shelf

set_option maxRecDepth 100000 in
set_option maxHeartbeats 8000000 in
theorem finds_walk (sv : Value) (xs : List Sp) (a n : Int) (w0 : World) (hr : RdS Sp.cells 2 w0 sv xs) (hok : ∀ x ∈ xs, x.Ok) (ha0 : 0 ≤ a) (ha1 : a ≤ 65535) :
    Calls Try.prog 3 #[sv, .int .u16 a, .int .i64 n] w0 fun e w' => e = .returned (.bool true) ∧ Ext0 w0 w' := by
  have H : SH (fun _ => False) w0 w0 [] := SH.nil _ _
  have hfew := few_any sv xs w0 hr
  have hl : (xs.take 40).length ≤ 40 := by rw [List.length_take]; omega
  have hsm : Small (xs.take 40) := fun s hs => hok s (List.mem_of_mem_take hs)
  generalize xs.take 40 = l at hfew hl hsm
  obtain ⟨t, ht⟩ : ∃ t, a % 4097 = t := ⟨_, rfl⟩
  have ht0 : 0 ≤ t := by omega
  have ht1 : t ≤ 4096 := by omega
  have hta : Int.tmod a 4097 = t := by rw [← ht]; exact Int.tmod_eq_emod_of_nonneg ha0
  have hfi := fun {v : Value} {w : World} (h : RdS Sp.cells 2 w v l) => find_any v l t n w (by omega) h ht0 ht1 hsm
  have hfi2 := fun {v : Value} {w : World} (h : RdS Sp.cells 2 w v l) => refFind_any v l t n w (by omega) h ht0 ht1 hsm
  have hg := fun {v : Value} {w : World} (h : RdS Sp.cells 2 w v l) => good_any v l t w (by omega) h ht0 ht1 hsm
  have hg2 := fun {v : Value} {w : World} (h : RdS Sp.cells 2 w v l) => refGood_any v l t w (by omega) h ht0 ht1 hsm
  have hh := fun {v : Value} {w : World} (h : RdS Sp.cells 2 w v l) => holes_any v l t w (by omega) h ht0 ht1 hsm
  have hh2 := fun {v : Value} {w : World} (h : RdS Sp.cells 2 w v l) => refHoles_any v l t w (by omega) h ht0 ht1 hsm
  have hf := fun {v : Value} {w : World} (h : RdS Sp.cells 2 w v l) => free_any v l t w (by omega) h ht0 ht1 hsm
  have hf2 := fun {v : Value} {w : World} (h : RdS Sp.cells 2 w v l) => refFree_any v l t w (by omega) h ht0 ht1 hsm
  have hhl := holesL_len (xs := l) ht0 ht1
  have haw := fun {w : World} => awake_space w
  generalize (findL (holesL l t) n).1 = q1 at hfi hfi2
  generalize (findL (holesL l t) n).2 = q2 at hfi hfi2
  generalize holesL l t = hs at hh hh2 hhl
  generalize goodB l t = gd at hg hg2
  generalize freeL l t = fr at hf hf2
  clear hsm
  go_enter Try.func3, Try.ntmps3
  go_wp2_with (first
    | (go_at_call 12; refine hfew.mono ?_; rintro e w ⟨⟨v, rfl, hv⟩, rfl⟩)
    | (go_at_call 13; refine (hfi (hv.keep H.ext)).mono ?_; rintro e w1 ⟨rfl, h⟩; replace H := H.calls h; clear h)
    | (go_at_call 14; refine (hfi2 (hv.keep H.ext)).mono ?_; rintro e w1 ⟨rfl, h⟩; replace H := H.calls h; clear h)
    | (go_at_call 15; refine haw.mono ?_; rintro e w1 ⟨rfl, h⟩; replace H := H.calls h; clear h)
    | (go_at_call 16; refine (hg (hv.keep H.ext)).mono ?_; rintro e w1 ⟨rfl, h⟩; replace H := H.calls h; clear h)
    | (go_at_call 17; refine (hg2 (hv.keep H.ext)).mono ?_; rintro e w1 ⟨rfl, h⟩; replace H := H.calls h; clear h)
    | (go_at_call 19; refine (hh (hv.keep H.ext)).mono ?_; rintro e w1 ⟨⟨v1, rfl, hv1⟩, h⟩; replace H := H.calls h; clear h)
    | (go_at_call 20; refine (hh2 (hv.keep H.ext)).mono ?_; rintro e w1 ⟨⟨v2, rfl, hv2⟩, h⟩; replace H := H.calls h; replace hv1 := hv1.keep h; clear h)
    | (go_at_call 18; refine (same_any _ _ hs hs _ hv1 hv2 (by omega) (by omega)).mono ?_; rintro e w2 ⟨⟨q', rfl, hq'⟩, h⟩; obtain rfl : q' = true := hq'.2 rfl; replace H := H.calls h; clear h hv1 hv2 hq')
    | (go_at_call 21; refine (hf (hv.keep H.ext)).mono ?_; rintro e w1 ⟨rfl, h⟩; replace H := H.calls h; clear h)
    | (go_at_call 22; refine (hf2 (hv.keep H.ext)).mono ?_; rintro e w1 ⟨rfl, h⟩; replace H := H.calls h; clear h))
  all_goals (go_ret; exact ⟨by simp, H.ext⟩)

theorem finds_row (w : World) (v : Value) (h1 : ∃ xs : List Sp, RdS Sp.cells 2 w v xs ∧ ∀ x ∈ xs, x.Ok) (a : Int) (wa : (Lit.int .u16 a).wf = true) (n : Int) (_ : (Lit.int .i64 n).wf = true) : Calls Try.prog 3 #[v, .int .u16 a, .int .i64 n] w fun e w' => e = .returned (.bool true) ∧ Below w.heap.size w w' := by
  obtain ⟨xs, hr, hx⟩ := h1
  have ba := wf_bounds' wa
  simp [IntKind.min, IntKind.max, IntKind.bits, IntKind.signed] at ba
  exact (finds_walk v xs a n w hr hx ba.1 (by omega)).mono fun _ _ h => ⟨h.1, h.2.below⟩
section
open Go.ChangeShapes Go.WideShapes Go.ChangeAt Go.RowKit
open Go.ChangeMaps (open_string shut_string)
theorem spaceFinds_own : ownKnob Try.prog.godebug = none := by kernel_rfl
theorem spaceFinds_laidOut : laidOutB Try.prog = true := by kernel_rfl
set_option maxRecDepth 100000 in
theorem spaceFinds_lifted (os : Os) (started : os.Started) (H : Type) (enc : TypeId × Value → H) :
    ReturnsInHanded {} Try.checked os 3 .any (Rows.spaceFindsSpec.pre6 enc Try.prog Try.f3 Rows.spaceFindsRow.domain false) (Rows.spaceFindsSpec.post enc Try.prog Try.f3 false true false false) := by
  refine returnsInHanded_of_change (C := Try.checked) spaceFinds_own started (by kernel_rfl) Try.func3
    (ChangeSpec.witness6 (enc := enc) (C := Try.checked) false ⟨#[], #[.slice none 0 0, .int .u16 0, .int .i64 0], []⟩ 8 (by kernel_rfl) (by kernel_rfl) (by kernel_rfl) (by kernel_rfl)) ?_
  intro W base args ds gs before hval0 hW hcnd _
  have hval : ∀ (j : Nat) t v, Try.f3.params[j]? = some t → args[j]? = some v → Value.okWide Try.prog W .any base t v := hval0
  have hW' := hW
  obtain ⟨p, q, hA0, hV, rfl, hfz, hnd⟩ := hW
  have hA : DataW.TrodAll enc Try.prog W 0 (fun _ => true) true Try.f3.params.toList args.toList ds p := hA0
  rw [Try.params3] at hA hval
  obtain ⟨v0, vs0, d0, ds0, p0, q0, hargs, rfl, rfl, h0, r0⟩ := trodAll_cons hA
  obtain ⟨v1, vs1, d1, ds1, p1, q1, rfl, rfl, rfl, h1, r1⟩ := trodAll_cons r0
  obtain ⟨v2, vs2, d2, ds2, p2, q2, rfl, rfl, rfl, h2, r2⟩ := trodAll_cons r1
  obtain ⟨rfl, rfl, rfl⟩ := trodAll_nil r2
  obtain rfl : args = #[v0, v1, v2] := by cases args; simp_all
  obtain ⟨rfl, rfl⟩ := trodVars_none hV
  have k0 := h0
  have lt0 : ∀ x ∈ p0, x.block < W.heap.size := by obtain ⟨m, hm⟩ := k0; exact DataW.trod_lt m _ _ _ hm
  have w0 := spans_of (hval 0 22 v0 rfl rfl) h0
  obtain ⟨a1, rfl, rfl, rfl, w1⟩ := open_int Try.underlying23 (hval 1 23 v1 rfl rfl) h1
  obtain ⟨a2, rfl, rfl, rfl, w2⟩ := open_int Try.underlying3 (hval 2 3 v2 rfl rfl) h2
  clear hA0 hval0
  refine (finds_row W v0 w0 a1 w1 a2 w2).mono fun e W' ⟨he, bel⟩ => ?_
  subst he
  exact ⟨_, rfl, _, _, _, [], _, [], hW', trodAll_mk1 (shut_bool Try.underlying4 _), (trodAll_cons_mk (Below.trod spaceFinds_laidOut (by kernel_rfl) (of_decide_eq_true (by kernel_rfl)) k0 bel lt0) (trodAll_cons_mk (shut_int Try.underlying23 w1) (trodAll_cons_mk (shut_int Try.underlying3 w2) trodAll_mk0))), rfl, bel.frame _, fun h => by cases h⟩
theorem spaceFinds_over : Rows.spaceFindsRow.holds Try.pinned (OpenSpec.ofChange Rows.spaceFindsSpec) :=
  OpenClaim.holds_of_wide 3 Try.f3 rfl rfl rfl rfl rfl rfl rfl ⟨rfl, rfl, rfl, rfl, rfl⟩ rfl rfl rfl rfl rfl (by kernel_rfl) Try.func3 (by kernel_rfl)
    (of_decide_eq_true (by kernel_rfl)) (by unfold Func.isWrapper; first | (rw [if_pos (by decide +kernel)]; kernel_rfl) | (rw [if_neg (by decide +kernel)]; exact ⟨rfl, rfl⟩))
    (fun os started H enc _ => spaceFinds_lifted os started H enc)
/-- THE STATEMENT. -/
theorem spaceFinds_holds : Rows.SpaceFindsSaid := spaceFinds_over
#print axioms spaceFinds_holds
end
end Go.Proofs.Ytjdfeagjbhdceaa
