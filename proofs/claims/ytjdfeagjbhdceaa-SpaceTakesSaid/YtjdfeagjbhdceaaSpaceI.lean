/- SpaceTakes: what is found may be taken; then it is not free any more, and all else is as it was: for every input. -/
import Derived.Test.YtjdfeagjbhdceaaSpaceH
import Derived.Test.YtjdfeagjbhdceaaOpen
import Derived.Test.YtjdfeagjbhdceaaRows
import Derived.WalkKit
import Derived.ProofKit
import Derived.OpenShut
import Derived.ShutString
import Derived.ChangeOld
import Derived.Below
namespace Go.Proofs.Ytjdfeagjbhdceaa
set_option linter.unusedVariables false
set_option linter.unusedSimpArgs false
open Go.RowKit Go.Shelf
section
open Go.ChangeShapes Go.WideShapes
theorem wf_bounds' {q : IntKind} {a : Int} (h : (Lit.int q a).wf = true) : q.min ≤ a ∧ a ≤ q.max := by simpa [Lit.wf] using h
theorem cells34 : Try.prog.cellsOf 34 = 2 := by kernel_rfl
theorem cell1_int' : Try.prog.cellsOf 3 = 1 := by kernel_rfl
def Sp.Ok (s : Sp) : Prop := -9223372036854775808 ≤ s.at_ ∧ s.at_ < 9223372036854775808 ∧ -9223372036854775808 ≤ s.len ∧ s.len < 9223372036854775808
set_option maxRecDepth 100000 in
theorem span_of {H : Type} {enc : TypeId × Value → H} {w : World} (n : Nat) (cs : List Value) (x : DataW H × List MemPlace) (h : DataW.trod enc Try.prog w 0 (fun _ => true) true n 34 cs = some x) : ∃ d : Sp, cs = d.cells ∧ d.Ok := by
  obtain ⟨xs, m, _, _, hl, hlen, hf⟩ := DataW.trod_struct Try.underlying34 h
  rw [cells34] at hl
  match cs, hl, xs, hlen with
  | [c0, c1], _, [y0, y1], _ =>
    obtain ⟨a0, e0, _, w0⟩ := DataW.trod_int Try.underlying3 (hf 0 _ rfl)
    obtain ⟨a1, e1, _, w1⟩ := DataW.trod_int Try.underlying3 (hf 1 _ rfl)
    have g0 : c0 = .int .i64 a0 := by simpa [cell1_int'] using e0
    have g1 : c1 = .int .i64 a1 := by simpa [cell1_int'] using e1
    subst g0 g1
    have b0 := wf_bounds' w0
    have b1 := wf_bounds' w1
    refine ⟨⟨a0, a1⟩, rfl, ?_⟩
    simp [IntKind.min, IntKind.max, IntKind.bits, IntKind.signed] at b0 b1
    unfold Sp.Ok
    simp only
    omega
set_option maxRecDepth 100000 in
theorem spans_of {H : Type} {enc : TypeId × Value → H} {w : World} {r : Reach} {base : Nat} {v : Value} {d : DataW H} {ps : List MemPlace} (hv : Value.okWide Try.prog w r base 22 v) (h : DataW.Trod enc Try.prog w 0 (fun _ => true) true 22 v d ps) :
    ∃ xs : List Sp, RdS Sp.cells 2 w v xs ∧ ∀ x ∈ xs, x.Ok := by
  obtain ⟨A, len, cap, rfl⟩ := okWide_slice Try.underlying22 hv
  exact rds_of_slice Try.underlying22 cells34 (by omega) span_of h
end
theorem findL_none {hs : List Sp} {m a : Int} (h : findL hs m = (a, false)) : a = 0 := by
  unfold findL at h
  split at h
  · simp at h
  · simp at h; exact h.symm

set_option maxRecDepth 100000 in
set_option maxHeartbeats 8000000 in
theorem takes_walk (sv : Value) (xs : List Sp) (a b : Int) (w0 : World) (hr : RdS Sp.cells 2 w0 sv xs) (hok : ∀ x ∈ xs, x.Ok) (ha0 : 0 ≤ a) (ha1 : a ≤ 65535) (hb0 : 0 ≤ b) (hb1 : b ≤ 65535) :
    Calls Try.prog 4 #[sv, .int .u16 a, .int .u16 b] w0 fun e w' => e = .returned (.bool true) ∧ Ext0 w0 w' := by
  have H : SH (fun _ => False) w0 w0 [] := SH.nil _ _
  have hfew := few_any sv xs w0 hr
  have hl : (xs.take 40).length ≤ 40 := by rw [List.length_take]; omega
  have hsm : Small (xs.take 40) := fun s hs => hok s (List.mem_of_mem_take hs)
  generalize xs.take 40 = l at hfew hl hsm
  obtain ⟨t, ht⟩ : ∃ t, a % 4097 = t := ⟨_, rfl⟩
  obtain ⟨m, hm⟩ : ∃ m, b % 200 = m := ⟨_, rfl⟩
  have ht0 : 0 ≤ t := by omega
  have ht1 : t ≤ 4096 := by omega
  have hm0 : 0 ≤ m := by omega
  have hm1 : m < 200 := by omega
  have hfi := fun {v : Value} {w : World} (h : RdS Sp.cells 2 w v l) => find_any v l t m w (by omega) h ht0 ht1 hsm
  have hfr := fun {v : Value} {w : World} (h : RdS Sp.cells 2 w v l) => free_any v l t w (by omega) h ht0 ht1 hsm
  have haw := fun {w : World} => awake_space w
  have hno := fun a' => findL_none (hs := holesL l t) (m := m) (a := a')
  have htk := fun a' => takes (xs := l) (t := t) (m := m) (at_ := a') ht0
  have hfl := free_le (xs := l) ht0
  obtain ⟨⟨qa, qb⟩, hq⟩ : ∃ q, findL (holesL l t) m = q := ⟨_, rfl⟩
  rw [hq] at hfi hno htk
  dsimp only at hfi
  clear hq
  have hta : Int.tmod a 4097 = t := by rw [← ht]; exact Int.tmod_eq_emod_of_nonneg ha0
  have htb : Int.tmod b 200 = m := by rw [← hm]; exact Int.tmod_eq_emod_of_nonneg hb0
  cases qb
  · obtain rfl := hno qa rfl
    clear hno htk
    go_enter Try.func4, Try.ntmps4
    go_wp2_with (first
      | (go_at_call 12; refine hfew.mono ?_; rintro e w ⟨⟨v, rfl, hv⟩, rfl⟩)
      | (go_at_call 13; refine (hfi (hv.keep H.ext)).mono ?_; rintro e w1 ⟨rfl, h⟩; replace H := H.calls h; clear h)
      | (go_at_call 15; refine haw.mono ?_; rintro e w1 ⟨rfl, h⟩; replace H := H.calls h; clear h))
    go_ret
    exact ⟨rfl, H.ext⟩
  · obtain ⟨hm2, hG, hF⟩ := htk qa rfl
    clear hno htk
    have hml : (l ++ [(⟨qa, m⟩ : Sp)]).length ≤ 1000 := by simp; omega
    have hqq := hG.1 ⟨qa, m⟩ (by simp)
    simp only at hqq
    have hsm2 : Small (l ++ [⟨qa, m⟩]) := fun s hs => by
      rcases List.mem_append.1 hs with hs | hs
      · exact hsm s hs
      · rw [List.mem_singleton.1 hs]; simp only; omega
    have hgm := fun {v : Value} {w : World} (h : RdS Sp.cells 2 w v (l ++ [⟨qa, m⟩])) => good_any v _ t w hml h ht0 ht1 hsm2
    have hfm := fun {v : Value} {w : World} (h : RdS Sp.cells 2 w v (l ++ [⟨qa, m⟩])) => free_any v _ t w hml h ht0 ht1 hsm2
    rw [show goodB (l ++ [⟨qa, m⟩]) t = true from decide_eq_true hG] at hgm
    rw [hF] at hfm
    generalize freeL l t = fr at hfr hfm hfl
    have hnb1 : (0 + l.length) * 16 ≤ 140737488355328 := by omega
    have hnm1 : 0 + l.length ≤ maxLen := by simp only [maxLen]; omega
    have hnb2 : (0 + l.length + [(⟨qa, m⟩ : Sp)].length) * 16 ≤ 140737488355328 := by simp only [List.length_cons, List.length_nil]; omega
    have hnm2 : 0 + l.length + [(⟨qa, m⟩ : Sp)].length ≤ maxLen := by simp only [maxLen, List.length_cons, List.length_nil]; omega
    clear hG hF hsm hsm2 hqq
    go_enter Try.func4, Try.ntmps4
    go_wp2_with (first
      | (go_at_call 12; refine hfew.mono ?_; rintro e w ⟨⟨v, rfl, hv⟩, rfl⟩)
      | (go_at_call 13; refine (hfi (hv.keep H.ext)).mono ?_; rintro e w1 ⟨rfl, h⟩; replace H := H.calls h; clear h; have H1 := ((H.alloc (.cells #[] 34)).toOwn 0 rfl 2 0 0 (Nat.le_refl _) (Nat.zero_le _) rfl [] rfl); simp only [List.set_cons_zero] at H1)
      | (refine L_append Sp.clen Sp.one rfl rfl Try.underlying22 tinfo34 rfl (by decide) H1 0 rfl rfl rfl (hv.keep H1.ext) hnb1 hnm1 ?_; clear H H1; intro v2 w2 H hnn; simp only [List.set_cons_zero] at H; have H2 := H.alloc (.cells #[.int .i64 qa, .int .i64 m] 34))
      | (refine L_append Sp.clen Sp.one rfl rfl Try.underlying22 tinfo34 rfl (by decide) H2 1 rfl rfl rfl (oneSpan (s := ⟨qa, m⟩) (H2.at_ 0 rfl)) hnb2 hnm2 ?_; clear H H2; intro v3 w3 H hnn2; simp only [List.set_cons_zero, List.set_cons_succ] at H; replace H := H.drop (List.sublist_cons_self _ _); rw [List.nil_append, ← cellsOf_append] at H; have hmo := RdS.own Sp.clen (by simp) (H.get 0 rfl))
      | (go_at_call 15; refine haw.mono ?_; rintro e w1 ⟨rfl, h⟩; replace H := H.calls h; replace hmo := hmo.keep h; clear h)
      | (go_at_call 16; refine (hgm hmo).mono ?_; rintro e w1 ⟨rfl, h⟩; replace H := H.calls h; replace hmo := hmo.keep h; clear h)
      | (go_at_call_of 21 v3; refine (hfm hmo).mono ?_; rintro e w1 ⟨rfl, h⟩; replace H := H.calls h; replace hmo := hmo.keep h; clear h)
      | (go_at_call_of 21 v; refine (hfr (hv.keep H.ext)).mono ?_; rintro e w1 ⟨rfl, h⟩; replace H := H.calls h; replace hmo := hmo.keep h; clear h))
    go_ret
    exact ⟨rfl, H.ext⟩

theorem takes_row (w : World) (v : Value) (h1 : ∃ xs : List Sp, RdS Sp.cells 2 w v xs ∧ ∀ x ∈ xs, x.Ok) (a : Int) (wa : (Lit.int .u16 a).wf = true) (b : Int) (wb : (Lit.int .u16 b).wf = true) : Calls Try.prog 4 #[v, .int .u16 a, .int .u16 b] w fun e w' => e = .returned (.bool true) ∧ Below w.heap.size w w' := by
  obtain ⟨xs, hr, hx⟩ := h1
  have ba := wf_bounds' wa
  have bb := wf_bounds' wb
  simp [IntKind.min, IntKind.max, IntKind.bits, IntKind.signed] at ba bb
  exact (takes_walk v xs a b w hr hx ba.1 (by omega) bb.1 (by omega)).mono fun _ _ h => ⟨h.1, h.2.below⟩
section
open Go.ChangeShapes Go.WideShapes Go.ChangeAt Go.RowKit
open Go.ChangeMaps (open_string shut_string)
theorem spaceTakes_own : ownKnob Try.prog.godebug = none := by kernel_rfl
theorem spaceTakes_laidOut : laidOutB Try.prog = true := by kernel_rfl
set_option maxRecDepth 100000 in
theorem spaceTakes_lifted (os : Os) (started : os.Started) (H : Type) (enc : TypeId × Value → H) :
    ReturnsInHanded {} Try.checked os 4 .any (Rows.spaceTakesSpec.pre6 enc Try.prog Try.f4 Rows.spaceTakesRow.domain false) (Rows.spaceTakesSpec.post enc Try.prog Try.f4 false true false false) := by
  refine returnsInHanded_of_change (C := Try.checked) spaceTakes_own started (by kernel_rfl) Try.func4
    (ChangeSpec.witness6 (enc := enc) (C := Try.checked) false ⟨#[], #[.slice none 0 0, .int .u16 0, .int .u16 0], []⟩ 8 (by kernel_rfl) (by kernel_rfl) (by kernel_rfl) (by kernel_rfl)) ?_
  intro W base args ds gs before hval0 hW hcnd _
  have hval : ∀ (j : Nat) t v, Try.f4.params[j]? = some t → args[j]? = some v → Value.okWide Try.prog W .any base t v := hval0
  have hW' := hW
  obtain ⟨p, q, hA0, hV, rfl, hfz, hnd⟩ := hW
  have hA : DataW.TrodAll enc Try.prog W 0 (fun _ => true) true Try.f4.params.toList args.toList ds p := hA0
  rw [Try.params4] at hA hval
  obtain ⟨v0, vs0, d0, ds0, p0, q0, hargs, rfl, rfl, h0, r0⟩ := trodAll_cons hA
  obtain ⟨v1, vs1, d1, ds1, p1, q1, rfl, rfl, rfl, h1, r1⟩ := trodAll_cons r0
  obtain ⟨v2, vs2, d2, ds2, p2, q2, rfl, rfl, rfl, h2, r2⟩ := trodAll_cons r1
  obtain ⟨rfl, rfl, rfl⟩ := trodAll_nil r2
  obtain rfl : args = #[v0, v1, v2] := by cases args; simp_all
  obtain ⟨rfl, rfl⟩ := trodVars_none hV
  have k0 := h0
  have lt0 : ∀ x ∈ p0, x.block < W.heap.size := by obtain ⟨m, hm⟩ := k0; exact DataW.trod_lt m _ _ _ hm
  have w0 := spans_of (hval 0 22 v0 rfl rfl) h0
  obtain ⟨a1, rfl, rfl, rfl, w1⟩ := open_int Try.underlying23 (hval 1 23 v1 rfl rfl) h1
  obtain ⟨a2, rfl, rfl, rfl, w2⟩ := open_int Try.underlying23 (hval 2 23 v2 rfl rfl) h2
  clear hA0 hval0
  refine (takes_row W v0 w0 a1 w1 a2 w2).mono fun e W' ⟨he, bel⟩ => ?_
  subst he
  exact ⟨_, rfl, _, _, _, [], _, [], hW', trodAll_mk1 (shut_bool Try.underlying4 _), (trodAll_cons_mk (Below.trod spaceTakes_laidOut (by kernel_rfl) (of_decide_eq_true (by kernel_rfl)) k0 bel lt0) (trodAll_cons_mk (shut_int Try.underlying23 w1) (trodAll_cons_mk (shut_int Try.underlying23 w2) trodAll_mk0))), rfl, bel.frame _, fun h => by cases h⟩
theorem spaceTakes_over : Rows.spaceTakesRow.holds Try.pinned (OpenSpec.ofChange Rows.spaceTakesSpec) :=
  OpenClaim.holds_of_wide 4 Try.f4 rfl rfl rfl rfl rfl rfl rfl ⟨rfl, rfl, rfl, rfl, rfl⟩ rfl rfl rfl rfl rfl (by kernel_rfl) Try.func4 (by kernel_rfl)
    (of_decide_eq_true (by kernel_rfl)) (by unfold Func.isWrapper; first | (rw [if_pos (by decide +kernel)]; kernel_rfl) | (rw [if_neg (by decide +kernel)]; exact ⟨rfl, rfl⟩))
    (fun os started H enc _ => spaceTakes_lifted os started H enc)
/-- THE STATEMENT. -/
theorem spaceTakes_holds : Rows.SpaceTakesSaid := spaceTakes_over
#print axioms spaceTakes_holds
end
end Go.Proofs.Ytjdfeagjbhdceaa
