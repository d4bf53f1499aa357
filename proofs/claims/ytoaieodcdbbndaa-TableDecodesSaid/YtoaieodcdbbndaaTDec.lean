/- TableDecodes: Decode agrees with the document's. For every input. -/
import Derived.Test.YtoaieodcdbbndaaTabR
import Derived.Test.YtoaieodcdbbndaaTabT
import Derived.Test.YtoaieodcdbbndaaTabU
import Derived.Test.YtoaieodcdbbndaaRows
import Derived.Deep.RegionWith
import Derived.WalkKit
import Derived.ProofKit
import Derived.OpenShut
import Derived.ShutString
import Derived.ChangeOld
import Derived.Below
namespace Go.Proofs.Ytoaieodcdbbndaa
set_option linter.unusedVariables false
set_option linter.unusedSimpArgs false
open Go.RowKit

def BytesIn (w : World) (v : Value) : Prop := ∃ xs : List Int, RdS (encInt .u8) 1 w v xs ∧ ∀ x ∈ xs, 0 ≤ x ∧ x ≤ 255
section
open Go.ChangeShapes Go.WideShapes
set_option maxRecDepth 100000 in
theorem bytes_arg {H : Type} {enc : TypeId × Value → H} {w : World} {r : Reach} {base : Nat} {v : Value} {d : DataW H} {ps : List MemPlace} (hv : Value.okWide Try.prog w r base 34 v) (h : DataW.Trod enc Try.prog w 0 (fun _ => true) true 34 v d ps) : BytesIn w v := by
  obtain ⟨A, len, cap, rfl⟩ := okWide_slice Try.underlying34 hv
  exact rds_of_slice (enc' := encInt .u8) (k := 1) (Ok := fun b => 0 ≤ b ∧ b ≤ 255) Try.underlying34 c1_u8 (by omega) (fun n cs x h => by
    obtain ⟨a, e, _, wf⟩ := DataW.trod_int Try.underlying5 h
    exact ⟨a, e, wf_in wf⟩) h
end
def DecK (T : Tab) (F : Int) (w : World) (e : Ending) (w' : World) : Prop :=
  ∃ bv ps, e = .returned (.tuple #[tabV T bv, .int .i64 F]) ∧ ps.map (·.2) = T.bs ∧ BsR w' bv ps ∧ ps.length ≤ 12 ∧ (∀ b ∈ T.bs, b.Fit) ∧ Ext0 w w'
theorem sameK (T : Tab) {bv cv : Value} {ps qs : List BV} {W : World} (h1 : ps.map (·.2) = T.bs) (h2 : BsR W bv ps) (h3 : ps.length ≤ 12) (hf : ∀ b ∈ T.bs, b.Fit) (h4 : qs.map (·.2) = T.bs) (h5 : BsR W cv qs) (h6 : qs.length ≤ 12) :
    Calls Try.prog 21 #[tabV T bv, tabV T cv] W fun e w' => e = .returned (.bool true) ∧ Ext0 W w' :=
  refSame_any _ _ bv cv ps qs W h1 h2 (by omega) hf h4 h5 (by omega) hf rfl
set_option maxRecDepth 100000 in
set_option maxHeartbeats 4000000 in
theorem decodes_walk (v : Value) (w0 : World) (h : BytesIn w0 v) : Calls Try.prog 5 #[v] w0 fun e w' => e = .returned (.bool true) ∧ Ext0 w0 w' := by
  obtain ⟨xs, hr, hxb⟩ := h
  obtain ⟨A, cap, rfl, hcap⟩ := hr.len
  have H : SH (fun _ => False) w0 w0 [] := SH.nil _ _
  obtain ⟨n, hn⟩ : ∃ n, xs.length = n := ⟨_, rfl⟩
  rw [hn] at hr hcap ⊢
  -- what is read behind the cut
  have tail : ∀ (u : Value) (ys : List Int), RdS (encInt .u8) 1 w0 u ys → (∀ x ∈ ys, 0 ≤ x ∧ x ≤ 255) → ys.length ≤ 3000 →
      ∃ T F, (∀ W, Ext0 w0 W → Calls Try.prog 19 #[u] W (DecK T F W)) ∧ (∀ W, Ext0 w0 W → Calls Try.prog 20 #[u] W (DecK T F W)) := by
    intro u ys hu hyb hyl
    exact ⟨(decR ys).1, (decR ys).2, fun W hE => decode_any u ys W (hu.keep hE) hyb (by omega), fun W hE => refDecode_any u ys W (hu.keep hE) hyb (by omega)⟩
  by_cases h3 : 3000 < n
  · have h3i : (3000 : Int) < (n : Int) := by omega
    have h3c : (3000 : Int) ≤ (cap : Int) := by omega
    obtain ⟨bb, off, rfl, _⟩ := byte_cell hr (j := 0) (by omega)
    have hu := sub_rd hr 0 3000 (by omega) (by omega)
    rw [Nat.add_zero, Nat.sub_zero] at hu
    obtain ⟨T, F, hd, hrd⟩ := tail _ _ hu (fun x hx => hxb x (List.mem_of_mem_drop (List.mem_of_mem_take hx))) (by simp; omega)
    obtain ⟨a1, a2, a3, a4, a5, a6, abs⟩ := T
    clear tail hu hr hxb hn
    go_enter Try.func5, Try.ntmps5
    go_upto_region 6 with (first
      | (go_at_call 19; refine (hd _ H.ext).mono ?_; rintro e w1 ⟨bv, ps, rfl, hpm, hb, hpl, hf, hE⟩; replace H := H.calls hE; have hE1 := H.ext; clear H hE; obtain ⟨Ab, cb, rfl, _⟩ := hb.row.len; simp only [tabV]; have H1 : SH (fun _ => False) w1 w1 [] := SH.nil _ _)
      | (refine L_alloc rfl rfl H1 Try.zeroValue24 ?_; clear H1; intro g4 w H1; simp only [Value.cells] at H1)
      | (refine L_storerow rfl rfl H1 0 rfl rfl rfl info24 rfl rfl (one7s _ _ _ _ _ _ _ _ _) ?_; clear H1; intro w H1; simp only [List.set_cons_zero] at H1)
      | (go_at_call 20; refine (hrd _ (hE1.trans0 H1.ext)).mono ?_; rintro e w2 ⟨cv, qs, rfl, hqm, hc, hql, hg, hE⟩; replace H1 := H1.calls hE; replace hb := hb.keep H1.ext; have hE2 := hE1.trans0 H1.ext; have hg4 := H1.at_ 0 rfl; clear H1 hE hE1; obtain ⟨Ac, cc, rfl, _⟩ := hc.row.len; simp only [tabV]; have H2 : SH (fun _ => False) w2 w2 [] := SH.nil _ _)
      | (refine L_alloc rfl rfl H2 Try.zeroValue24 ?_; clear H2; intro g6 w H2; simp only [Value.cells] at H2)
      | (refine L_storerow rfl rfl H2 0 rfl rfl rfl info24 rfl rfl (one7s _ _ _ _ _ _ _ _ _) ?_; clear H2; intro w H2; simp only [List.set_cons_zero] at H2))
    have hsame := fun {W : World} (hE : Ext0 w2 W) => sameK ⟨a1, a2, a3, a4, a5, a6, abs⟩ hpm (hb.keep hE) hpl hf hqm (hc.keep hE) hql
    simp only [tabV] at hsame
    go_wp2_with (first
      | (go_at_call 9; refine (awake_any _).mono ?_; rintro e w ⟨rfl, hE⟩; replace H2 := H2.calls hE; clear hE)
      | (refine L_unguard (by first | rfl | (go_simp; done)) ?_; refine L_loadmidr rfl rfl H2 rfl hg4 (fun e => e) Try.underlying24 rfl info24 [.int .i64 a1, .int .i64 a2, .int .i64 a3, .int .i64 a4, .int .i64 a5, .int .i64 a6, .slice Ab ps.length cb] rfl (fun j _ => by rw [Nat.zero_add]; simp) ?_; (try simp only [Act.put, List.setIfInBounds_toArray, List.set_cons_succ, List.set_cons_zero, List.getElem_toArray, List.getElem_cons_succ, List.getElem_cons_zero]))
      | (refine L_unguard (by first | rfl | (go_simp; done)) ?_; refine L_loadrow rfl rfl H2 0 rfl rfl Try.underlying24 rfl info24 rfl ?_; (try simp only [Act.put, List.setIfInBounds_toArray, List.set_cons_succ, List.set_cons_zero, List.getElem_toArray, List.getElem_cons_succ, List.getElem_cons_zero]))
      | (go_at_call 21; refine (hsame H2.ext).mono ?_; rintro e w ⟨rfl, hE⟩; replace H2 := H2.calls hE; clear hE))

    go_ret
    exact ⟨rfl, hE2.trans0 H2.ext⟩
  · have h3i : ¬ (3000 : Int) < (n : Int) := by omega
    obtain ⟨T, F, hd, hrd⟩ := tail _ _ hr hxb (by omega)
    obtain ⟨a1, a2, a3, a4, a5, a6, abs⟩ := T
    clear tail hr hxb hn
    go_enter Try.func5, Try.ntmps5
    go_upto_region 6 with (first
      | (go_at_call 19; refine (hd _ H.ext).mono ?_; rintro e w1 ⟨bv, ps, rfl, hpm, hb, hpl, hf, hE⟩; replace H := H.calls hE; have hE1 := H.ext; clear H hE; obtain ⟨Ab, cb, rfl, _⟩ := hb.row.len; simp only [tabV]; have H1 : SH (fun _ => False) w1 w1 [] := SH.nil _ _)
      | (refine L_alloc rfl rfl H1 Try.zeroValue24 ?_; clear H1; intro g4 w H1; simp only [Value.cells] at H1)
      | (refine L_storerow rfl rfl H1 0 rfl rfl rfl info24 rfl rfl (one7s _ _ _ _ _ _ _ _ _) ?_; clear H1; intro w H1; simp only [List.set_cons_zero] at H1)
      | (go_at_call 20; refine (hrd _ (hE1.trans0 H1.ext)).mono ?_; rintro e w2 ⟨cv, qs, rfl, hqm, hc, hql, hg, hE⟩; replace H1 := H1.calls hE; replace hb := hb.keep H1.ext; have hE2 := hE1.trans0 H1.ext; have hg4 := H1.at_ 0 rfl; clear H1 hE hE1; obtain ⟨Ac, cc, rfl, _⟩ := hc.row.len; simp only [tabV]; have H2 : SH (fun _ => False) w2 w2 [] := SH.nil _ _)
      | (refine L_alloc rfl rfl H2 Try.zeroValue24 ?_; clear H2; intro g6 w H2; simp only [Value.cells] at H2)
      | (refine L_storerow rfl rfl H2 0 rfl rfl rfl info24 rfl rfl (one7s _ _ _ _ _ _ _ _ _) ?_; clear H2; intro w H2; simp only [List.set_cons_zero] at H2))
    have hsame := fun {W : World} (hE : Ext0 w2 W) => sameK ⟨a1, a2, a3, a4, a5, a6, abs⟩ hpm (hb.keep hE) hpl hf hqm (hc.keep hE) hql
    simp only [tabV] at hsame
    go_wp2_with (first
      | (go_at_call 9; refine (awake_any _).mono ?_; rintro e w ⟨rfl, hE⟩; replace H2 := H2.calls hE; clear hE)
      | (refine L_unguard (by first | rfl | (go_simp; done)) ?_; refine L_loadmidr rfl rfl H2 rfl hg4 (fun e => e) Try.underlying24 rfl info24 [.int .i64 a1, .int .i64 a2, .int .i64 a3, .int .i64 a4, .int .i64 a5, .int .i64 a6, .slice Ab ps.length cb] rfl (fun j _ => by rw [Nat.zero_add]; simp) ?_; (try simp only [Act.put, List.setIfInBounds_toArray, List.set_cons_succ, List.set_cons_zero, List.getElem_toArray, List.getElem_cons_succ, List.getElem_cons_zero]))
      | (refine L_unguard (by first | rfl | (go_simp; done)) ?_; refine L_loadrow rfl rfl H2 0 rfl rfl Try.underlying24 rfl info24 rfl ?_; (try simp only [Act.put, List.setIfInBounds_toArray, List.set_cons_succ, List.set_cons_zero, List.getElem_toArray, List.getElem_cons_succ, List.getElem_cons_zero]))
      | (go_at_call 21; refine (hsame H2.ext).mono ?_; rintro e w ⟨rfl, hE⟩; replace H2 := H2.calls hE; clear hE))

    go_ret
    exact ⟨rfl, hE2.trans0 H2.ext⟩
theorem decodes_row (w : World) (v : Value) (h1 : BytesIn w v) : Calls Try.prog 5 #[v] w fun e w' => e = .returned (.bool true) ∧ Below w.heap.size w w' :=
  (decodes_walk v w h1).mono fun _ _ h => ⟨h.1, h.2.below⟩
section
open Go.ChangeShapes Go.WideShapes Go.ChangeAt Go.RowKit
open Go.ChangeMaps (open_string shut_string)
theorem tableDecodes_own : ownKnob Try.prog.godebug = none := by kernel_rfl
theorem tableDecodes_laidOut : laidOutB Try.prog = true := by kernel_rfl
set_option maxRecDepth 100000 in
theorem tableDecodes_lifted (os : Os) (started : os.Started) (H : Type) (enc : TypeId × Value → H) :
    ReturnsInHanded {} Try.checked os 5 .any (Rows.tableDecodesSpec.pre6 enc Try.prog Try.f5 Rows.tableDecodesRow.domain false) (Rows.tableDecodesSpec.post enc Try.prog Try.f5 false true false false) := by
  refine returnsInHanded_of_change (C := Try.checked) tableDecodes_own started (by kernel_rfl) Try.func5
    (ChangeSpec.witness6 (enc := enc) (C := Try.checked) false ⟨#[], #[.slice none 0 0], []⟩ 8 (by kernel_rfl) (by kernel_rfl) (by kernel_rfl) (by kernel_rfl)) ?_
  intro W base args ds gs before hval0 hW hcnd _
  have hval : ∀ (j : Nat) t v, Try.f5.params[j]? = some t → args[j]? = some v → Value.okWide Try.prog W .any base t v := hval0
  have hW' := hW
  obtain ⟨p, q, hA0, hV, rfl, hfz, hnd⟩ := hW
  have hA : DataW.TrodAll enc Try.prog W 0 (fun _ => true) true Try.f5.params.toList args.toList ds p := hA0
  rw [Try.params5] at hA hval
  obtain ⟨v0, vs0, d0, ds0, p0, q0, hargs, rfl, rfl, h0, r0⟩ := trodAll_cons hA
  obtain ⟨rfl, rfl, rfl⟩ := trodAll_nil r0
  obtain rfl : args = #[v0] := by cases args; simp_all
  obtain ⟨rfl, rfl⟩ := trodVars_none hV
  have k0 := h0
  have lt0 : ∀ x ∈ p0, x.block < W.heap.size := by obtain ⟨m, hm⟩ := k0; exact DataW.trod_lt m _ _ _ hm
  have w0 := bytes_arg (hval 0 34 v0 rfl rfl) h0
  clear hA0 hval0
  refine (decodes_row W v0 w0).mono fun e W' ⟨he, bel⟩ => ?_
  subst he
  exact ⟨_, rfl, _, _, _, [], _, [], hW', trodAll_mk1 (shut_bool Try.underlying4 _), (trodAll_cons_mk (Below.trod tableDecodes_laidOut (by kernel_rfl) (of_decide_eq_true (by kernel_rfl)) k0 bel lt0) trodAll_mk0), rfl, bel.frame _, fun h => by cases h⟩
theorem tableDecodes_over : Rows.tableDecodesRow.holds Try.pinned (OpenSpec.ofChange Rows.tableDecodesSpec) :=
  OpenClaim.holds_of_wide 5 Try.f5 rfl rfl rfl rfl rfl rfl rfl ⟨rfl, rfl, rfl, rfl, rfl⟩ rfl rfl rfl rfl rfl (by kernel_rfl) Try.func5 (by kernel_rfl)
    (of_decide_eq_true (by kernel_rfl)) (by unfold Func.isWrapper; first | (rw [if_pos (by decide +kernel)]; kernel_rfl) | (rw [if_neg (by decide +kernel)]; exact ⟨rfl, rfl⟩))
    (fun os started H enc _ => tableDecodes_lifted os started H enc)
/-- THE STATEMENT. -/
theorem tableDecodes_holds : Rows.TableDecodesSaid := tableDecodes_over
#print axioms tableDecodes_holds
end
end Go.Proofs.Ytoaieodcdbbndaa
