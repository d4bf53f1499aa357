/- TableEncodes: Encode agrees with the document's. For every input. -/
import Derived.Test.YtoaieodcdbbndaaTabR
import Derived.Test.YtoaieodcdbbndaaRows
import Derived.Deep.RegionWith
import Derived.WalkKit
import Derived.ProofKit
import Derived.OpenShut
import Derived.ShutString
import Derived.ChangeOld
import Derived.Below
namespace Go.Proofs.Ytoaieodcdbbndaa
set_option linter.unusedVariables false
set_option linter.unusedSimpArgs false
open Go.RowKit

theorem cutT_fit {t : Tab} (h : ∀ b ∈ t.bs, b.Num ∧ ∀ x ∈ b.wrap, 0 ≤ x ∧ x ≤ 255) : ∀ b ∈ (cutT t).bs, b.Fit := fun b hb => by
  obtain ⟨c, hc, rfl⟩ := List.mem_map.1 hb
  have hc2 := h c (List.mem_of_mem_take hc)
  refine ⟨?_, fun x hx => hc2.2 x (List.mem_of_mem_take hx)⟩
  show (c.wrap.take 80).length ≤ 1000
  rw [List.length_take]
  omega
set_option maxRecDepth 100000 in
set_option maxHeartbeats 2000000 in
theorem encodes_walk (v : Value) (w0 : World) (h : TabIn w0 v) : Calls Try.prog 4 #[v] w0 fun e w' => e = .returned (.bool true) ∧ Ext0 w0 w' := by
  obtain ⟨t, bv, ps, rfl, hps, hb, hin⟩ := h
  have hfit := cutT_fit hin
  have hcut := fun {W : World} (h : Ext0 w0 W) => cut_any t bv ps W hps (hb.keep h)
  have henc := fun {W : World} {u : Value} {qs : List BV} (h1 : qs.map (·.2) = (cutT t).bs) (h2 : BsR W u qs) (h3 : qs.length ≤ 20) => encode_any (cutT t) u qs W h1 h2 (by omega) hfit
  have hrenc := fun {W : World} {u : Value} {qs : List BV} (h1 : qs.map (·.2) = (cutT t).bs) (h2 : BsR W u qs) (h3 : qs.length ≤ 20) => refEncode_any (cutT t) u qs W h1 h2 (by omega) hfit
  obtain ⟨out, hout⟩ : ∃ out, encTab (cutT t) = out := ⟨_, rfl⟩
  rw [hout] at henc hrenc
  obtain ⟨st, hst⟩ : ∃ st, strOfNums out = st := ⟨_, rfl⟩
  have HST := Lib.hid hst
  clear hst hout hfit hb hps hin
  unfold GivesCut at hcut
  obtain ⟨tv, htv⟩ : ∃ tv : Value → Value, ∀ u, tabV (cutT t) u = tv u := ⟨_, fun _ => rfl⟩
  simp only [htv] at hcut henc hrenc
  obtain ⟨a1, a2, a3, a4, a5, a6, abs⟩ := t
  simp only [tabV] at hcut ⊢
  clear htv
  generalize (cutT ⟨a1, a2, a3, a4, a5, a6, abs⟩).bs = cbs at *
  have H : SH (fun _ => False) w0 w0 [] := SH.nil _ _
  go_enter Try.func4, Try.ntmps4
  go_wp2_with (first | (refine L_box rfl rfl H rfl rfl ?_; clear H; intro g w H; (try simp only [Act.eval, Array.getD_eq_getD_getElem?, List.getElem?_toArray, List.getElem?_cons_succ, List.getElem?_cons_zero, Option.getD_some, Value.cells] at H); (try simp only [Act.put, List.setIfInBounds_toArray, List.set_cons_succ, List.set_cons_zero, List.getElem_toArray, List.getElem_cons_succ, List.getElem_cons_zero])))
  refine D_start H (by kernel_rfl) (fun hS => ?_)
  try simp only [Act.put, List.setIfInBounds_toArray, List.set_cons_succ, List.set_cons_zero]
  refine D_one 0 rfl (by kernel_rfl) (by rfl) ?_
  refine R_call (f := 9) (args := #[]) (by first | (go_simp; done) | (go_simp; rfl)) (awake_any _) ?_
  rintro e w ⟨rfl, hE⟩
  have hS2 := hS.calls hE
  clear hS
  have hS := hS2
  clear hS2 hE
  refine ⟨_, rfl, hS, ?_⟩
  try simp only [Act.put, List.getElem_toArray, List.getElem_cons_succ, List.getElem_cons_zero, List.setIfInBounds_toArray, List.set_cons_succ, List.set_cons_zero]
  refine D_take 1 (v := ?_) rfl (by kernel_rfl) (by kernel_rfl) (by kernel_rfl) (fun _ _ _ h => h) rfl (by rfl) (fun W hS => ?_) hS ?_
  rotate_left; (focus (first | (go_simp; done) | (go_simp; with_reducible rfl) | (go_simp; rfl))); all_goals skip; (try simp only [List.set_cons_succ, List.set_cons_zero])
  refine D_take 2 (v := (.agg #[.int .i64 a1, .int .i64 a2, .int .i64 a3, .int .i64 a4, .int .i64 a5, .int .i64 a6, bv])) rfl (by kernel_rfl) (by kernel_rfl) (by kernel_rfl) (fun _ _ _ h => h) rfl (by rfl) (fun W hS => R_loadrow (ty := 24) (x := .tmp 1) rfl hS 0 rfl rfl Try.underlying24 rfl info24 rfl) hS ?_; (try simp only [List.set_cons_succ, List.set_cons_zero])
  refine D_take 6 (v := (.agg #[.int .i64 a1, .int .i64 a2, .int .i64 a3, .int .i64 a4, .int .i64 a5, .int .i64 a6, bv])) rfl (by kernel_rfl) (by kernel_rfl) (by kernel_rfl) (fun _ _ _ h => h) rfl (by rfl) (fun W hS => R_loadrow (ty := 24) (x := .tmp 1) rfl hS 0 rfl rfl Try.underlying24 rfl info24 rfl) hS ?_; (try simp only [List.set_cons_succ, List.set_cons_zero])
  refine D_one 3 rfl (by kernel_rfl) (by rfl) ?_
  refine R_call (f := 8) (args := #[.agg #[.int .i64 a1, .int .i64 a2, .int .i64 a3, .int .i64 a4, .int .i64 a5, .int .i64 a6, bv]]) (by first | (go_simp; done) | (go_simp; rfl)) (hcut hS.ext) ?_
  rintro e w ⟨u1, qs1, rfl, hq1, hl1, hb1, hE⟩
  have hS2 := hS.calls hE
  clear hS
  have hS := hS2
  clear hS2 hE
  refine ⟨_, rfl, hS, ?_⟩
  try simp only [Act.put, List.getElem_toArray, List.getElem_cons_succ, List.getElem_cons_zero, List.setIfInBounds_toArray, List.set_cons_succ, List.set_cons_zero]
  refine D_one 4 rfl (by kernel_rfl) (by rfl) ?_
  refine R_call (f := 17) (args := #[tv u1]) (by first | (go_simp; done) | (go_simp; rfl)) (henc hq1 hb1 hl1) ?_
  rintro e w ⟨v1, rfl, hv1, hE⟩
  have hS2 := hS.calls hE
  clear hS
  have hS := hS2
  clear hS2 hE
  refine ⟨_, rfl, hS, ?_⟩
  try simp only [Act.put, List.getElem_toArray, List.getElem_cons_succ, List.getElem_cons_zero, List.setIfInBounds_toArray, List.set_cons_succ, List.set_cons_zero]
  refine D_two 5 7 rfl rfl (by kernel_rfl) (by rfl) (by rfl) ?_ ?_
  ·
    refine wp_of_value (v := .string st) (R_convert (src := 34) (dst := 9) (x := .tmp 7) rfl rfl (by rw [← HST.out]; exact run_string hv1 Try.underlying34 Try.underlying5 Try.underlying9)) ⟨hS, ?_⟩
    try simp only [Act.put, List.getElem_toArray, List.getElem_cons_succ, List.getElem_cons_zero, List.setIfInBounds_toArray, List.set_cons_succ, List.set_cons_zero]
    refine D_one 7 rfl (by kernel_rfl) (by rfl) ?_
    refine R_call (f := 8) (args := #[.agg #[.int .i64 a1, .int .i64 a2, .int .i64 a3, .int .i64 a4, .int .i64 a5, .int .i64 a6, bv]]) (by first | (go_simp; done) | (go_simp; rfl)) (hcut hS.ext) ?_
    rintro e w ⟨u2, qs2, rfl, hq2, hl2, hb2, hE⟩
    replace hv1 := hv1.keep hE
    have hS2 := hS.calls hE
    clear hS
    have hS := hS2
    clear hS2 hE
    refine ⟨_, rfl, hS, ?_⟩
    try simp only [Act.put, List.getElem_toArray, List.getElem_cons_succ, List.getElem_cons_zero, List.setIfInBounds_toArray, List.set_cons_succ, List.set_cons_zero]
    refine D_one 8 rfl (by kernel_rfl) (by rfl) ?_
    refine R_call (f := 18) (args := #[tv u2]) (by first | (go_simp; done) | (go_simp; rfl)) (hrenc hq2 hb2 hl2) ?_
    rintro e w ⟨v2, rfl, hv2, hE⟩
    replace hv1 := hv1.keep hE
    have hS2 := hS.calls hE
    clear hS
    have hS := hS2
    clear hS2 hE
    refine ⟨_, rfl, hS, ?_⟩
    try simp only [Act.put, List.getElem_toArray, List.getElem_cons_succ, List.getElem_cons_zero, List.setIfInBounds_toArray, List.set_cons_succ, List.set_cons_zero]
    refine D_one 9 rfl (by kernel_rfl) (by rfl) ?_
    refine wp_of_value (v := .string st) (R_convert (src := 34) (dst := 9) (x := .tmp 11) rfl rfl (by rw [← HST.out]; exact run_string hv2 Try.underlying34 Try.underlying5 Try.underlying9)) ⟨hS, ?_⟩
    try simp only [Act.put, List.getElem_toArray, List.getElem_cons_succ, List.getElem_cons_zero, List.setIfInBounds_toArray, List.set_cons_succ, List.set_cons_zero]
    refine D_take 10 (v := (.bool true)) rfl (by kernel_rfl) (by kernel_rfl) (by kernel_rfl) (fun _ _ _ h => h) rfl (by rfl) (fun W hS => by first | (go_simp; done) | (go_simp; rfl)) hS ?_; (try simp only [List.set_cons_succ, List.set_cons_zero])
    refine D_take 11 (v := ?_) rfl (by kernel_rfl) (by kernel_rfl) (by kernel_rfl) (fun _ _ _ h => h) rfl (by rfl) (fun W hS => ?_) hS ?_
    rotate_left; (focus (first | (go_simp; done) | (go_simp; with_reducible rfl) | (go_simp; rfl))); all_goals skip; (try simp only [List.set_cons_succ, List.set_cons_zero])
    refine D_take 12 (v := ?_) rfl (by kernel_rfl) (by kernel_rfl) (by kernel_rfl) (fun _ _ _ h => h) rfl (by rfl) (fun W hS => ?_) hS ?_
    rotate_left; (focus (first | (go_simp; done) | (go_simp; with_reducible rfl) | (go_simp; rfl))); all_goals skip; (try simp only [List.set_cons_succ, List.set_cons_zero])
    refine wpAnyH_done (by kernel_rfl) ?_ _
    go_wp2_with fail
    go_ret
    exact ⟨rfl, hS.ext⟩
  ·
    refine R_call (f := 8) (args := #[.agg #[.int .i64 a1, .int .i64 a2, .int .i64 a3, .int .i64 a4, .int .i64 a5, .int .i64 a6, bv]]) (by first | (go_simp; done) | (go_simp; rfl)) (hcut hS.ext) ?_
    rintro e w ⟨u2, qs2, rfl, hq2, hl2, hb2, hE⟩
    replace hv1 := hv1.keep hE
    have hS2 := hS.calls hE
    clear hS
    have hS := hS2
    clear hS2 hE
    refine ⟨_, rfl, hS, ?_⟩
    try simp only [Act.put, List.getElem_toArray, List.getElem_cons_succ, List.getElem_cons_zero, List.setIfInBounds_toArray, List.set_cons_succ, List.set_cons_zero]
    refine D_two 5 8 rfl rfl (by kernel_rfl) (by rfl) (by rfl) ?_ ?_
    ·
      refine wp_of_value (v := .string st) (R_convert (src := 34) (dst := 9) (x := .tmp 7) rfl rfl (by rw [← HST.out]; exact run_string hv1 Try.underlying34 Try.underlying5 Try.underlying9)) ⟨hS, ?_⟩
      try simp only [Act.put, List.getElem_toArray, List.getElem_cons_succ, List.getElem_cons_zero, List.setIfInBounds_toArray, List.set_cons_succ, List.set_cons_zero]
      refine D_one 8 rfl (by kernel_rfl) (by rfl) ?_
      refine R_call (f := 18) (args := #[tv u2]) (by first | (go_simp; done) | (go_simp; rfl)) (hrenc hq2 hb2 hl2) ?_
      rintro e w ⟨v2, rfl, hv2, hE⟩
      replace hv1 := hv1.keep hE
      have hS2 := hS.calls hE
      clear hS
      have hS := hS2
      clear hS2 hE
      refine ⟨_, rfl, hS, ?_⟩
      try simp only [Act.put, List.getElem_toArray, List.getElem_cons_succ, List.getElem_cons_zero, List.setIfInBounds_toArray, List.set_cons_succ, List.set_cons_zero]
      refine D_one 9 rfl (by kernel_rfl) (by rfl) ?_
      refine wp_of_value (v := .string st) (R_convert (src := 34) (dst := 9) (x := .tmp 11) rfl rfl (by rw [← HST.out]; exact run_string hv2 Try.underlying34 Try.underlying5 Try.underlying9)) ⟨hS, ?_⟩
      try simp only [Act.put, List.getElem_toArray, List.getElem_cons_succ, List.getElem_cons_zero, List.setIfInBounds_toArray, List.set_cons_succ, List.set_cons_zero]
      refine D_take 10 (v := (.bool true)) rfl (by kernel_rfl) (by kernel_rfl) (by kernel_rfl) (fun _ _ _ h => h) rfl (by rfl) (fun W hS => by first | (go_simp; done) | (go_simp; rfl)) hS ?_; (try simp only [List.set_cons_succ, List.set_cons_zero])
      refine D_take 11 (v := ?_) rfl (by kernel_rfl) (by kernel_rfl) (by kernel_rfl) (fun _ _ _ h => h) rfl (by rfl) (fun W hS => ?_) hS ?_
      rotate_left; (focus (first | (go_simp; done) | (go_simp; with_reducible rfl) | (go_simp; rfl))); all_goals skip; (try simp only [List.set_cons_succ, List.set_cons_zero])
      refine D_take 12 (v := ?_) rfl (by kernel_rfl) (by kernel_rfl) (by kernel_rfl) (fun _ _ _ h => h) rfl (by rfl) (fun W hS => ?_) hS ?_
      rotate_left; (focus (first | (go_simp; done) | (go_simp; with_reducible rfl) | (go_simp; rfl))); all_goals skip; (try simp only [List.set_cons_succ, List.set_cons_zero])
      refine wpAnyH_done (by kernel_rfl) ?_ _
      go_wp2_with fail
      go_ret
      exact ⟨rfl, hS.ext⟩
    ·
      refine R_call (f := 18) (args := #[tv u2]) (by first | (go_simp; done) | (go_simp; rfl)) (hrenc hq2 hb2 hl2) ?_
      rintro e w ⟨v2, rfl, hv2, hE⟩
      replace hv1 := hv1.keep hE
      have hS2 := hS.calls hE
      clear hS
      have hS := hS2
      clear hS2 hE
      refine ⟨_, rfl, hS, ?_⟩
      try simp only [Act.put, List.getElem_toArray, List.getElem_cons_succ, List.getElem_cons_zero, List.setIfInBounds_toArray, List.set_cons_succ, List.set_cons_zero]
      refine D_two 5 9 rfl rfl (by kernel_rfl) (by rfl) (by rfl) ?_ ?_
      ·
        refine wp_of_value (v := .string st) (R_convert (src := 34) (dst := 9) (x := .tmp 7) rfl rfl (by rw [← HST.out]; exact run_string hv1 Try.underlying34 Try.underlying5 Try.underlying9)) ⟨hS, ?_⟩
        try simp only [Act.put, List.getElem_toArray, List.getElem_cons_succ, List.getElem_cons_zero, List.setIfInBounds_toArray, List.set_cons_succ, List.set_cons_zero]
        refine D_one 9 rfl (by kernel_rfl) (by rfl) ?_
        refine wp_of_value (v := .string st) (R_convert (src := 34) (dst := 9) (x := .tmp 11) rfl rfl (by rw [← HST.out]; exact run_string hv2 Try.underlying34 Try.underlying5 Try.underlying9)) ⟨hS, ?_⟩
        try simp only [Act.put, List.getElem_toArray, List.getElem_cons_succ, List.getElem_cons_zero, List.setIfInBounds_toArray, List.set_cons_succ, List.set_cons_zero]
        refine D_take 10 (v := (.bool true)) rfl (by kernel_rfl) (by kernel_rfl) (by kernel_rfl) (fun _ _ _ h => h) rfl (by rfl) (fun W hS => by first | (go_simp; done) | (go_simp; rfl)) hS ?_; (try simp only [List.set_cons_succ, List.set_cons_zero])
        refine D_take 11 (v := ?_) rfl (by kernel_rfl) (by kernel_rfl) (by kernel_rfl) (fun _ _ _ h => h) rfl (by rfl) (fun W hS => ?_) hS ?_
        rotate_left; (focus (first | (go_simp; done) | (go_simp; with_reducible rfl) | (go_simp; rfl))); all_goals skip; (try simp only [List.set_cons_succ, List.set_cons_zero])
        refine D_take 12 (v := ?_) rfl (by kernel_rfl) (by kernel_rfl) (by kernel_rfl) (fun _ _ _ h => h) rfl (by rfl) (fun W hS => ?_) hS ?_
        rotate_left; (focus (first | (go_simp; done) | (go_simp; with_reducible rfl) | (go_simp; rfl))); all_goals skip; (try simp only [List.set_cons_succ, List.set_cons_zero])
        refine wpAnyH_done (by kernel_rfl) ?_ _
        go_wp2_with fail
        go_ret
        exact ⟨rfl, hS.ext⟩
      ·
        refine wp_of_value (v := .string st) (R_convert (src := 34) (dst := 9) (x := .tmp 11) rfl rfl (by rw [← HST.out]; exact run_string hv2 Try.underlying34 Try.underlying5 Try.underlying9)) ⟨hS, ?_⟩
        try simp only [Act.put, List.getElem_toArray, List.getElem_cons_succ, List.getElem_cons_zero, List.setIfInBounds_toArray, List.set_cons_succ, List.set_cons_zero]
        refine D_one 5 rfl (by kernel_rfl) (by rfl) ?_
        refine wp_of_value (v := .string st) (R_convert (src := 34) (dst := 9) (x := .tmp 7) rfl rfl (by rw [← HST.out]; exact run_string hv1 Try.underlying34 Try.underlying5 Try.underlying9)) ⟨hS, ?_⟩
        try simp only [Act.put, List.getElem_toArray, List.getElem_cons_succ, List.getElem_cons_zero, List.setIfInBounds_toArray, List.set_cons_succ, List.set_cons_zero]
        refine D_take 10 (v := (.bool true)) rfl (by kernel_rfl) (by kernel_rfl) (by kernel_rfl) (fun _ _ _ h => h) rfl (by rfl) (fun W hS => by first | (go_simp; done) | (go_simp; rfl)) hS ?_; (try simp only [List.set_cons_succ, List.set_cons_zero])
        refine D_take 11 (v := ?_) rfl (by kernel_rfl) (by kernel_rfl) (by kernel_rfl) (fun _ _ _ h => h) rfl (by rfl) (fun W hS => ?_) hS ?_
        rotate_left; (focus (first | (go_simp; done) | (go_simp; with_reducible rfl) | (go_simp; rfl))); all_goals skip; (try simp only [List.set_cons_succ, List.set_cons_zero])
        refine D_take 12 (v := ?_) rfl (by kernel_rfl) (by kernel_rfl) (by kernel_rfl) (fun _ _ _ h => h) rfl (by rfl) (fun W hS => ?_) hS ?_
        rotate_left; (focus (first | (go_simp; done) | (go_simp; with_reducible rfl) | (go_simp; rfl))); all_goals skip; (try simp only [List.set_cons_succ, List.set_cons_zero])
        refine wpAnyH_done (by kernel_rfl) ?_ _
        go_wp2_with fail
        go_ret
        exact ⟨rfl, hS.ext⟩

theorem encodes_row (w : World) (v : Value) (h1 : TabIn w v) : Calls Try.prog 4 #[v] w fun e w' => e = .returned (.bool true) ∧ Below w.heap.size w w' :=
  (encodes_walk v w h1).mono fun _ _ h => ⟨h.1, h.2.below⟩
section
open Go.ChangeShapes Go.WideShapes Go.ChangeAt Go.RowKit
open Go.ChangeMaps (open_string shut_string)
theorem tableEncodes_own : ownKnob Try.prog.godebug = none := by kernel_rfl
theorem tableEncodes_laidOut : laidOutB Try.prog = true := by kernel_rfl
set_option maxRecDepth 100000 in
theorem tableEncodes_lifted (os : Os) (started : os.Started) (H : Type) (enc : TypeId × Value → H) :
    ReturnsInHanded {} Try.checked os 4 .any (Rows.tableEncodesSpec.pre6 enc Try.prog Try.f4 Rows.tableEncodesRow.domain false) (Rows.tableEncodesSpec.post enc Try.prog Try.f4 false true false false) := by
  refine returnsInHanded_of_change (C := Try.checked) tableEncodes_own started (by kernel_rfl) Try.func4
    (ChangeSpec.witness6 (enc := enc) (C := Try.checked) false ⟨#[], #[.agg #[.int .i64 0,.int .i64 0,.int .i64 0,.int .i64 0,.int .i64 0,.int .i64 0,.slice none 0 0]], []⟩ 8 (by kernel_rfl) (by kernel_rfl) (by kernel_rfl) (by kernel_rfl)) ?_
  intro W base args ds gs before hval0 hW hcnd _
  have hval : ∀ (j : Nat) t v, Try.f4.params[j]? = some t → args[j]? = some v → Value.okWide Try.prog W .any base t v := hval0
  have hW' := hW
  obtain ⟨p, q, hA0, hV, rfl, hfz, hnd⟩ := hW
  have hA : DataW.TrodAll enc Try.prog W 0 (fun _ => true) true Try.f4.params.toList args.toList ds p := hA0
  rw [Try.params4] at hA hval
  obtain ⟨v0, vs0, d0, ds0, p0, q0, hargs, rfl, rfl, h0, r0⟩ := trodAll_cons hA
  obtain ⟨rfl, rfl, rfl⟩ := trodAll_nil r0
  obtain rfl : args = #[v0] := by cases args; simp_all
  obtain ⟨rfl, rfl⟩ := trodVars_none hV
  have k0 := h0
  have lt0 : ∀ x ∈ p0, x.block < W.heap.size := by obtain ⟨m, hm⟩ := k0; exact DataW.trod_lt m _ _ _ hm
  have w0 := tab_arg (hval 0 24 v0 rfl rfl) h0
  clear hA0 hval0
  refine (encodes_row W v0 w0).mono fun e W' ⟨he, bel⟩ => ?_
  subst he
  exact ⟨_, rfl, _, _, _, [], _, [], hW', trodAll_mk1 (shut_bool Try.underlying4 _), (trodAll_cons_mk (Below.trod tableEncodes_laidOut (by kernel_rfl) (of_decide_eq_true (by kernel_rfl)) k0 bel lt0) trodAll_mk0), rfl, bel.frame _, fun h => by cases h⟩
theorem tableEncodes_over : Rows.tableEncodesRow.holds Try.pinned (OpenSpec.ofChange Rows.tableEncodesSpec) :=
  OpenClaim.holds_of_wide 4 Try.f4 rfl rfl rfl rfl rfl rfl rfl ⟨rfl, rfl, rfl, rfl, rfl⟩ rfl rfl rfl rfl rfl (by kernel_rfl) Try.func4 (by kernel_rfl)
    (of_decide_eq_true (by kernel_rfl)) (by unfold Func.isWrapper; first | (rw [if_pos (by decide +kernel)]; kernel_rfl) | (rw [if_neg (by decide +kernel)]; exact ⟨rfl, rfl⟩))
    (fun os started H enc _ => tableEncodes_lifted os started H enc)
/-- THE STATEMENT. -/
theorem tableEncodes_holds : Rows.TableEncodesSaid := tableEncodes_over
#print axioms tableEncodes_holds
end
end Go.Proofs.Ytoaieodcdbbndaa
