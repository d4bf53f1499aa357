/- TableGood: Good, Need and Spans agree with the document's. For every input. -/
import Derived.Test.YtoaieodcdbbndaaTabR
import Derived.Test.YtoaieodcdbbndaaTabY
import Derived.Test.YtoaieodcdbbndaaRows
import Derived.Deep.RegionWith
import Derived.WalkKit
import Derived.ProofKit
import Derived.OpenShut
import Derived.ShutString
import Derived.ChangeOld
import Derived.Below
namespace Go.Proofs.Ytoaieodcdbbndaa
set_option linter.unusedVariables false
set_option linter.unusedSimpArgs false
open Go.RowKit

theorem cutT_num {t : Tab} (h : ∀ b ∈ t.bs, b.Num ∧ ∀ x ∈ b.wrap, 0 ≤ x ∧ x ≤ 255) : ∀ b ∈ (cutT t).bs, b.Num := fun b hb => by
  obtain ⟨c, hc, rfl⟩ := List.mem_map.1 hb
  exact (h c (List.mem_of_mem_take hc)).1
open Classical in
set_option maxRecDepth 100000 in
set_option maxHeartbeats 4000000 in
theorem tgood_walk (v : Value) (s size : Int) (w0 : World) (h : TabIn w0 v) (hs0 : 0 ≤ s) (hs1 : s ≤ 65535) (hz0 : -9223372036854775808 ≤ size) (hz1 : size ≤ 9223372036854775807) :
    Calls Try.prog 3 #[v, .int .u16 s, .int .i64 size] w0 fun e w' => e = .returned (.bool true) ∧ Ext0 w0 w' := by
  obtain ⟨t, bv, ps, rfl, hps, hb, hin⟩ := h
  obtain ⟨n, hn⟩ : ∃ n, s % 4097 = n := ⟨_, rfl⟩
  have hn0 : 0 ≤ n := by omega
  have hn1 : n ≤ 4096 := by omega
  have hta : Int.tmod s 4097 = n := by rw [← hn]; exact Int.tmod_eq_emod_of_nonneg hs0
  have hsw : IntKind.i64.wrap s = s := by rw [IntKind.wrap_i64]; omega
  have hnum := cutT_num hin
  have hcut := fun {W : World} (h : Ext0 w0 W) => cut_any t bv ps W hps (hb.keep h)
  have hgood := fun {W : World} {u : Value} {qs : List BV} (h1 : qs.map (·.2) = (cutT t).bs) (h2 : BsR W u qs) (h3 : qs.length ≤ 20) => good_table (cutT t) u qs n W h1 h2.row (by omega) hnum hn0 hn1
  have hrgood := fun {W : World} {u : Value} {qs : List BV} (h1 : qs.map (·.2) = (cutT t).bs) (h2 : BsR W u qs) (h3 : qs.length ≤ 20) => refGoodT_any (cutT t) u qs n W h1 h2.row (by omega) hnum hn0 hn1
  have hspan := fun {W : World} {u : Value} {qs : List BV} (h1 : qs.map (·.2) = (cutT t).bs) (h2 : BsR W u qs) (h3 : qs.length ≤ 20) => spans_any (cutT t) u qs W h1 h2.row (by omega) hnum
  have hrspan := fun {W : World} {u : Value} {qs : List BV} (h1 : qs.map (·.2) = (cutT t).bs) (h2 : BsR W u qs) (h3 : qs.length ≤ 20) => refSpans_any (cutT t) u qs W h1 h2.row (by omega) hnum
  have hneed := fun {W : World} => need_any size W hz0 hz1
  have hrneed := fun {W : World} => refNeed_any size W hz0 hz1
  have hspl : (spansP (cutT t).bs).length ≤ 20 := by
    unfold spansP cutT
    simp only [List.length_map, List.length_take]
    omega
  generalize spansP (cutT t).bs = sps at hspan hrspan hspl
  generalize decide (goodP (cutT t) n) = gq at hgood hrgood
  generalize needP size = nd at hneed hrneed
  have HN := Lib.hid hn
  have HSPL := Lib.hid hspl
  clear hn hspl hnum hb hps hin
  unfold GivesCut at hcut
  generalize cutT t = ct at hcut hgood hrgood hspan hrspan
  obtain ⟨c1, c2, c3, c4, c5, c6, cbs⟩ := ct
  obtain ⟨a1, a2, a3, a4, a5, a6, abs⟩ := t
  simp only [tabV] at hcut hgood hrgood hspan hrspan ⊢
  have H : SH (fun _ => False) w0 w0 [] := SH.nil _ _
  go_enter Try.func3, Try.ntmps3
  go_upto_region 1 with (first | (refine L_box rfl rfl H rfl rfl ?_; clear H; intro g w H; (try simp only [Act.eval, Array.getD_eq_getD_getElem?, List.getElem?_toArray, List.getElem?_cons_succ, List.getElem?_cons_zero, Option.getD_some, Value.cells] at H); (try simp only [Act.put, List.setIfInBounds_toArray, List.set_cons_succ, List.set_cons_zero, List.getElem_toArray, List.getElem_cons_succ, List.getElem_cons_zero])))
  go_upto_region 2 with (first
    | (refine L_loadrow rfl rfl H 0 rfl rfl Try.underlying24 rfl info24 rfl ?_; (try simp only [Act.put, List.setIfInBounds_toArray, List.set_cons_succ, List.set_cons_zero, List.getElem_toArray, List.getElem_cons_succ, List.getElem_cons_zero]))
    | (go_at_call 8; refine (hcut H.ext).mono ?_; rintro e w1 ⟨u, qs, rfl, hq, hl, hb, hE⟩; replace H := H.calls hE; have hE1 := H.ext; clear H hE; obtain ⟨Au, cu, rfl, _⟩ := hb.row.len; have H1 : SH (fun _ => False) w1 w1 [] := SH.nil _ _)
    | (refine L_alloc rfl rfl H1 Try.zeroValue24 ?_; clear H1; intro g7 w H1; simp only [Value.cells] at H1; (try simp only [Act.put, List.setIfInBounds_toArray, List.set_cons_succ, List.set_cons_zero, List.getElem_toArray, List.getElem_cons_succ, List.getElem_cons_zero]))
    | (refine L_storerow rfl rfl H1 0 rfl rfl rfl info24 rfl rfl (one7s _ _ _ _ _ _ _ _ _) ?_; clear H1; intro w H1; simp only [List.set_cons_zero] at H1; (try simp only [Act.put, List.setIfInBounds_toArray, List.set_cons_succ, List.set_cons_zero, List.getElem_toArray, List.getElem_cons_succ, List.getElem_cons_zero])))
  have hgood2 := fun {W : World} (hE : Ext0 w1 W) => hgood hq (hb.keep hE) hl
  have hrgood2 := fun {W : World} (hE : Ext0 w1 W) => hrgood hq (hb.keep hE) hl
  have hspan2 := fun {W : World} (hE : Ext0 w1 W) => hspan hq (hb.keep hE) hl
  have hrspan2 := fun {W : World} (hE : Ext0 w1 W) => hrspan hq (hb.keep hE) hl
  clear hgood hrgood hspan hrspan hq
  generalize hqn : qs.length = ql at *
  clear hb hl hqn
  refine D_start H1 (by kernel_rfl) (fun hS => ?_)
  try simp only [Act.put, List.setIfInBounds_toArray, List.set_cons_succ, List.set_cons_zero]
  refine D_one 0 rfl (by kernel_rfl) (by rfl) ?_
  refine R_call (f := 9) (args := #[]) (by first | (go_simp; done) | (go_simp; rfl)) (awake_any _) ?_
  rintro e w ⟨rfl, hE⟩
  have hS2 := hS.calls hE
  clear hS
  have hS := hS2
  clear hS2 hE
  refine ⟨_, rfl, hS, ?_⟩
  try simp only [Act.put, List.getElem_toArray, List.getElem_cons_succ, List.getElem_cons_zero, List.setIfInBounds_toArray, List.set_cons_succ, List.set_cons_zero]
  refine D_take 1 (v := ?_) rfl (by kernel_rfl) (by kernel_rfl) (by kernel_rfl) (fun _ _ _ h => h) rfl (by rfl) (fun W hS => ?_) hS ?_
  rotate_left; (focus (first | (go_simp; done) | (go_simp; with_reducible rfl) | (go_simp; rfl))); all_goals skip; (try simp only [List.set_cons_succ, List.set_cons_zero])
  refine D_take 2 (v := (.agg #[.int .i64 c1, .int .i64 c2, .int .i64 c3, .int .i64 c4, .int .i64 c5, .int .i64 c6, .slice Au ql cu])) rfl (by kernel_rfl) (by kernel_rfl) (by kernel_rfl) (fun _ _ _ h => h) rfl (by rfl) (fun W hS => R_loadrow (ty := 24) (x := .tmp 7) rfl hS 0 rfl rfl Try.underlying24 rfl info24 rfl) hS ?_; (try simp only [List.set_cons_succ, List.set_cons_zero])
  refine D_take 3 (v := ?_) rfl (by kernel_rfl) (by kernel_rfl) (by kernel_rfl) (fun _ _ _ h => h) rfl (by rfl) (fun W hS => ?_) hS ?_
  rotate_left; (focus (first | (go_simp; done) | (go_simp; with_reducible rfl) | (go_simp; rfl))); all_goals skip; (try simp only [List.set_cons_succ, List.set_cons_zero])
  refine D_take 5 (v := (.agg #[.int .i64 c1, .int .i64 c2, .int .i64 c3, .int .i64 c4, .int .i64 c5, .int .i64 c6, .slice Au ql cu])) rfl (by kernel_rfl) (by kernel_rfl) (by kernel_rfl) (fun _ _ _ h => h) rfl (by rfl) (fun W hS => R_loadrow (ty := 24) (x := .tmp 7) rfl hS 0 rfl rfl Try.underlying24 rfl info24 rfl) hS ?_; (try simp only [List.set_cons_succ, List.set_cons_zero])
  refine D_take 6 (v := ?_) rfl (by kernel_rfl) (by kernel_rfl) (by kernel_rfl) (fun _ _ _ h => h) rfl (by rfl) (fun W hS => ?_) hS ?_
  rotate_left; (focus (first | (go_simp; done) | (go_simp; with_reducible rfl) | (go_simp; rfl))); all_goals skip; (try simp only [List.set_cons_succ, List.set_cons_zero])
  refine D_one 4 rfl (by kernel_rfl) (by rfl) ?_
  refine R_call (f := 10) (args := #[.agg #[.int .i64 c1, .int .i64 c2, .int .i64 c3, .int .i64 c4, .int .i64 c5, .int .i64 c6, .slice Au ql cu], .int .i64 n]) (by first | (go_simp; done) | (go_simp; rfl)) (hgood2 hS.ext) ?_
  rintro e w ⟨rfl, hE⟩
  have hS2 := hS.calls hE
  clear hS
  have hS := hS2
  clear hS2 hE
  refine ⟨_, rfl, hS, ?_⟩
  try simp only [Act.put, List.getElem_toArray, List.getElem_cons_succ, List.getElem_cons_zero, List.setIfInBounds_toArray, List.set_cons_succ, List.set_cons_zero]
  refine D_one 7 rfl (by kernel_rfl) (by rfl) ?_
  refine R_call (f := 11) (args := #[.agg #[.int .i64 c1, .int .i64 c2, .int .i64 c3, .int .i64 c4, .int .i64 c5, .int .i64 c6, .slice Au ql cu], .int .i64 n]) (by first | (go_simp; done) | (go_simp; rfl)) (hrgood2 hS.ext) ?_
  rintro e w ⟨rfl, hE⟩
  have hS2 := hS.calls hE
  clear hS
  have hS := hS2
  clear hS2 hE
  refine ⟨_, rfl, hS, ?_⟩
  try simp only [Act.put, List.getElem_toArray, List.getElem_cons_succ, List.getElem_cons_zero, List.setIfInBounds_toArray, List.set_cons_succ, List.set_cons_zero]
  refine D_take 8 (v := (.bool true)) rfl (by kernel_rfl) (by kernel_rfl) (by kernel_rfl) (fun _ _ _ h => h) rfl (by rfl) (fun W hS => by first | (go_simp; done) | (go_simp; rfl)) hS ?_; (try simp only [List.set_cons_succ, List.set_cons_zero])
  refine D_take 9 (v := (.bool true)) rfl (by kernel_rfl) (by kernel_rfl) (by kernel_rfl) (fun _ _ _ h => h) rfl (by rfl) (fun W hS => by first | (go_simp; done) | (go_simp; rfl)) hS ?_; (try simp only [List.set_cons_succ, List.set_cons_zero])
  refine D_take 10 (v := ?_) rfl (by kernel_rfl) (by kernel_rfl) (by kernel_rfl) (fun _ _ _ h => h) rfl (by rfl) (fun W hS => ?_) hS ?_
  rotate_left; (focus (first | (go_simp; done) | (go_simp; with_reducible rfl) | (go_simp; rfl))); all_goals skip; (try simp only [List.set_cons_succ, List.set_cons_zero])
  refine D_take 11 (v := (.agg #[.int .i64 c1, .int .i64 c2, .int .i64 c3, .int .i64 c4, .int .i64 c5, .int .i64 c6, .slice Au ql cu])) rfl (by kernel_rfl) (by kernel_rfl) (by kernel_rfl) (fun _ _ _ h => h) rfl (by rfl) (fun W hS => R_loadrow (ty := 24) (x := .tmp 7) rfl hS 0 rfl rfl Try.underlying24 rfl info24 rfl) hS ?_; (try simp only [List.set_cons_succ, List.set_cons_zero])
  refine D_take 13 (v := (.agg #[.int .i64 c1, .int .i64 c2, .int .i64 c3, .int .i64 c4, .int .i64 c5, .int .i64 c6, .slice Au ql cu])) rfl (by kernel_rfl) (by kernel_rfl) (by kernel_rfl) (fun _ _ _ h => h) rfl (by rfl) (fun W hS => R_loadrow (ty := 24) (x := .tmp 7) rfl hS 0 rfl rfl Try.underlying24 rfl info24 rfl) hS ?_; (try simp only [List.set_cons_succ, List.set_cons_zero])
  refine D_one 12 rfl (by kernel_rfl) (by rfl) ?_
  refine R_call (f := 13) (args := #[.agg #[.int .i64 c1, .int .i64 c2, .int .i64 c3, .int .i64 c4, .int .i64 c5, .int .i64 c6, .slice Au ql cu]]) (by first | (go_simp; done) | (go_simp; rfl)) (hspan2 hS.ext) ?_
  rintro e w ⟨v1, rfl, hv1, hE⟩
  have hS2 := hS.calls hE
  clear hS
  have hS := hS2
  clear hS2 hE
  refine ⟨_, rfl, hS, ?_⟩
  try simp only [Act.put, List.getElem_toArray, List.getElem_cons_succ, List.getElem_cons_zero, List.setIfInBounds_toArray, List.set_cons_succ, List.set_cons_zero]
  refine D_one 14 rfl (by kernel_rfl) (by rfl) ?_
  refine R_call (f := 14) (args := #[.agg #[.int .i64 c1, .int .i64 c2, .int .i64 c3, .int .i64 c4, .int .i64 c5, .int .i64 c6, .slice Au ql cu]]) (by first | (go_simp; done) | (go_simp; rfl)) (hrspan2 hS.ext) ?_
  rintro e w ⟨v2, rfl, hv2, hE⟩
  replace hv1 := hv1.keep hE
  have hS2 := hS.calls hE
  clear hS
  have hS := hS2
  clear hS2 hE
  refine ⟨_, rfl, hS, ?_⟩
  try simp only [Act.put, List.getElem_toArray, List.getElem_cons_succ, List.getElem_cons_zero, List.setIfInBounds_toArray, List.set_cons_succ, List.set_cons_zero]
  refine D_one 15 rfl (by kernel_rfl) (by rfl) ?_
  refine R_call (f := 12) (args := #[v1, v2]) (by first | (go_simp; done) | (go_simp; rfl)) (same_any v1 v2 sps sps _ hv1 hv2 (by have := HSPL.out; omega) (by have := HSPL.out; omega)) ?_
  rintro e w ⟨⟨q', rfl, hq'⟩, hE⟩
  obtain rfl : q' = true := hq'.2 rfl
  have hS2 := hS.calls hE
  clear hS
  have hS := hS2
  clear hS2 hE
  refine ⟨_, rfl, hS, ?_⟩
  try simp only [Act.put, List.getElem_toArray, List.getElem_cons_succ, List.getElem_cons_zero, List.setIfInBounds_toArray, List.set_cons_succ, List.set_cons_zero]
  refine D_take 16 (v := ?_) rfl (by kernel_rfl) (by kernel_rfl) (by kernel_rfl) (fun _ _ _ h => h) rfl (by rfl) (fun W hS => ?_) hS ?_
  rotate_left; (focus (first | (go_simp; done) | (go_simp; with_reducible rfl) | (go_simp; rfl))); all_goals skip; (try simp only [List.set_cons_succ, List.set_cons_zero])
  refine D_take 17 (v := ?_) rfl (by kernel_rfl) (by kernel_rfl) (by kernel_rfl) (fun _ _ _ h => h) rfl (by rfl) (fun W hS => ?_) hS ?_
  rotate_left; (focus (first | (go_simp; done) | (go_simp; with_reducible rfl) | (go_simp; rfl))); all_goals skip; (try simp only [List.set_cons_succ, List.set_cons_zero])
  refine D_take 18 (v := ?_) rfl (by kernel_rfl) (by kernel_rfl) (by kernel_rfl) (fun _ _ _ h => h) rfl (by rfl) (fun W hS => ?_) hS ?_
  rotate_left; (focus (first | (go_simp; done) | (go_simp; with_reducible rfl) | (go_simp; rfl))); all_goals skip; (try simp only [List.set_cons_succ, List.set_cons_zero])
  refine D_take 20 (v := ?_) rfl (by kernel_rfl) (by kernel_rfl) (by kernel_rfl) (fun _ _ _ h => h) rfl (by rfl) (fun W hS => ?_) hS ?_
  rotate_left; (focus (first | (go_simp; done) | (go_simp; with_reducible rfl) | (go_simp; rfl))); all_goals skip; (try simp only [List.set_cons_succ, List.set_cons_zero])
  refine D_one 19 rfl (by kernel_rfl) (by rfl) ?_
  refine R_call (f := 15) (args := #[.int .i64 size]) (by first | (go_simp; done) | (go_simp; rfl)) hneed ?_
  rintro e w ⟨rfl, rfl⟩
  refine ⟨_, rfl, hS, ?_⟩
  try simp only [Act.put, List.getElem_toArray, List.getElem_cons_succ, List.getElem_cons_zero, List.setIfInBounds_toArray, List.set_cons_succ, List.set_cons_zero]
  refine D_one 21 rfl (by kernel_rfl) (by rfl) ?_
  refine R_call (f := 16) (args := #[.int .i64 size]) (by first | (go_simp; done) | (go_simp; rfl)) hrneed ?_
  rintro e w ⟨rfl, rfl⟩
  refine ⟨_, rfl, hS, ?_⟩
  try simp only [Act.put, List.getElem_toArray, List.getElem_cons_succ, List.getElem_cons_zero, List.setIfInBounds_toArray, List.set_cons_succ, List.set_cons_zero]
  refine D_take 22 (v := (.bool true)) rfl (by kernel_rfl) (by kernel_rfl) (by kernel_rfl) (fun _ _ _ h => h) rfl (by rfl) (fun W hS => by first | (go_simp; done) | (go_simp; rfl)) hS ?_; (try simp only [List.set_cons_succ, List.set_cons_zero])
  refine D_take 23 (v := ?_) rfl (by kernel_rfl) (by kernel_rfl) (by kernel_rfl) (fun _ _ _ h => h) rfl (by rfl) (fun W hS => ?_) hS ?_
  rotate_left; (focus (first | (go_simp; done) | (go_simp; with_reducible rfl) | (go_simp; rfl))); all_goals skip; (try simp only [List.set_cons_succ, List.set_cons_zero])
  refine D_take 24 (v := ?_) rfl (by kernel_rfl) (by kernel_rfl) (by kernel_rfl) (fun _ _ _ h => h) rfl (by rfl) (fun W hS => ?_) hS ?_
  rotate_left; (focus (first | (go_simp; done) | (go_simp; with_reducible rfl) | (go_simp; rfl))); all_goals skip; (try simp only [List.set_cons_succ, List.set_cons_zero])
  refine wpAnyH_done (by kernel_rfl) ?_ _
  go_wp2_with fail
  go_ret
  exact ⟨rfl, hE1.trans0 hS.ext⟩

theorem tgood_row (w : World) (v : Value) (h1 : TabIn w v) (a : Int) (wa : (Lit.int .u16 a).wf = true) (n : Int) (wn : (Lit.int .i64 n).wf = true) : Calls Try.prog 3 #[v, .int .u16 a, .int .i64 n] w fun e w' => e = .returned (.bool true) ∧ Below w.heap.size w w' := by
  have ba := wf_in wa
  have bn := wf_in wn
  simp [IntKind.min, IntKind.max, IntKind.bits, IntKind.signed] at ba bn
  exact (tgood_walk v a n w h1 ba.1 (by omega) (by omega) (by omega)).mono fun _ _ h => ⟨h.1, h.2.below⟩
section
open Go.ChangeShapes Go.WideShapes Go.ChangeAt Go.RowKit
open Go.ChangeMaps (open_string shut_string)
theorem tableGood_own : ownKnob Try.prog.godebug = none := by kernel_rfl
theorem tableGood_laidOut : laidOutB Try.prog = true := by kernel_rfl
set_option maxRecDepth 100000 in
theorem tableGood_lifted (os : Os) (started : os.Started) (H : Type) (enc : TypeId × Value → H) :
    ReturnsInHanded {} Try.checked os 3 .any (Rows.tableGoodSpec.pre6 enc Try.prog Try.f3 Rows.tableGoodRow.domain false) (Rows.tableGoodSpec.post enc Try.prog Try.f3 false true false false) := by
  refine returnsInHanded_of_change (C := Try.checked) tableGood_own started (by kernel_rfl) Try.func3
    (ChangeSpec.witness6 (enc := enc) (C := Try.checked) false ⟨#[], #[.agg #[.int .i64 0,.int .i64 0,.int .i64 0,.int .i64 0,.int .i64 0,.int .i64 0,.slice none 0 0], .int .u16 0, .int .i64 0], []⟩ 8 (by kernel_rfl) (by kernel_rfl) (by kernel_rfl) (by kernel_rfl)) ?_
  intro W base args ds gs before hval0 hW hcnd _
  have hval : ∀ (j : Nat) t v, Try.f3.params[j]? = some t → args[j]? = some v → Value.okWide Try.prog W .any base t v := hval0
  have hW' := hW
  obtain ⟨p, q, hA0, hV, rfl, hfz, hnd⟩ := hW
  have hA : DataW.TrodAll enc Try.prog W 0 (fun _ => true) true Try.f3.params.toList args.toList ds p := hA0
  rw [Try.params3] at hA hval
  obtain ⟨v0, vs0, d0, ds0, p0, q0, hargs, rfl, rfl, h0, r0⟩ := trodAll_cons hA
  obtain ⟨v1, vs1, d1, ds1, p1, q1, rfl, rfl, rfl, h1, r1⟩ := trodAll_cons r0
  obtain ⟨v2, vs2, d2, ds2, p2, q2, rfl, rfl, rfl, h2, r2⟩ := trodAll_cons r1
  obtain ⟨rfl, rfl, rfl⟩ := trodAll_nil r2
  obtain rfl : args = #[v0, v1, v2] := by cases args; simp_all
  obtain ⟨rfl, rfl⟩ := trodVars_none hV
  have k0 := h0
  have lt0 : ∀ x ∈ p0, x.block < W.heap.size := by obtain ⟨m, hm⟩ := k0; exact DataW.trod_lt m _ _ _ hm
  have w0 := tab_arg (hval 0 24 v0 rfl rfl) h0
  obtain ⟨a1, rfl, rfl, rfl, w1⟩ := open_int Try.underlying25 (hval 1 25 v1 rfl rfl) h1
  obtain ⟨a2, rfl, rfl, rfl, w2⟩ := open_int Try.underlying3 (hval 2 3 v2 rfl rfl) h2
  clear hA0 hval0
  refine (tgood_row W v0 w0 a1 w1 a2 w2).mono fun e W' ⟨he, bel⟩ => ?_
  subst he
  exact ⟨_, rfl, _, _, _, [], _, [], hW', trodAll_mk1 (shut_bool Try.underlying4 _), (trodAll_cons_mk (Below.trod tableGood_laidOut (by kernel_rfl) (of_decide_eq_true (by kernel_rfl)) k0 bel lt0) (trodAll_cons_mk (shut_int Try.underlying25 w1) (trodAll_cons_mk (shut_int Try.underlying3 w2) trodAll_mk0))), rfl, bel.frame _, fun h => by cases h⟩
theorem tableGood_over : Rows.tableGoodRow.holds Try.pinned (OpenSpec.ofChange Rows.tableGoodSpec) :=
  OpenClaim.holds_of_wide 3 Try.f3 rfl rfl rfl rfl rfl rfl rfl ⟨rfl, rfl, rfl, rfl, rfl⟩ rfl rfl rfl rfl rfl (by kernel_rfl) Try.func3 (by kernel_rfl)
    (of_decide_eq_true (by kernel_rfl)) (by unfold Func.isWrapper; first | (rw [if_pos (by decide +kernel)]; kernel_rfl) | (rw [if_neg (by decide +kernel)]; exact ⟨rfl, rfl⟩))
    (fun os started H enc _ => tableGood_lifted os started H enc)
/-- THE STATEMENT. -/
theorem tableGood_holds : Rows.TableGoodSaid := tableGood_over
#print axioms tableGood_holds
end
end Go.Proofs.Ytoaieodcdbbndaa
