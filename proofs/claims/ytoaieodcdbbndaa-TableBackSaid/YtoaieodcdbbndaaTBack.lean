/- TableBack: a table that may be comes back of its bytes, and these are not more than a record has room for; what is put into it is found there, and taken away it is not. For every input. -/
import Derived.Test.YtoaieodcdbbndaaTChgB
import Derived.Test.YtoaieodcdbbndaaTabBk
import Derived.Test.YtoaieodcdbbndaaTabU
import Derived.Test.YtoaieodcdbbndaaTabY
import Derived.SizedLaws
import Derived.Test.YtoaieodcdbbndaaRows
namespace Go.Proofs.Ytoaieodcdbbndaa
set_option linter.unusedVariables false
set_option linter.unusedSimpArgs false
open Go.RowKit

section
open Go.ChangeShapes Go.WideShapes Go.Deep
set_option maxRecDepth 100000 in
theorem blk_small {H : Type} {enc : TypeId × Value → H} {w : World} {v : Value} {d : DataW H} {ps : List MemPlace} (h : DataW.Trod enc Try.prog w 0 (fun _ => true) true 45 v d ps) (hw : ∀ n ∈ d.weights Try.prog 45, n ≤ reachBytes) (p : BV) (hv : v = blkV p) : p.2.wrap.length ≤ 140737488355000 := by
  obtain ⟨n, hf0⟩ := h
  obtain ⟨xs, m, _, hd, hl, hlen, hf⟩ := DataW.trod_struct Try.underlying45 hf0
  subst hv
  match xs, hlen with
  | [y0, y1, y2, y3, y4, y5], _ =>
    have h5 := hf 5 _ rfl
    have h5' : DataW.trod enc Try.prog w 0 (fun _ => true) true m 34 [.slice p.1.1 p.2.wrap.length p.1.2] = some y5 := by simpa [c1_bs, blkV, BV.wv, Value.cells] using h5
    rcases DataW.trod_slice Try.underlying34 h5' with ⟨h7, _⟩ | ⟨a, len, cap, elems, rest, n2, _, h7, hx, _, _, _, hel, _⟩
    · simp only [List.cons.injEq, Value.slice.injEq, and_true] at h7
      omega
    · simp only [List.cons.injEq, Value.slice.injEq, and_true] at h7
      have hn := hw ((elems.length + rest.length) * Try.prog.bytesOf 5) (by
        have hdd : d = .agg [y0.1, y1.1, y2.1, y3.1, y4.1, y5.1] := by
          have := congrArg Prod.fst hd
          simpa using this
        rw [hdd, hx]
        have hu := Try.underlying45
        have hu2 := Try.underlying34
        simp [DataW.weights, hu, hu2, DataW.weightsEach])
      have hb : Try.prog.bytesOf 5 = 1 := by kernel_rfl
      rw [hb, Nat.mul_one] at hn
      have : reachBytes = 140737488351232 := by decide
      omega
end
theorem oneInt {w : World} {g : Nat} {T : TypeId} {fr : Nat × Nat} {a : Int} (h : w.heap[g]? = some (.cells #[.int .i64 a] T fr)) : RdS (encInt .i64) 1 w (.slice (some ⟨g, 0, none⟩) 1 1) [a] :=
  ⟨_, 1, rfl, Nat.le_refl _, .inr ⟨g, 0, _, T, fr, rfl, h, fun j hj i hi => by
    obtain rfl : j = 0 := by simpa using hj
    obtain rfl : i = 0 := by omega
    rfl⟩⟩
open Classical in
set_option maxRecDepth 100000 in
set_option maxHeartbeats 8000000 in
theorem back_walk (v xv : Value) (s : Int) (w0 : World) (h : TabIn w0 v) (hx : BlkIn w0 xv) (hxs : ∀ p : BV, xv = blkV p → p.2.wrap.length ≤ 140737488355000) (hs0 : 0 ≤ s) (hs1 : s ≤ 65535) :
    Calls Try.prog 7 #[v, .int .u16 s, xv] w0 fun e w' => e = .returned (.bool true) ∧ Ext0 w0 w' := by
  obtain ⟨t, bv, ps, rfl, hps, hb, hin⟩ := h
  obtain ⟨⟨⟨WA, xc⟩, b1, b2, b3, b4, b5, f⟩, rfl, hxr, hxn, hxb⟩ := hx
  have hxl : f.length ≤ 140737488355000 := hxs _ rfl
  obtain ⟨n, hn⟩ : ∃ n, s % 4097 = n := ⟨_, rfl⟩
  have hn0 : 0 ≤ n := by omega
  have hn1 : n ≤ 4096 := by omega
  have hta : Int.tmod s 4097 = n := by rw [← hn]; exact Int.tmod_eq_emod_of_nonneg hs0
  have hsw : IntKind.i64.wrap s = s := by rw [IntKind.wrap_i64]; omega
  have hfit := cutT_fit2 hin
  have hnum : ∀ b ∈ (cutT t).bs, b.Num := fun b hb => by
    obtain ⟨c, hc, rfl⟩ := List.mem_map.1 hb
    exact (hin c (List.mem_of_mem_take hc)).1
  have hcut := fun {W : World} (h : Ext0 w0 W) => cut_any t bv ps W hps (hb.keep h)
  have hcl : (cutT t).bs.length ≤ 20 := by unfold cutT; simp only [List.length_map, List.length_take]; omega
  unfold GivesCut at hcut
  generalize cutT t = ct at hcut hfit hcl hnum
  have hgood := fun {W : World} {u : Value} {qs : List BV} (h1 : qs.map (·.2) = ct.bs) (h2 : BsR W u qs) (h3 : qs.length ≤ 20) => good_table ct u qs n W h1 h2.row (by omega) hnum hn0 hn1
  obtain ⟨res, hres⟩ : ∃ q, decide (goodP ct n) = q := ⟨_, rfl⟩
  rw [hres] at hgood
  obtain ⟨c1, c2, c3, c4, c5, c6, cbs⟩ := ct
  obtain ⟨a1, a2, a3, a4, a5, a6, abs⟩ := t
  have HF := Lib.hid (And.intro hfit (And.intro hnum (And.intro hres (And.intro hxr (And.intro hxb hn)))))
  simp only [tabV, blkV, BV.wv] at hcut hgood ⊢
  clear hb hps hin hxr hxn hxb hfit hnum hres hxs hn
  have H : SH (fun _ => False) w0 w0 [] := SH.nil _ _
  go_enter Try.func7, Try.ntmps7
  go_upto_region 1 with (first | (refine L_box rfl rfl H rfl rfl ?_; clear H; intro g w H; (try simp only [Act.eval, Array.getD_eq_getD_getElem?, List.getElem?_toArray, List.getElem?_cons_succ, List.getElem?_cons_zero, Option.getD_some, Value.cells] at H); (try simp only [Act.put, List.setIfInBounds_toArray, List.set_cons_succ, List.set_cons_zero, List.getElem_toArray, List.getElem_cons_succ, List.getElem_cons_zero])))
  go_upto_region 2 with (first
    | (refine L_loadrow rfl rfl H 1 rfl rfl Try.underlying24 rfl info24 rfl ?_; (try simp only [Act.put, List.setIfInBounds_toArray, List.set_cons_succ, List.set_cons_zero, List.getElem_toArray, List.getElem_cons_succ, List.getElem_cons_zero]))
    | (go_at_call 8; refine (hcut H.ext).mono ?_; rintro e w1 ⟨u, qs, rfl, hq, hl, hb, hE⟩; replace H := H.calls hE; have hE1 := H.ext; have hg5 := H.at_ 0 rfl; clear H hE; obtain ⟨Au, cu, rfl, _⟩ := hb.row.len; have H1 : SH (fun _ => False) w1 w1 [] := SH.nil _ _)
    | (refine L_alloc rfl rfl H1 Try.zeroValue24 ?_; clear H1; intro g7 w H1; simp only [Value.cells] at H1; (try simp only [Act.put, List.setIfInBounds_toArray, List.set_cons_succ, List.set_cons_zero, List.getElem_toArray, List.getElem_cons_succ, List.getElem_cons_zero]))
    | (refine L_storerow rfl rfl H1 0 rfl rfl rfl info24 rfl rfl (one7s _ _ _ _ _ _ _ _ _) ?_; clear H1; intro w H1; simp only [List.set_cons_zero] at H1; (try simp only [Act.put, List.setIfInBounds_toArray, List.set_cons_succ, List.set_cons_zero, List.getElem_toArray, List.getElem_cons_succ, List.getElem_cons_zero])))
  have hq1 : qs.map (·.2) = cbs := hq
  have hgood2 := fun {W : World} (hE : Ext0 w1 W) => hgood hq (hb.keep hE) hl
  clear hgood hcut hq
  generalize hqn : qs.length = ql at *
  have HB := Lib.hid (And.intro hq1 (And.intro hb hqn))
  clear hq1 hb hqn
  go_upto_if 22 with (first
    | (refine L_loadrow rfl rfl H1 0 rfl rfl Try.underlying24 rfl info24 rfl ?_; (try simp only [Act.put, List.setIfInBounds_toArray, List.set_cons_succ, List.set_cons_zero, List.getElem_toArray, List.getElem_cons_succ, List.getElem_cons_zero]))
    | (go_at_call 10; refine (hgood2 H1.ext).mono ?_; rintro e w2 ⟨rfl, hE⟩; replace H1 := H1.calls hE; clear hE))
  clear hgood2
  cases res
  · go_wp2_with (first
      | (go_at_call 9; refine (awake_any _).mono ?_; rintro e w ⟨rfl, hE⟩; replace H1 := H1.calls hE; clear hE))
    go_ret
    exact ⟨rfl, hE1.trans0 H1.ext⟩
  have hgd : goodP ⟨c1, c2, c3, c4, c5, c6, cbs⟩ n := of_decide_eq_true HF.out.2.2.1
  obtain ⟨hrng, h72⟩ := good_rng hgd HF.out.2.1
  have hde := decR_enc hrng
  have hlen := encTab_len h72
  have hcb12 : cbs.length ≤ 12 := hrng.len
  have hebt := encTab_bytes (t := ⟨c1, c2, c3, c4, c5, c6, cbs⟩) HF.out.1
  obtain ⟨et, het⟩ : ∃ et, encTab ⟨c1, c2, c3, c4, c5, c6, cbs⟩ = et := ⟨_, rfl⟩
  have henc := fun {W : World} (hE : Ext0 w1 W) => encode_any ⟨c1, c2, c3, c4, c5, c6, cbs⟩ _ qs W HB.out.1 (HB.out.2.1.keep hE) (by have := HB.out.2.2; omega) HF.out.1
  rw [het] at hde hlen hebt henc
  have hdec := fun {W : World} {v : Value} (h : RdS (encInt .u8) 1 W v et) => decode_any v et W h hebt (by rw [hlen]; show 56 + cbs.length * 114 ≤ _; omega)
  unfold DecE at hdec
  rw [hde] at hdec
  have hel : et.length ≤ 1424 := by rw [hlen]; show 56 + cbs.length * 114 ≤ _; omega
  simp only [tabV] at hdec henc
  have hsame0 := fun {u v : Value} {q1 q2 : List BV} {W : World} (h1 : q1.map (·.2) = cbs) (h2 : BsR W u q1) (h3 : q2.map (·.2) = cbs) (h4 : BsR W v q2) => refSame_any ⟨c1, c2, c3, c4, c5, c6, cbs⟩ ⟨c1, c2, c3, c4, c5, c6, cbs⟩ u v q1 q2 W h1 h2 (by have := congrArg List.length h1; rw [List.length_map] at this; omega) HF.out.1 h3 h4 (by have := congrArg List.length h3; rw [List.length_map] at this; omega) HF.out.1 rfl
  have hgood3 := fun {u : Value} {q : List BV} {W : World} (h1 : q.map (·.2) = cbs) (h2 : BsR W u q) => good_table ⟨c1, c2, c3, c4, c5, c6, cbs⟩ u q n W h1 h2.row (by have := congrArg List.length h1; rw [List.length_map] at this; omega) HF.out.2.1 hn0 hn1
  have hgdd : decide (goodP ⟨c1, c2, c3, c4, c5, c6, cbs⟩ n) = true := HF.out.2.2.1
  rw [hgdd] at hgood3
  simp only [tabV] at hsame0 hgood3
  clear hgd hrng h72 hde hlen hebt het hgdd
  go_upto_region 6 with (first
    | (refine L_loadrow rfl rfl H1 0 rfl rfl Try.underlying24 rfl info24 rfl ?_; (try simp only [Act.put, List.setIfInBounds_toArray, List.set_cons_succ, List.set_cons_zero, List.getElem_toArray, List.getElem_cons_succ, List.getElem_cons_zero]))
    | (go_at_call 17; refine (henc H1.ext).mono ?_; rintro e w2 ⟨v9, rfl, hv9, hE⟩; replace H1 := H1.calls hE; obtain ⟨A9, c9, rfl, _⟩ := hv9.len; clear hE)
    | (go_at_call 19; refine (hdec hv9).mono ?_; rintro e w3 ⟨bv2, ps2, rfl, hm2, hb2, hl2, hf2, hE⟩; replace H1 := H1.calls hE; have hg7 := H1.at_ 0 rfl; replace hg5 := H1.ext.keep hg5 (fun e => e); have hbu := HB.out.2.1.keep H1.ext; have hE3 := hE1.trans0 H1.ext; obtain ⟨A2, u2, rfl, _⟩ := hb2.row.len; have H2 : SH (fun _ => False) w3 w3 [] := SH.nil _ _; clear H1 hE hE1 hv9 hf2)
    | (refine L_alloc rfl rfl H2 Try.zeroValue24 ?_; clear H2; intro g10 w H2; simp only [Value.cells] at H2; (try simp only [Act.put, List.setIfInBounds_toArray, List.set_cons_succ, List.set_cons_zero, List.getElem_toArray, List.getElem_cons_succ, List.getElem_cons_zero]))
    | (refine L_storerow rfl rfl H2 0 rfl rfl rfl info24 rfl rfl (one7s _ _ _ _ _ _ _ _ _) ?_; clear H2; intro w H2; simp only [List.set_cons_zero] at H2; (try simp only [Act.put, List.setIfInBounds_toArray, List.set_cons_succ, List.set_cons_zero, List.getElem_toArray, List.getElem_cons_succ, List.getElem_cons_zero])))
  clear henc hdec
  have hm2' : ps2.map (·.2) = cbs := hm2
  have heli : ¬ (1424 : Int) < (et.length : Int) := by omega
  have hsame1 := fun {W : World} (hE : Ext0 w3 W) => hsame0 HB.out.1 (hbu.keep hE) hm2' (hb2.keep hE)
  have hgood4 := fun {W : World} (hE : Ext0 w3 W) => hgood3 hm2' (hb2.keep hE)
  generalize hl2e : ps2.length = l2 at *
  clear hsame0 hgood3 hm2 hm2' hb2 hl2 hl2e
  go_upto_region 8 with (first
    | (refine L_unguard (by first | rfl | (go_simp; done)) ?_; refine L_loadmidr rfl rfl H2 rfl hg7 (fun e => e) Try.underlying24 rfl info24 [.int .i64 c1, .int .i64 c2, .int .i64 c3, .int .i64 c4, .int .i64 c5, .int .i64 c6, .slice Au ql cu] rfl (fun j _ => by rw [Nat.zero_add]; simp) ?_; (try simp only [Act.put, List.setIfInBounds_toArray, List.set_cons_succ, List.set_cons_zero, List.getElem_toArray, List.getElem_cons_succ, List.getElem_cons_zero]))
    | (refine L_unguard (by first | rfl | (go_simp; done)) ?_; refine L_loadrow rfl rfl H2 0 rfl rfl Try.underlying24 rfl info24 rfl ?_; (try simp only [Act.put, List.setIfInBounds_toArray, List.set_cons_succ, List.set_cons_zero, List.getElem_toArray, List.getElem_cons_succ, List.getElem_cons_zero]))
    | (go_at_call 21; refine (hsame1 H2.ext).mono ?_; rintro e w ⟨rfl, hE⟩; replace H2 := H2.calls hE; clear hE)
    | (go_at_call 10; refine (hgood4 H2.ext).mono ?_; rintro e w ⟨rfl, hE⟩; replace H2 := H2.calls hE; clear hE))
  clear hsame1 hgood4
  have hwl : ∀ p ∈ qs, p.2.wrap.length ≤ 140737488355000 := fun p hp => by
    have : p.2 ∈ cbs := by rw [← HB.out.1]; exact List.mem_map.2 ⟨p, hp, rfl⟩
    have := (HF.out.1 p.2 this).1
    omega
  have hxr3 := fun {W : World} (hE : Ext0 w3 W) => HF.out.2.2.2.1.keep (hE3.trans0 hE)
  have hwith := fun {W : World} (hE : Ext0 w3 W) => with_any ⟨c1, c2, c3, c4, c5, c6, cbs⟩ _ qs ((WA, xc), ⟨b1, b2, b3, b4, b5, f⟩) W HB.out.1 (hbu.keep hE) (by have := HB.out.2.2; omega) hwl (hxr3 hE) hxl
  obtain ⟨k, hk, hkf, hkx⟩ := withL_found cbs ⟨b1, b2, b3, b4, b5, f⟩
  have hwlen := withL_len cbs ⟨b1, b2, b3, b4, b5, f⟩
  have how := outL_with cbs ⟨b1, b2, b3, b4, b5, f⟩
  have hon := outL_none cbs b1
  have hwm := fun (b : Blk) (h : b ∈ withL cbs ⟨b1, b2, b3, b4, b5, f⟩) => withL_mem h
  simp only at hwith hkf how
  obtain ⟨wb, hwb⟩ : ∃ wb, withL cbs ⟨b1, b2, b3, b4, b5, f⟩ = wb := ⟨_, rfl⟩
  simp only [hwb] at hwith hkf hwlen how hwm hk hkx
  obtain ⟨ob, hob⟩ : ∃ ob, outL cbs [b1] = ob := ⟨_, rfl⟩
  rw [hob] at how hon
  simp only [tabV, blkV, BV.wv] at hwith
  unfold GivesTab at hwith
  have hcb12 : cbs.length ≤ 12 := by
    have hgd : goodP ⟨c1, c2, c3, c4, c5, c6, cbs⟩ n := of_decide_eq_true HF.out.2.2.1
    exact (good_rng hgd HF.out.2.1).1.len
  have HW := Lib.hid (And.intro hkx (And.intro hwlen (And.intro how (And.intro hwm (And.intro hob hwl)))))
  clear hwlen how hwm hob hwl hkx
  go_upto_region 9 with (first
    | (refine L_loadmidr rfl rfl H2 rfl hg7 (fun e => e) Try.underlying24 rfl info24 [.int .i64 c1, .int .i64 c2, .int .i64 c3, .int .i64 c4, .int .i64 c5, .int .i64 c6, .slice Au ql cu] rfl (fun j _ => by rw [Nat.zero_add]; simp) ?_; (try simp only [Act.put, List.setIfInBounds_toArray, List.set_cons_succ, List.set_cons_zero, List.getElem_toArray, List.getElem_cons_succ, List.getElem_cons_zero]))
    | (refine L_loadmidr rfl rfl H2 rfl hg5 (fun e => e) Try.underlying45 rfl info45 [.int .i64 b1, .int .i64 b2, .int .i64 b3, .int .i64 b4, .int .i64 b5, .slice WA f.length xc] rfl (fun j _ => by rw [Nat.zero_add]; simp) ?_; (try simp only [Act.put, List.setIfInBounds_toArray, List.set_cons_succ, List.set_cons_zero, List.getElem_toArray, List.getElem_cons_succ, List.getElem_cons_zero]))
    | (go_at_call 24; refine (hwith H2.ext).mono ?_; rintro e w4 ⟨bv3, ps3, rfl, hm3, hb3, hE⟩; replace H2 := H2.calls hE; replace hg7 := H2.ext.keep hg7 (fun e => e); replace hg5 := H2.ext.keep hg5 (fun e => e); replace hbu := hbu.keep H2.ext; have hxr4 := hxr3 H2.ext; have hE4 := hE3.trans0 H2.ext; have hm3' : ps3.map (·.2) = wb := hm3; have hl3 : ps3.length = wb.length := (by rw [← hm3', List.length_map]); have hk3 : k < ps3.length := (by omega); have HL3 := Lib.hid hl3; clear hl3; obtain ⟨A3, u3, rfl, _⟩ := hb3.row.len; obtain ⟨bb, off, cs, T, fr, rfl, hbb, hcs⟩ := hb3.row.cell hk3; have H3 : SH (fun _ => False) w4 w4 [] := SH.nil _ _; clear H2 hE hxr3 hE3 hm3)
    | (refine L_alloc rfl rfl H3 Try.zeroValue24 ?_; clear H3; intro g12 w H3; simp only [Value.cells] at H3; (try simp only [Act.put, List.setIfInBounds_toArray, List.set_cons_succ, List.set_cons_zero, List.getElem_toArray, List.getElem_cons_succ, List.getElem_cons_zero]))
    | (refine L_storerow rfl rfl H3 0 rfl rfl rfl info24 rfl rfl (one7s _ _ _ _ _ _ _ _ _) ?_; clear H3; intro w H3; simp only [List.set_cons_zero] at H3; (try simp only [Act.put, List.setIfInBounds_toArray, List.set_cons_succ, List.set_cons_zero, List.getElem_toArray, List.getElem_cons_succ, List.getElem_cons_zero])))
  clear hwith
  obtain ⟨p3, hp3⟩ : ∃ p3, ps3[k] = p3 := ⟨_, rfl⟩
  have hp3b : p3.2 = ⟨b1, b2, b3, b4, b5, f⟩ := by
    have h9 : (ps3.map (·.2))[k]'(by rw [List.length_map]; exact hk3) = p3.2 := by rw [List.getElem_map, hp3]
    rw [← h9, ← HW.out.1]
    simp only [hm3']
  have hp3w := hb3.wrap p3 (by rw [← hp3]; exact List.getElem_mem _)
  rw [hp3] at hcs
  obtain ⟨⟨A8, u8⟩, pb⟩ := p3
  simp only at hp3b
  subst hp3b
  have hc2 : cs[off + k * 6 + 2]? = some (Value.int .i64 b3) := hcs 2 (by omega)
  have hc5 : cs[off + k * 6 + 5]? = some (Value.slice A8 f.length u8) := hcs 5 (by omega)
  have hw8 : RdS (encInt .u8) 1 w4 (.slice A8 f.length u8) f := hp3w
  have hxr5 : RdS (encInt .u8) 1 w4 (.slice WA f.length xc) f := hxr4
  clear hxr4
  have hcv := fun {W : World} {u : Value} (h1 : RdS (encInt .u8) 1 W u f) => run_string (src := 34) (dst := 9) h1 Try.underlying34 Try.underlying5 Try.underlying9
  generalize strOfNums f = sx at hcv
  have hfind := fun {W : World} (hE : Ext0 w4 W) => find_any ⟨c1, c2, c3, c4, c5, c6, wb⟩ _ ps3 b1 W hm3' (hb3.row.keep hE) (by have := HW.out.2.1; have := HL3.out; omega)
  simp only [tabV, hkf] at hfind
  have hki : (k : Int) < (ps3.length : Int) := by omega
  have hkni : ¬ (ps3.length : Int) ≤ (k : Int) := by omega
  have hkn0 : ¬ (k : Int) < 0 := by omega
  have hwl3 : ∀ p ∈ ps3, p.2.wrap.length ≤ 140737488355000 := fun p hp => by
    have hpm : p.2 ∈ wb := by rw [← hm3']; exact List.mem_map.2 ⟨p, hp, rfl⟩
    rcases HW.out.2.2.2.1 p.2 hpm with h | h
    · have := (HF.out.1 p.2 h).1
      omega
    · rw [h]; exact hxl
  have hwo1 := fun {W : World} {iv : Value} (hE : Ext0 w4 W) (hi : RdS (encInt .i64) 1 W iv [b1]) => without_any ⟨c1, c2, c3, c4, c5, c6, wb⟩ _ iv ps3 [b1] W hm3' (hb3.keep hE) (by have := HW.out.2.1; have := HL3.out; omega) hwl3 hi (by simp)
  have hwo2 := fun {W : World} {iv : Value} (hE : Ext0 w4 W) (hi : RdS (encInt .i64) 1 W iv [b1]) => without_any ⟨c1, c2, c3, c4, c5, c6, cbs⟩ _ iv qs [b1] W HB.out.1 (hbu.keep hE) (by have := HB.out.2.2; omega) HW.out.2.2.2.2.2 hi (by simp)
  simp only [tabV, HW.out.2.2.1, HW.out.2.2.2.2.1] at hwo1 hwo2
  unfold GivesTab at hwo1 hwo2
  obtain ⟨T4, hT4⟩ : ∃ T4, (⟨c1, c2, c3, c4, c5, c6, ob⟩ : Tab) = T4 := ⟨_, rfl⟩
  have hf4 : ∀ b ∈ T4.bs, b.Fit := fun b hb => by
    rw [← hT4] at hb
    have h9 : b ∈ outL cbs [b1] := by rw [HW.out.2.2.2.2.1]; exact hb
    exact HF.out.1 b (outL_mem h9)
  have hl4 : T4.bs.length ≤ 1000 := by
    rw [← hT4]
    show ob.length ≤ 1000
    rw [← HW.out.2.2.2.2.1]
    have := outL_len cbs [b1]
    omega
  have hon4 : findP b1 T4.bs = -1 := by rw [← hT4]; exact hon
  simp only [hT4] at hwo1 hwo2
  have hfn := fun {W : World} {u : Value} {q : List BV} (h1 : q.map (·.2) = T4.bs) (h2 : BsR W u q) => find_any T4 u q b1 W h1 h2.row (by have := congrArg List.length h1; rw [List.length_map] at this; omega)
  rw [hon4] at hfn
  have hsm := fun {W : World} {u v : Value} {q1 q2 : List BV} (h1 : q1.map (·.2) = T4.bs) (h2 : BsR W u q1) (h3 : q2.map (·.2) = T4.bs) (h4 : BsR W v q2) => refSame_any T4 T4 u v q1 q2 W h1 h2 (by have := congrArg List.length h1; rw [List.length_map] at this; omega) hf4 h3 h4 (by have := congrArg List.length h3; rw [List.length_map] at this; omega) hf4 rfl
  have e4 : T4.bs = ob := by rw [← hT4]
  simp only [e4] at hfn hsm
  clear e4
  have HK := Lib.hid (And.intro hkf hon)
  clear hkf hon hon4 hf4 hl4 hT4 hwl3 hb3 hbu hp3w hcs hp3 hm3'
  generalize hl3e : ps3.length = l3 at *
  generalize hnfe : f.length = nf at *
  go_upto_region 10 with (first
    | (refine L_loadrow rfl rfl H3 0 rfl rfl Try.underlying24 rfl info24 rfl ?_; (try simp only [Act.put, List.setIfInBounds_toArray, List.set_cons_succ, List.set_cons_zero, List.getElem_toArray, List.getElem_cons_succ, List.getElem_cons_zero]))
    | (refine L_load1r rfl rfl H3 rfl hg5 (fun e => e) rfl Try.isAgg3 ?_; (try simp only [Act.put, List.setIfInBounds_toArray, List.set_cons_succ, List.set_cons_zero, List.getElem_toArray, List.getElem_cons_succ, List.getElem_cons_zero]))
    | (go_at_call 22; refine (hfind H3.ext).mono ?_; rintro e w ⟨rfl, hE⟩; replace H3 := H3.calls hE; clear hE))
  clear hfind
  refine D_start H3 (by kernel_rfl) (fun hS => ?_)
  try simp only [Act.put, List.setIfInBounds_toArray, List.set_cons_succ, List.set_cons_zero]
  refine D_take 0 (v := ?_) rfl (by kernel_rfl) (by kernel_rfl) (by kernel_rfl) (fun _ _ _ h => h) rfl (by rfl) (fun W hS => ?_) hS ?_
  rotate_left; (focus (first | (go_simp; done) | (go_simp; with_reducible rfl) | (go_simp; rfl))); all_goals skip; (try simp only [List.set_cons_succ, List.set_cons_zero])
  refine D_take 1 (v := (.bool false)) rfl (by kernel_rfl) (by kernel_rfl) (by kernel_rfl) (fun _ _ _ h => h) rfl (by rfl) (fun W hS => by first | (go_simp; done) | (go_simp; rfl) | (go_simp; omega) | (go_simp; simp; omega)) hS ?_; (try simp only [List.set_cons_succ, List.set_cons_zero])
  refine D_take 2 (v := ?_) rfl (by kernel_rfl) (by kernel_rfl) (by kernel_rfl) (fun _ _ _ h => h) rfl (by rfl) (fun W hS => ?_) hS ?_
  rotate_left; (focus (first | (go_simp; done) | (go_simp; with_reducible rfl) | (go_simp; rfl))); all_goals skip; (try simp only [List.set_cons_succ, List.set_cons_zero])
  refine D_take 3 (v := ?_) rfl (by kernel_rfl) (by kernel_rfl) (by kernel_rfl) (fun _ _ _ h => h) rfl (by rfl) (fun W hS => ?_) hS ?_
  rotate_left; (focus (first | (go_simp; done) | (go_simp; with_reducible rfl) | (go_simp; rfl))); all_goals skip; (try simp only [List.set_cons_succ, List.set_cons_zero])
  refine D_take 4 (v := ?_) rfl (by kernel_rfl) (by kernel_rfl) (by kernel_rfl) (fun _ _ _ h => h) rfl (by rfl) (fun W hS => ?_) hS ?_
  rotate_left; (focus (first | (go_simp; done) | (go_simp; with_reducible rfl) | (go_simp; rfl))); all_goals skip; (try simp only [List.set_cons_succ, List.set_cons_zero])
  refine D_take 5 (v := ?_) rfl (by kernel_rfl) (by kernel_rfl) (by kernel_rfl) (fun _ _ _ h => h) rfl (by rfl) (fun W hS => ?_) hS ?_
  rotate_left; (focus (first | (refine R_load1 (ty := 22) (x := Operand.tmp 61) rfl hS 0 rfl rfl ?_ Try.isAgg22; rfl))); all_goals skip; (try simp only [List.set_cons_succ, List.set_cons_zero, List.getElem_toArray, List.getElem_cons_succ, List.getElem_cons_zero])
  refine D_take 6 (v := ?_) rfl (by kernel_rfl) (by kernel_rfl) (by kernel_rfl) (fun _ _ _ h => h) rfl (by rfl) (fun W hS => ?_) hS ?_
  rotate_left; (focus (first | (go_simp; done) | (go_simp; with_reducible rfl) | (go_simp; rfl))); all_goals skip; (try simp only [List.set_cons_succ, List.set_cons_zero])
  refine D_take 7 (v := (.bool false)) rfl (by kernel_rfl) (by kernel_rfl) (by kernel_rfl) (fun _ _ _ h => h) rfl (by rfl) (fun W hS => by first | (go_simp; done) | (go_simp; rfl) | (go_simp; omega) | (go_simp; simp; omega)) hS ?_; (try simp only [List.set_cons_succ, List.set_cons_zero])
  refine D_take 8 (v := ?_) rfl (by kernel_rfl) (by kernel_rfl) (by kernel_rfl) (fun _ _ _ h => h) rfl (by rfl) (fun W hS => ?_) hS ?_
  rotate_left; (focus (first | (go_simp; done) | (go_simp; with_reducible rfl) | (go_simp; rfl))); all_goals skip; (try simp only [List.set_cons_succ, List.set_cons_zero])
  refine D_take 9 (v := ?_) rfl (by kernel_rfl) (by kernel_rfl) (by kernel_rfl) (fun _ _ _ h => h) rfl (by rfl) (fun W hS => ?_) hS ?_
  rotate_left; (focus (first | (go_simp; done) | (go_simp; with_reducible rfl) | (go_simp; rfl))); all_goals skip; (try simp only [List.set_cons_succ, List.set_cons_zero])
  refine D_take 10 (v := ?_) rfl (by kernel_rfl) (by kernel_rfl) (by kernel_rfl) (fun _ _ _ h => h) rfl (by rfl) (fun W hS => ?_) hS ?_
  rotate_left; (focus (first | (go_simp; done) | (go_simp; with_reducible rfl) | (go_simp; rfl))); all_goals skip; (try simp only [List.set_cons_succ, List.set_cons_zero])
  refine D_take 11 (v := ?_) rfl (by kernel_rfl) (by kernel_rfl) (by kernel_rfl) (fun _ _ _ h => h) rfl (by rfl) (fun W hS => ?_) hS ?_
  rotate_left; (focus (first | (refine R_load1 (ty := 22) (x := Operand.tmp 67) rfl hS 0 rfl rfl ?_ Try.isAgg22; rfl))); all_goals skip; (try simp only [List.set_cons_succ, List.set_cons_zero, List.getElem_toArray, List.getElem_cons_succ, List.getElem_cons_zero])
  refine D_take 12 (v := ?_) rfl (by kernel_rfl) (by kernel_rfl) (by kernel_rfl) (fun _ _ _ h => h) rfl (by rfl) (fun W hS => ?_) hS ?_
  rotate_left; (focus (first | (go_simp; done) | (go_simp; with_reducible rfl) | (go_simp; rfl))); all_goals skip; (try simp only [List.set_cons_succ, List.set_cons_zero])
  refine D_take 13 (v := ?_) rfl (by kernel_rfl) (by kernel_rfl) (by kernel_rfl) (fun _ _ _ h => h) rfl (by rfl) (fun W hS => ?_) hS ?_
  rotate_left; (focus (first | (go_simp; done) | (go_simp; with_reducible rfl) | (go_simp; rfl))); all_goals skip; (try simp only [List.set_cons_succ, List.set_cons_zero])
  refine D_take 14 (v := ?_) rfl (by kernel_rfl) (by kernel_rfl) (by kernel_rfl) (fun _ _ _ h => h) rfl (by rfl) (fun W hS => ?_) hS ?_
  rotate_left; (focus (first | (go_simp; done) | (go_simp; with_reducible rfl) | (go_simp; rfl))); all_goals skip; (try simp only [List.set_cons_succ, List.set_cons_zero])
  refine D_take 15 (v := (.int .i64 b3)) rfl (by kernel_rfl) (by kernel_rfl) (by kernel_rfl) (fun _ _ _ h => h) rfl (by rfl) (fun W hS => R_load1r (ty := 3) (x := .tmp 71) (off := off + k * 6 + 2) rfl hS rfl hbb (fun e => e) hc2 Try.isAgg3) hS ?_; (try simp only [List.set_cons_succ, List.set_cons_zero])
  refine D_take 16 (v := ?_) rfl (by kernel_rfl) (by kernel_rfl) (by kernel_rfl) (fun _ _ _ h => h) rfl (by rfl) (fun W hS => ?_) hS ?_
  rotate_left; (focus (first | (go_simp; done) | (go_simp; with_reducible rfl) | (go_simp; rfl))); all_goals skip; (try simp only [List.set_cons_succ, List.set_cons_zero])
  refine D_take 17 (v := (.int .i64 b3)) rfl (by kernel_rfl) (by kernel_rfl) (by kernel_rfl) (fun _ _ _ h => h) rfl (by rfl) (fun W hS => R_load1r (ty := 3) (x := .tmp 73) (off := 2) rfl hS rfl hg5 (fun e => e) rfl Try.isAgg3) hS ?_; (try simp only [List.set_cons_succ, List.set_cons_zero])
  refine D_take 18 (v := (.bool false)) rfl (by kernel_rfl) (by kernel_rfl) (by kernel_rfl) (fun _ _ _ h => h) rfl (by rfl) (fun W hS => by first | (go_simp; done) | (go_simp; rfl) | (go_simp; omega) | (go_simp; simp; omega)) hS ?_; (try simp only [List.set_cons_succ, List.set_cons_zero])
  refine D_take 19 (v := ?_) rfl (by kernel_rfl) (by kernel_rfl) (by kernel_rfl) (fun _ _ _ h => h) rfl (by rfl) (fun W hS => ?_) hS ?_
  rotate_left; (focus (first | (go_simp; done) | (go_simp; with_reducible rfl) | (go_simp; rfl))); all_goals skip; (try simp only [List.set_cons_succ, List.set_cons_zero])
  refine D_take 20 (v := ?_) rfl (by kernel_rfl) (by kernel_rfl) (by kernel_rfl) (fun _ _ _ h => h) rfl (by rfl) (fun W hS => ?_) hS ?_
  rotate_left; (focus (first | (go_simp; done) | (go_simp; with_reducible rfl) | (go_simp; rfl))); all_goals skip; (try simp only [List.set_cons_succ, List.set_cons_zero])
  refine D_take 21 (v := ?_) rfl (by kernel_rfl) (by kernel_rfl) (by kernel_rfl) (fun _ _ _ h => h) rfl (by rfl) (fun W hS => ?_) hS ?_
  rotate_left; (focus (first | (go_simp; done) | (go_simp; with_reducible rfl) | (go_simp; rfl))); all_goals skip; (try simp only [List.set_cons_succ, List.set_cons_zero])
  refine D_take 22 (v := ?_) rfl (by kernel_rfl) (by kernel_rfl) (by kernel_rfl) (fun _ _ _ h => h) rfl (by rfl) (fun W hS => ?_) hS ?_
  rotate_left; (focus (first | (refine R_load1 (ty := 22) (x := Operand.tmp 78) rfl hS 0 rfl rfl ?_ Try.isAgg22; rfl))); all_goals skip; (try simp only [List.set_cons_succ, List.set_cons_zero, List.getElem_toArray, List.getElem_cons_succ, List.getElem_cons_zero])
  refine D_take 23 (v := ?_) rfl (by kernel_rfl) (by kernel_rfl) (by kernel_rfl) (fun _ _ _ h => h) rfl (by rfl) (fun W hS => ?_) hS ?_
  rotate_left; (focus (first | (go_simp; done) | (go_simp; with_reducible rfl) | (go_simp; rfl))); all_goals skip; (try simp only [List.set_cons_succ, List.set_cons_zero])
  refine D_take 24 (v := ?_) rfl (by kernel_rfl) (by kernel_rfl) (by kernel_rfl) (fun _ _ _ h => h) rfl (by rfl) (fun W hS => ?_) hS ?_
  rotate_left; (focus (first | (go_simp; done) | (go_simp; with_reducible rfl) | (go_simp; rfl))); all_goals skip; (try simp only [List.set_cons_succ, List.set_cons_zero])
  refine D_take 25 (v := ?_) rfl (by kernel_rfl) (by kernel_rfl) (by kernel_rfl) (fun _ _ _ h => h) rfl (by rfl) (fun W hS => ?_) hS ?_
  rotate_left; (focus (first | (go_simp; done) | (go_simp; with_reducible rfl) | (go_simp; rfl))); all_goals skip; (try simp only [List.set_cons_succ, List.set_cons_zero])
  refine D_take 26 (v := (.slice A8 nf u8)) rfl (by kernel_rfl) (by kernel_rfl) (by kernel_rfl) (fun _ _ _ h => h) rfl (by rfl) (fun W hS => R_load1r (ty := 34) (x := .tmp 82) (off := off + k * 6 + 5) rfl hS rfl hbb (fun e => e) hc5 Try.isAgg34) hS ?_; (try simp only [List.set_cons_succ, List.set_cons_zero])
  refine D_take 27 (v := (.string sx)) rfl (by kernel_rfl) (by kernel_rfl) (by kernel_rfl) (fun _ _ _ h => h) rfl (by rfl) (fun W hS => R_convert (src := 34) (dst := 9) (x := .tmp 83) rfl rfl (hcv (hw8.keep hS.ext))) hS ?_; (try simp only [List.set_cons_succ, List.set_cons_zero])
  refine D_take 28 (v := ?_) rfl (by kernel_rfl) (by kernel_rfl) (by kernel_rfl) (fun _ _ _ h => h) rfl (by rfl) (fun W hS => ?_) hS ?_
  rotate_left; (focus (first | (go_simp; done) | (go_simp; with_reducible rfl) | (go_simp; rfl))); all_goals skip; (try simp only [List.set_cons_succ, List.set_cons_zero])
  refine D_take 29 (v := (.slice WA nf xc)) rfl (by kernel_rfl) (by kernel_rfl) (by kernel_rfl) (fun _ _ _ h => h) rfl (by rfl) (fun W hS => R_load1r (ty := 34) (x := .tmp 85) (off := 5) rfl hS rfl hg5 (fun e => e) rfl Try.isAgg34) hS ?_; (try simp only [List.set_cons_succ, List.set_cons_zero])
  refine D_take 30 (v := (.string sx)) rfl (by kernel_rfl) (by kernel_rfl) (by kernel_rfl) (fun _ _ _ h => h) rfl (by rfl) (fun W hS => R_convert (src := 34) (dst := 9) (x := .tmp 86) rfl rfl (hcv (hxr5.keep hS.ext))) hS ?_; (try simp only [List.set_cons_succ, List.set_cons_zero])
  refine D_take 31 (v := (.bool false)) rfl (by kernel_rfl) (by kernel_rfl) (by kernel_rfl) (fun _ _ _ h => h) rfl (by rfl) (fun W hS => by first | (go_simp; done) | (go_simp; rfl)) hS ?_; (try simp only [List.set_cons_succ, List.set_cons_zero])
  refine D_take 32 (v := ?_) rfl (by kernel_rfl) (by kernel_rfl) (by kernel_rfl) (fun _ _ _ h => h) rfl (by rfl) (fun W hS => ?_) hS ?_
  rotate_left; (focus (first | (go_simp; done) | (go_simp; with_reducible rfl) | (go_simp; rfl))); all_goals skip; (try simp only [List.set_cons_succ, List.set_cons_zero])
  refine wpAnyH_done (by kernel_rfl) ?_ _
  clear H3
  have H3 := hS
  clear hS hcv hc2 hc5 hw8 hxr5 hbb
  go_upto_region 12 with fail
  refine D_start H3 (by kernel_rfl) (fun hS => ?_)
  try simp only [Act.put, List.setIfInBounds_toArray, List.set_cons_succ, List.set_cons_zero]
  refine D_one 0 rfl (by kernel_rfl) (by rfl) ?_
  refine R_call (f := 9) (args := #[]) (by first | (go_simp; done) | (go_simp; rfl)) (awake_any _) ?_
  rintro e w ⟨rfl, hE⟩
  have hS2 := hS.calls hE
  clear hS
  have hS := hS2
  clear hS2
  clear hE
  refine ⟨_, rfl, hS, ?_⟩
  try simp only [Act.put, List.getElem_toArray, List.getElem_cons_succ, List.getElem_cons_zero, List.setIfInBounds_toArray, List.set_cons_succ, List.set_cons_zero]
  refine D_take 1 (v := ?_) rfl (by kernel_rfl) (by kernel_rfl) (by kernel_rfl) (fun _ _ _ h => h) rfl (by rfl) (fun W hS => ?_) hS ?_
  rotate_left; (focus (first | (go_simp; done) | (go_simp; with_reducible rfl) | (go_simp; rfl))); all_goals skip; (try simp only [List.set_cons_succ, List.set_cons_zero])
  refine D_take 2 (v := (.agg #[.int .i64 c1, .int .i64 c2, .int .i64 c3, .int .i64 c4, .int .i64 c5, .int .i64 c6, .slice (some ⟨bb, off, none⟩) l3 u3])) rfl (by kernel_rfl) (by kernel_rfl) (by kernel_rfl) (fun _ _ _ h => h) rfl (by rfl) (fun W hS => R_loadrow (ty := 24) (x := .tmp 12) rfl hS 0 rfl rfl Try.underlying24 rfl info24 rfl) hS ?_; (try simp only [List.set_cons_succ, List.set_cons_zero])
  refine D_take 3 (v := ?_) rfl (by kernel_rfl) (by kernel_rfl) (by kernel_rfl) (fun _ _ _ h => h) rfl (by rfl) (fun W hS => ?_) hS ?_
  rotate_left; (focus (first | (go_simp; done) | (go_simp; with_reducible rfl) | (go_simp; rfl))); all_goals skip; (try simp only [List.set_cons_succ, List.set_cons_zero])
  refine D_take 4 (v := (.int .i64 b1)) rfl (by kernel_rfl) (by kernel_rfl) (by kernel_rfl) (fun _ _ _ h => h) rfl (by rfl) (fun W hS => R_load1r (ty := 3) (x := .tmp 93) (off := 0) rfl hS rfl hg5 (fun e => e) rfl Try.isAgg3) hS ?_; (try simp only [List.set_cons_succ, List.set_cons_zero])
  refine D_take 7 (v := ?_) rfl (by kernel_rfl) (by kernel_rfl) (by kernel_rfl) (fun _ _ _ h => h) rfl (by rfl) (fun W hS => ?_) hS ?_
  rotate_left; (focus (first | (go_simp; done) | (go_simp; with_reducible rfl) | (go_simp; rfl))); all_goals skip; (try simp only [List.set_cons_succ, List.set_cons_zero])
  refine D_take 8 (v := (.int .i64 b1)) rfl (by kernel_rfl) (by kernel_rfl) (by kernel_rfl) (fun _ _ _ h => h) rfl (by rfl) (fun W hS => R_load1r (ty := 3) (x := .tmp 97) (off := 0) rfl hS rfl hg5 (fun e => e) rfl Try.isAgg3) hS ?_; (try simp only [List.set_cons_succ, List.set_cons_zero])
  refine D_one 5 rfl (by kernel_rfl) (by rfl) ?_
  refine W_litE (e := 3) (cs := #[.int .i64 b1]) rfl hS (by intro _; first | (go_simp; done) | (go_simp; rfl)) ?_
  intro glA w' HS6 hE
  have lA := oneInt (HS6.at_ 0 rfl)
  clear HS6
  (try replace lB := lB.keep hE)
  (try replace lC := lC.keep hE)
  (try replace hbX := hbX.keep hE)
  (try replace hbY := hbY.keep hE)
  (try replace hbZ := hbZ.keep hE)
  have hS2 := hS.calls hE
  clear hS
  have hS := hS2
  clear hS2
  clear hE
  refine ⟨hS, ?_⟩
  try simp only [Act.put, List.getElem_toArray, List.getElem_cons_succ, List.getElem_cons_zero, List.setIfInBounds_toArray, List.set_cons_succ, List.set_cons_zero]
  refine D_one 6 rfl (by kernel_rfl) (by rfl) ?_
  refine R_call (f := 26) (args := #[.agg #[.int .i64 c1, .int .i64 c2, .int .i64 c3, .int .i64 c4, .int .i64 c5, .int .i64 c6, .slice (some ⟨bb, off, none⟩) l3 u3], .slice (some ⟨glA, 0, none⟩) 1 1]) (by first | (go_simp; done) | (go_simp; rfl)) (hwo1 hS.ext lA) ?_
  rintro e w ⟨uX, pX, rfl, hmX, hbX, hE⟩
  (try replace lB := lB.keep hE)
  (try replace lC := lC.keep hE)
  (try replace hbY := hbY.keep hE)
  (try replace hbZ := hbZ.keep hE)
  have hS2 := hS.calls hE
  clear hS
  have hS := hS2
  clear hS2
  clear hE
  refine ⟨_, rfl, hS, ?_⟩
  try simp only [Act.put, List.getElem_toArray, List.getElem_cons_succ, List.getElem_cons_zero, List.setIfInBounds_toArray, List.set_cons_succ, List.set_cons_zero]
  refine D_one 9 rfl (by kernel_rfl) (by rfl) ?_
  refine R_call (f := 22) (args := #[tabV T4 uX, .int .i64 b1]) (by first | (go_simp; done) | (go_simp; rfl)) (hfn hmX hbX) ?_
  rintro e w ⟨rfl, hE⟩
  (try replace lB := lB.keep hE)
  (try replace lC := lC.keep hE)
  (try replace hbY := hbY.keep hE)
  (try replace hbZ := hbZ.keep hE)
  have hS2 := hS.calls hE
  clear hS
  have hS := hS2
  clear hS2
  clear hE
  refine ⟨_, rfl, hS, ?_⟩
  try simp only [Act.put, List.getElem_toArray, List.getElem_cons_succ, List.getElem_cons_zero, List.setIfInBounds_toArray, List.set_cons_succ, List.set_cons_zero]
  refine D_take 10 (v := ?_) rfl (by kernel_rfl) (by kernel_rfl) (by kernel_rfl) (fun _ _ _ h => h) rfl (by rfl) (fun W hS => ?_) hS ?_
  rotate_left; (focus (first | (go_simp; done) | (go_simp; with_reducible rfl) | (go_simp; rfl))); all_goals skip; (try simp only [List.set_cons_succ, List.set_cons_zero])
  refine D_take 11 (v := ?_) rfl (by kernel_rfl) (by kernel_rfl) (by kernel_rfl) (fun _ _ _ h => h) rfl (by rfl) (fun W hS => ?_) hS ?_
  rotate_left; (focus (first | (go_simp; done) | (go_simp; with_reducible rfl) | (go_simp; rfl))); all_goals skip; (try simp only [List.set_cons_succ, List.set_cons_zero])
  refine D_take 12 (v := ?_) rfl (by kernel_rfl) (by kernel_rfl) (by kernel_rfl) (fun _ _ _ h => h) rfl (by rfl) (fun W hS => ?_) hS ?_
  rotate_left; (focus (first | (go_simp; done) | (go_simp; with_reducible rfl) | (go_simp; rfl))); all_goals skip; (try simp only [List.set_cons_succ, List.set_cons_zero])
  refine D_take 13 (v := (.agg #[.int .i64 c1, .int .i64 c2, .int .i64 c3, .int .i64 c4, .int .i64 c5, .int .i64 c6, .slice (some ⟨bb, off, none⟩) l3 u3])) rfl (by kernel_rfl) (by kernel_rfl) (by kernel_rfl) (fun _ _ _ h => h) rfl (by rfl) (fun W hS => R_loadrow (ty := 24) (x := .tmp 12) rfl hS 0 rfl rfl Try.underlying24 rfl info24 rfl) hS ?_; (try simp only [List.set_cons_succ, List.set_cons_zero])
  refine D_take 14 (v := ?_) rfl (by kernel_rfl) (by kernel_rfl) (by kernel_rfl) (fun _ _ _ h => h) rfl (by rfl) (fun W hS => ?_) hS ?_
  rotate_left; (focus (first | (go_simp; done) | (go_simp; with_reducible rfl) | (go_simp; rfl))); all_goals skip; (try simp only [List.set_cons_succ, List.set_cons_zero])
  refine D_take 15 (v := (.int .i64 b1)) rfl (by kernel_rfl) (by kernel_rfl) (by kernel_rfl) (fun _ _ _ h => h) rfl (by rfl) (fun W hS => R_load1r (ty := 3) (x := .tmp 104) (off := 0) rfl hS rfl hg5 (fun e => e) rfl Try.isAgg3) hS ?_; (try simp only [List.set_cons_succ, List.set_cons_zero])
  refine D_take 18 (v := (.agg #[.int .i64 c1, .int .i64 c2, .int .i64 c3, .int .i64 c4, .int .i64 c5, .int .i64 c6, .slice Au ql cu])) rfl (by kernel_rfl) (by kernel_rfl) (by kernel_rfl) (fun _ _ _ h => h) rfl (by rfl) (fun W hS => R_loadmid (ty := 24) (x := .tmp 7) rfl rfl (hS.ext.keep hg7 (fun e => e)) Try.underlying24 rfl info24 [.int .i64 c1, .int .i64 c2, .int .i64 c3, .int .i64 c4, .int .i64 c5, .int .i64 c6, .slice Au ql cu] rfl (fun j _ => by rw [Nat.zero_add]; simp)) hS ?_; (try simp only [List.set_cons_succ, List.set_cons_zero])
  refine D_take 19 (v := ?_) rfl (by kernel_rfl) (by kernel_rfl) (by kernel_rfl) (fun _ _ _ h => h) rfl (by rfl) (fun W hS => ?_) hS ?_
  rotate_left; (focus (first | (go_simp; done) | (go_simp; with_reducible rfl) | (go_simp; rfl))); all_goals skip; (try simp only [List.set_cons_succ, List.set_cons_zero])
  refine D_take 20 (v := (.int .i64 b1)) rfl (by kernel_rfl) (by kernel_rfl) (by kernel_rfl) (fun _ _ _ h => h) rfl (by rfl) (fun W hS => R_load1r (ty := 3) (x := .tmp 109) (off := 0) rfl hS rfl hg5 (fun e => e) rfl Try.isAgg3) hS ?_; (try simp only [List.set_cons_succ, List.set_cons_zero])
  refine D_two 16 21 rfl rfl (by kernel_rfl) (by rfl) (by rfl) ?_ ?_
  ·
    refine W_litE (e := 3) (cs := #[.int .i64 b1]) rfl hS (by intro _; first | (go_simp; done) | (go_simp; rfl)) ?_
    intro glB w' HS6 hE
    have lB := oneInt (HS6.at_ 0 rfl)
    clear HS6
    (try replace lA := lA.keep hE)
    (try replace lC := lC.keep hE)
    (try replace hbX := hbX.keep hE)
    (try replace hbY := hbY.keep hE)
    (try replace hbZ := hbZ.keep hE)
    have hS2 := hS.calls hE
    clear hS
    have hS := hS2
    clear hS2
    clear hE
    refine ⟨hS, ?_⟩
    try simp only [Act.put, List.getElem_toArray, List.getElem_cons_succ, List.getElem_cons_zero, List.setIfInBounds_toArray, List.set_cons_succ, List.set_cons_zero]
    refine D_two 17 21 rfl rfl (by kernel_rfl) (by rfl) (by rfl) ?_ ?_
    ·
      refine R_call (f := 26) (args := #[.agg #[.int .i64 c1, .int .i64 c2, .int .i64 c3, .int .i64 c4, .int .i64 c5, .int .i64 c6, .slice (some ⟨bb, off, none⟩) l3 u3], .slice (some ⟨glB, 0, none⟩) 1 1]) (by first | (go_simp; done) | (go_simp; rfl)) (hwo1 hS.ext lB) ?_
      rintro e w ⟨uY, pY, rfl, hmY, hbY, hE⟩
      (try replace lC := lC.keep hE)
      (try replace hbZ := hbZ.keep hE)
      have hS2 := hS.calls hE
      clear hS
      have hS := hS2
      clear hS2
      clear hE
      refine ⟨_, rfl, hS, ?_⟩
      try simp only [Act.put, List.getElem_toArray, List.getElem_cons_succ, List.getElem_cons_zero, List.setIfInBounds_toArray, List.set_cons_succ, List.set_cons_zero]
      refine D_one 21 rfl (by kernel_rfl) (by rfl) ?_
      refine W_litE (e := 3) (cs := #[.int .i64 b1]) rfl hS (by intro _; first | (go_simp; done) | (go_simp; rfl)) ?_
      intro glC w' HS6 hE
      have lC := oneInt (HS6.at_ 0 rfl)
      clear HS6
      (try replace lA := lA.keep hE)
      (try replace lB := lB.keep hE)
      (try replace hbX := hbX.keep hE)
      (try replace hbY := hbY.keep hE)
      (try replace hbZ := hbZ.keep hE)
      have hS2 := hS.calls hE
      clear hS
      have hS := hS2
      clear hS2
      clear hE
      refine ⟨hS, ?_⟩
      try simp only [Act.put, List.getElem_toArray, List.getElem_cons_succ, List.getElem_cons_zero, List.setIfInBounds_toArray, List.set_cons_succ, List.set_cons_zero]
      refine D_one 22 rfl (by kernel_rfl) (by rfl) ?_
      refine R_call (f := 26) (args := #[.agg #[.int .i64 c1, .int .i64 c2, .int .i64 c3, .int .i64 c4, .int .i64 c5, .int .i64 c6, .slice Au ql cu], .slice (some ⟨glC, 0, none⟩) 1 1]) (by first | (go_simp; done) | (go_simp; rfl)) (hwo2 hS.ext lC) ?_
      rintro e w ⟨uZ, pZ, rfl, hmZ, hbZ, hE⟩
      (try replace hbY := hbY.keep hE)
      have hS2 := hS.calls hE
      clear hS
      have hS := hS2
      clear hS2
      clear hE
      refine ⟨_, rfl, hS, ?_⟩
      try simp only [Act.put, List.getElem_toArray, List.getElem_cons_succ, List.getElem_cons_zero, List.setIfInBounds_toArray, List.set_cons_succ, List.set_cons_zero]
      refine D_one 23 rfl (by kernel_rfl) (by rfl) ?_
      refine R_call (f := 21) (args := #[tabV T4 uY, tabV T4 uZ]) (by first | (go_simp; done) | (go_simp; rfl)) (hsm hmY hbY hmZ hbZ) ?_
      rintro e w ⟨rfl, hE⟩
      have hS2 := hS.calls hE
      clear hS
      have hS := hS2
      clear hS2
      clear hE
      refine ⟨_, rfl, hS, ?_⟩
      try simp only [Act.put, List.getElem_toArray, List.getElem_cons_succ, List.getElem_cons_zero, List.setIfInBounds_toArray, List.set_cons_succ, List.set_cons_zero]
      refine D_take 24 (v := ?_) rfl (by kernel_rfl) (by kernel_rfl) (by kernel_rfl) (fun _ _ _ h => h) rfl (by rfl) (fun W hS => ?_) hS ?_
      rotate_left; (focus (first | (go_simp; done) | (go_simp; with_reducible rfl) | (go_simp; rfl))); all_goals skip; (try simp only [List.set_cons_succ, List.set_cons_zero])
      refine D_take 25 (v := ?_) rfl (by kernel_rfl) (by kernel_rfl) (by kernel_rfl) (fun _ _ _ h => h) rfl (by rfl) (fun W hS => ?_) hS ?_
      rotate_left; (focus (first | (go_simp; done) | (go_simp; with_reducible rfl) | (go_simp; rfl))); all_goals skip; (try simp only [List.set_cons_succ, List.set_cons_zero])
      refine D_take 26 (v := ?_) rfl (by kernel_rfl) (by kernel_rfl) (by kernel_rfl) (fun _ _ _ h => h) rfl (by rfl) (fun W hS => ?_) hS ?_
      rotate_left; (focus (first | (go_simp; done) | (go_simp; with_reducible rfl) | (go_simp; rfl))); all_goals skip; (try simp only [List.set_cons_succ, List.set_cons_zero])
      refine D_take 27 (v := ?_) rfl (by kernel_rfl) (by kernel_rfl) (by kernel_rfl) (fun _ _ _ h => h) rfl (by rfl) (fun W hS => ?_) hS ?_
      rotate_left; (focus (first | (refine R_load1 (ty := 3) (x := Operand.tmp 116) rfl hS 0 rfl rfl ?_ Try.isAgg3; rfl))); all_goals skip; (try simp only [List.set_cons_succ, List.set_cons_zero, List.getElem_toArray, List.getElem_cons_succ, List.getElem_cons_zero])
      refine D_take 28 (v := ?_) rfl (by kernel_rfl) (by kernel_rfl) (by kernel_rfl) (fun _ _ _ h => h) rfl (by rfl) (fun W hS => ?_) hS ?_
      rotate_left; (focus (first | (go_simp; done) | (go_simp; with_reducible rfl) | (go_simp; rfl))); all_goals skip; (try simp only [List.set_cons_succ, List.set_cons_zero])
      refine D_take 29 (v := (.int .i64 c1)) rfl (by kernel_rfl) (by kernel_rfl) (by kernel_rfl) (fun _ _ _ h => h) rfl (by rfl) (fun W hS => R_load1r (ty := 3) (x := .tmp 118) (off := 0) rfl hS rfl hg7 (fun e => e) rfl Try.isAgg3) hS ?_; (try simp only [List.set_cons_succ, List.set_cons_zero])
      refine D_take 30 (v := ?_) rfl (by kernel_rfl) (by kernel_rfl) (by kernel_rfl) (fun _ _ _ h => h) rfl (by rfl) (fun W hS => ?_) hS ?_
      rotate_left; (focus (first | (go_simp; done) | (go_simp; with_reducible rfl) | (go_simp; rfl))); all_goals skip; (try simp only [List.set_cons_succ, List.set_cons_zero])
      refine D_take 31 (v := ?_) rfl (by kernel_rfl) (by kernel_rfl) (by kernel_rfl) (fun _ _ _ h => h) rfl (by rfl) (fun W hS => ?_) hS ?_
      rotate_left; (focus (first | (go_simp; done) | (go_simp; with_reducible rfl) | (go_simp; rfl))); all_goals skip; (try simp only [List.set_cons_succ, List.set_cons_zero])
      refine D_take 32 (v := ?_) rfl (by kernel_rfl) (by kernel_rfl) (by kernel_rfl) (fun _ _ _ h => h) rfl (by rfl) (fun W hS => ?_) hS ?_
      rotate_left; (focus (first | (go_simp; done) | (go_simp; with_reducible rfl) | (go_simp; rfl))); all_goals skip; (try simp only [List.set_cons_succ, List.set_cons_zero])
      refine D_take 33 (v := ?_) rfl (by kernel_rfl) (by kernel_rfl) (by kernel_rfl) (fun _ _ _ h => h) rfl (by rfl) (fun W hS => ?_) hS ?_
      rotate_left; (focus (first | (go_simp; done) | (go_simp; with_reducible rfl) | (go_simp; rfl))); all_goals skip; (try simp only [List.set_cons_succ, List.set_cons_zero])
      refine D_take 34 (v := ?_) rfl (by kernel_rfl) (by kernel_rfl) (by kernel_rfl) (fun _ _ _ h => h) rfl (by rfl) (fun W hS => ?_) hS ?_
      rotate_left; (focus (first | (refine R_load1 (ty := 3) (x := Operand.tmp 123) rfl hS 0 rfl rfl ?_ Try.isAgg3; rfl))); all_goals skip; (try simp only [List.set_cons_succ, List.set_cons_zero, List.getElem_toArray, List.getElem_cons_succ, List.getElem_cons_zero])
      refine D_take 35 (v := ?_) rfl (by kernel_rfl) (by kernel_rfl) (by kernel_rfl) (fun _ _ _ h => h) rfl (by rfl) (fun W hS => ?_) hS ?_
      rotate_left; (focus (first | (go_simp; done) | (go_simp; with_reducible rfl) | (go_simp; rfl))); all_goals skip; (try simp only [List.set_cons_succ, List.set_cons_zero])
      refine D_take 36 (v := (.int .i64 c6)) rfl (by kernel_rfl) (by kernel_rfl) (by kernel_rfl) (fun _ _ _ h => h) rfl (by rfl) (fun W hS => R_load1r (ty := 3) (x := .tmp 125) (off := 5) rfl hS rfl hg7 (fun e => e) rfl Try.isAgg3) hS ?_; (try simp only [List.set_cons_succ, List.set_cons_zero])
      refine D_take 37 (v := ?_) rfl (by kernel_rfl) (by kernel_rfl) (by kernel_rfl) (fun _ _ _ h => h) rfl (by rfl) (fun W hS => ?_) hS ?_
      rotate_left; (focus (first | (go_simp; done) | (go_simp; with_reducible rfl) | (go_simp; rfl))); all_goals skip; (try simp only [List.set_cons_succ, List.set_cons_zero])
      refine D_take 38 (v := ?_) rfl (by kernel_rfl) (by kernel_rfl) (by kernel_rfl) (fun _ _ _ h => h) rfl (by rfl) (fun W hS => ?_) hS ?_
      rotate_left; (focus (first | (go_simp; done) | (go_simp; with_reducible rfl) | (go_simp; rfl))); all_goals skip; (try simp only [List.set_cons_succ, List.set_cons_zero])
      refine D_take 39 (v := ?_) rfl (by kernel_rfl) (by kernel_rfl) (by kernel_rfl) (fun _ _ _ h => h) rfl (by rfl) (fun W hS => ?_) hS ?_
      rotate_left; (focus (first | (go_simp; done) | (go_simp; with_reducible rfl) | (go_simp; rfl))); all_goals skip; (try simp only [List.set_cons_succ, List.set_cons_zero])
      refine wpAnyH_done (by kernel_rfl) ?_ _
      go_wp2_with fail
      go_ret
      exact ⟨rfl, hE4.trans0 hS.ext⟩
    ·
      refine W_litE (e := 3) (cs := #[.int .i64 b1]) rfl hS (by intro _; first | (go_simp; done) | (go_simp; rfl)) ?_
      intro glC w' HS6 hE
      have lC := oneInt (HS6.at_ 0 rfl)
      clear HS6
      (try replace lA := lA.keep hE)
      (try replace lB := lB.keep hE)
      (try replace hbX := hbX.keep hE)
      (try replace hbY := hbY.keep hE)
      (try replace hbZ := hbZ.keep hE)
      have hS2 := hS.calls hE
      clear hS
      have hS := hS2
      clear hS2
      clear hE
      refine ⟨hS, ?_⟩
      try simp only [Act.put, List.getElem_toArray, List.getElem_cons_succ, List.getElem_cons_zero, List.setIfInBounds_toArray, List.set_cons_succ, List.set_cons_zero]
      refine D_one 17 rfl (by kernel_rfl) (by rfl) ?_
      refine R_call (f := 26) (args := #[.agg #[.int .i64 c1, .int .i64 c2, .int .i64 c3, .int .i64 c4, .int .i64 c5, .int .i64 c6, .slice (some ⟨bb, off, none⟩) l3 u3], .slice (some ⟨glB, 0, none⟩) 1 1]) (by first | (go_simp; done) | (go_simp; rfl)) (hwo1 hS.ext lB) ?_
      rintro e w ⟨uY, pY, rfl, hmY, hbY, hE⟩
      (try replace lC := lC.keep hE)
      (try replace hbZ := hbZ.keep hE)
      have hS2 := hS.calls hE
      clear hS
      have hS := hS2
      clear hS2
      clear hE
      refine ⟨_, rfl, hS, ?_⟩
      try simp only [Act.put, List.getElem_toArray, List.getElem_cons_succ, List.getElem_cons_zero, List.setIfInBounds_toArray, List.set_cons_succ, List.set_cons_zero]
      refine D_one 22 rfl (by kernel_rfl) (by rfl) ?_
      refine R_call (f := 26) (args := #[.agg #[.int .i64 c1, .int .i64 c2, .int .i64 c3, .int .i64 c4, .int .i64 c5, .int .i64 c6, .slice Au ql cu], .slice (some ⟨glC, 0, none⟩) 1 1]) (by first | (go_simp; done) | (go_simp; rfl)) (hwo2 hS.ext lC) ?_
      rintro e w ⟨uZ, pZ, rfl, hmZ, hbZ, hE⟩
      (try replace hbY := hbY.keep hE)
      have hS2 := hS.calls hE
      clear hS
      have hS := hS2
      clear hS2
      clear hE
      refine ⟨_, rfl, hS, ?_⟩
      try simp only [Act.put, List.getElem_toArray, List.getElem_cons_succ, List.getElem_cons_zero, List.setIfInBounds_toArray, List.set_cons_succ, List.set_cons_zero]
      refine D_one 23 rfl (by kernel_rfl) (by rfl) ?_
      refine R_call (f := 21) (args := #[tabV T4 uY, tabV T4 uZ]) (by first | (go_simp; done) | (go_simp; rfl)) (hsm hmY hbY hmZ hbZ) ?_
      rintro e w ⟨rfl, hE⟩
      have hS2 := hS.calls hE
      clear hS
      have hS := hS2
      clear hS2
      clear hE
      refine ⟨_, rfl, hS, ?_⟩
      try simp only [Act.put, List.getElem_toArray, List.getElem_cons_succ, List.getElem_cons_zero, List.setIfInBounds_toArray, List.set_cons_succ, List.set_cons_zero]
      refine D_take 24 (v := ?_) rfl (by kernel_rfl) (by kernel_rfl) (by kernel_rfl) (fun _ _ _ h => h) rfl (by rfl) (fun W hS => ?_) hS ?_
      rotate_left; (focus (first | (go_simp; done) | (go_simp; with_reducible rfl) | (go_simp; rfl))); all_goals skip; (try simp only [List.set_cons_succ, List.set_cons_zero])
      refine D_take 25 (v := ?_) rfl (by kernel_rfl) (by kernel_rfl) (by kernel_rfl) (fun _ _ _ h => h) rfl (by rfl) (fun W hS => ?_) hS ?_
      rotate_left; (focus (first | (go_simp; done) | (go_simp; with_reducible rfl) | (go_simp; rfl))); all_goals skip; (try simp only [List.set_cons_succ, List.set_cons_zero])
      refine D_take 26 (v := ?_) rfl (by kernel_rfl) (by kernel_rfl) (by kernel_rfl) (fun _ _ _ h => h) rfl (by rfl) (fun W hS => ?_) hS ?_
      rotate_left; (focus (first | (go_simp; done) | (go_simp; with_reducible rfl) | (go_simp; rfl))); all_goals skip; (try simp only [List.set_cons_succ, List.set_cons_zero])
      refine D_take 27 (v := ?_) rfl (by kernel_rfl) (by kernel_rfl) (by kernel_rfl) (fun _ _ _ h => h) rfl (by rfl) (fun W hS => ?_) hS ?_
      rotate_left; (focus (first | (refine R_load1 (ty := 3) (x := Operand.tmp 116) rfl hS 0 rfl rfl ?_ Try.isAgg3; rfl))); all_goals skip; (try simp only [List.set_cons_succ, List.set_cons_zero, List.getElem_toArray, List.getElem_cons_succ, List.getElem_cons_zero])
      refine D_take 28 (v := ?_) rfl (by kernel_rfl) (by kernel_rfl) (by kernel_rfl) (fun _ _ _ h => h) rfl (by rfl) (fun W hS => ?_) hS ?_
      rotate_left; (focus (first | (go_simp; done) | (go_simp; with_reducible rfl) | (go_simp; rfl))); all_goals skip; (try simp only [List.set_cons_succ, List.set_cons_zero])
      refine D_take 29 (v := (.int .i64 c1)) rfl (by kernel_rfl) (by kernel_rfl) (by kernel_rfl) (fun _ _ _ h => h) rfl (by rfl) (fun W hS => R_load1r (ty := 3) (x := .tmp 118) (off := 0) rfl hS rfl hg7 (fun e => e) rfl Try.isAgg3) hS ?_; (try simp only [List.set_cons_succ, List.set_cons_zero])
      refine D_take 30 (v := ?_) rfl (by kernel_rfl) (by kernel_rfl) (by kernel_rfl) (fun _ _ _ h => h) rfl (by rfl) (fun W hS => ?_) hS ?_
      rotate_left; (focus (first | (go_simp; done) | (go_simp; with_reducible rfl) | (go_simp; rfl))); all_goals skip; (try simp only [List.set_cons_succ, List.set_cons_zero])
      refine D_take 31 (v := ?_) rfl (by kernel_rfl) (by kernel_rfl) (by kernel_rfl) (fun _ _ _ h => h) rfl (by rfl) (fun W hS => ?_) hS ?_
      rotate_left; (focus (first | (go_simp; done) | (go_simp; with_reducible rfl) | (go_simp; rfl))); all_goals skip; (try simp only [List.set_cons_succ, List.set_cons_zero])
      refine D_take 32 (v := ?_) rfl (by kernel_rfl) (by kernel_rfl) (by kernel_rfl) (fun _ _ _ h => h) rfl (by rfl) (fun W hS => ?_) hS ?_
      rotate_left; (focus (first | (go_simp; done) | (go_simp; with_reducible rfl) | (go_simp; rfl))); all_goals skip; (try simp only [List.set_cons_succ, List.set_cons_zero])
      refine D_take 33 (v := ?_) rfl (by kernel_rfl) (by kernel_rfl) (by kernel_rfl) (fun _ _ _ h => h) rfl (by rfl) (fun W hS => ?_) hS ?_
      rotate_left; (focus (first | (go_simp; done) | (go_simp; with_reducible rfl) | (go_simp; rfl))); all_goals skip; (try simp only [List.set_cons_succ, List.set_cons_zero])
      refine D_take 34 (v := ?_) rfl (by kernel_rfl) (by kernel_rfl) (by kernel_rfl) (fun _ _ _ h => h) rfl (by rfl) (fun W hS => ?_) hS ?_
      rotate_left; (focus (first | (refine R_load1 (ty := 3) (x := Operand.tmp 123) rfl hS 0 rfl rfl ?_ Try.isAgg3; rfl))); all_goals skip; (try simp only [List.set_cons_succ, List.set_cons_zero, List.getElem_toArray, List.getElem_cons_succ, List.getElem_cons_zero])
      refine D_take 35 (v := ?_) rfl (by kernel_rfl) (by kernel_rfl) (by kernel_rfl) (fun _ _ _ h => h) rfl (by rfl) (fun W hS => ?_) hS ?_
      rotate_left; (focus (first | (go_simp; done) | (go_simp; with_reducible rfl) | (go_simp; rfl))); all_goals skip; (try simp only [List.set_cons_succ, List.set_cons_zero])
      refine D_take 36 (v := (.int .i64 c6)) rfl (by kernel_rfl) (by kernel_rfl) (by kernel_rfl) (fun _ _ _ h => h) rfl (by rfl) (fun W hS => R_load1r (ty := 3) (x := .tmp 125) (off := 5) rfl hS rfl hg7 (fun e => e) rfl Try.isAgg3) hS ?_; (try simp only [List.set_cons_succ, List.set_cons_zero])
      refine D_take 37 (v := ?_) rfl (by kernel_rfl) (by kernel_rfl) (by kernel_rfl) (fun _ _ _ h => h) rfl (by rfl) (fun W hS => ?_) hS ?_
      rotate_left; (focus (first | (go_simp; done) | (go_simp; with_reducible rfl) | (go_simp; rfl))); all_goals skip; (try simp only [List.set_cons_succ, List.set_cons_zero])
      refine D_take 38 (v := ?_) rfl (by kernel_rfl) (by kernel_rfl) (by kernel_rfl) (fun _ _ _ h => h) rfl (by rfl) (fun W hS => ?_) hS ?_
      rotate_left; (focus (first | (go_simp; done) | (go_simp; with_reducible rfl) | (go_simp; rfl))); all_goals skip; (try simp only [List.set_cons_succ, List.set_cons_zero])
      refine D_take 39 (v := ?_) rfl (by kernel_rfl) (by kernel_rfl) (by kernel_rfl) (fun _ _ _ h => h) rfl (by rfl) (fun W hS => ?_) hS ?_
      rotate_left; (focus (first | (go_simp; done) | (go_simp; with_reducible rfl) | (go_simp; rfl))); all_goals skip; (try simp only [List.set_cons_succ, List.set_cons_zero])
      refine wpAnyH_done (by kernel_rfl) ?_ _
      go_wp2_with fail
      go_ret
      exact ⟨rfl, hE4.trans0 hS.ext⟩
  ·
    refine W_litE (e := 3) (cs := #[.int .i64 b1]) rfl hS (by intro _; first | (go_simp; done) | (go_simp; rfl)) ?_
    intro glC w' HS6 hE
    have lC := oneInt (HS6.at_ 0 rfl)
    clear HS6
    (try replace lA := lA.keep hE)
    (try replace lB := lB.keep hE)
    (try replace hbX := hbX.keep hE)
    (try replace hbY := hbY.keep hE)
    (try replace hbZ := hbZ.keep hE)
    have hS2 := hS.calls hE
    clear hS
    have hS := hS2
    clear hS2
    clear hE
    refine ⟨hS, ?_⟩
    try simp only [Act.put, List.getElem_toArray, List.getElem_cons_succ, List.getElem_cons_zero, List.setIfInBounds_toArray, List.set_cons_succ, List.set_cons_zero]
    refine D_one 16 rfl (by kernel_rfl) (by rfl) ?_
    refine W_litE (e := 3) (cs := #[.int .i64 b1]) rfl hS (by intro _; first | (go_simp; done) | (go_simp; rfl)) ?_
    intro glB w' HS6 hE
    have lB := oneInt (HS6.at_ 0 rfl)
    clear HS6
    (try replace lA := lA.keep hE)
    (try replace lC := lC.keep hE)
    (try replace hbX := hbX.keep hE)
    (try replace hbY := hbY.keep hE)
    (try replace hbZ := hbZ.keep hE)
    have hS2 := hS.calls hE
    clear hS
    have hS := hS2
    clear hS2
    clear hE
    refine ⟨hS, ?_⟩
    try simp only [Act.put, List.getElem_toArray, List.getElem_cons_succ, List.getElem_cons_zero, List.setIfInBounds_toArray, List.set_cons_succ, List.set_cons_zero]
    refine D_one 17 rfl (by kernel_rfl) (by rfl) ?_
    refine R_call (f := 26) (args := #[.agg #[.int .i64 c1, .int .i64 c2, .int .i64 c3, .int .i64 c4, .int .i64 c5, .int .i64 c6, .slice (some ⟨bb, off, none⟩) l3 u3], .slice (some ⟨glB, 0, none⟩) 1 1]) (by first | (go_simp; done) | (go_simp; rfl)) (hwo1 hS.ext lB) ?_
    rintro e w ⟨uY, pY, rfl, hmY, hbY, hE⟩
    (try replace lC := lC.keep hE)
    (try replace hbZ := hbZ.keep hE)
    have hS2 := hS.calls hE
    clear hS
    have hS := hS2
    clear hS2
    clear hE
    refine ⟨_, rfl, hS, ?_⟩
    try simp only [Act.put, List.getElem_toArray, List.getElem_cons_succ, List.getElem_cons_zero, List.setIfInBounds_toArray, List.set_cons_succ, List.set_cons_zero]
    refine D_one 22 rfl (by kernel_rfl) (by rfl) ?_
    refine R_call (f := 26) (args := #[.agg #[.int .i64 c1, .int .i64 c2, .int .i64 c3, .int .i64 c4, .int .i64 c5, .int .i64 c6, .slice Au ql cu], .slice (some ⟨glC, 0, none⟩) 1 1]) (by first | (go_simp; done) | (go_simp; rfl)) (hwo2 hS.ext lC) ?_
    rintro e w ⟨uZ, pZ, rfl, hmZ, hbZ, hE⟩
    (try replace hbY := hbY.keep hE)
    have hS2 := hS.calls hE
    clear hS
    have hS := hS2
    clear hS2
    clear hE
    refine ⟨_, rfl, hS, ?_⟩
    try simp only [Act.put, List.getElem_toArray, List.getElem_cons_succ, List.getElem_cons_zero, List.setIfInBounds_toArray, List.set_cons_succ, List.set_cons_zero]
    refine D_one 23 rfl (by kernel_rfl) (by rfl) ?_
    refine R_call (f := 21) (args := #[tabV T4 uY, tabV T4 uZ]) (by first | (go_simp; done) | (go_simp; rfl)) (hsm hmY hbY hmZ hbZ) ?_
    rintro e w ⟨rfl, hE⟩
    have hS2 := hS.calls hE
    clear hS
    have hS := hS2
    clear hS2
    clear hE
    refine ⟨_, rfl, hS, ?_⟩
    try simp only [Act.put, List.getElem_toArray, List.getElem_cons_succ, List.getElem_cons_zero, List.setIfInBounds_toArray, List.set_cons_succ, List.set_cons_zero]
    refine D_take 24 (v := ?_) rfl (by kernel_rfl) (by kernel_rfl) (by kernel_rfl) (fun _ _ _ h => h) rfl (by rfl) (fun W hS => ?_) hS ?_
    rotate_left; (focus (first | (go_simp; done) | (go_simp; with_reducible rfl) | (go_simp; rfl))); all_goals skip; (try simp only [List.set_cons_succ, List.set_cons_zero])
    refine D_take 25 (v := ?_) rfl (by kernel_rfl) (by kernel_rfl) (by kernel_rfl) (fun _ _ _ h => h) rfl (by rfl) (fun W hS => ?_) hS ?_
    rotate_left; (focus (first | (go_simp; done) | (go_simp; with_reducible rfl) | (go_simp; rfl))); all_goals skip; (try simp only [List.set_cons_succ, List.set_cons_zero])
    refine D_take 26 (v := ?_) rfl (by kernel_rfl) (by kernel_rfl) (by kernel_rfl) (fun _ _ _ h => h) rfl (by rfl) (fun W hS => ?_) hS ?_
    rotate_left; (focus (first | (go_simp; done) | (go_simp; with_reducible rfl) | (go_simp; rfl))); all_goals skip; (try simp only [List.set_cons_succ, List.set_cons_zero])
    refine D_take 27 (v := ?_) rfl (by kernel_rfl) (by kernel_rfl) (by kernel_rfl) (fun _ _ _ h => h) rfl (by rfl) (fun W hS => ?_) hS ?_
    rotate_left; (focus (first | (refine R_load1 (ty := 3) (x := Operand.tmp 116) rfl hS 0 rfl rfl ?_ Try.isAgg3; rfl))); all_goals skip; (try simp only [List.set_cons_succ, List.set_cons_zero, List.getElem_toArray, List.getElem_cons_succ, List.getElem_cons_zero])
    refine D_take 28 (v := ?_) rfl (by kernel_rfl) (by kernel_rfl) (by kernel_rfl) (fun _ _ _ h => h) rfl (by rfl) (fun W hS => ?_) hS ?_
    rotate_left; (focus (first | (go_simp; done) | (go_simp; with_reducible rfl) | (go_simp; rfl))); all_goals skip; (try simp only [List.set_cons_succ, List.set_cons_zero])
    refine D_take 29 (v := (.int .i64 c1)) rfl (by kernel_rfl) (by kernel_rfl) (by kernel_rfl) (fun _ _ _ h => h) rfl (by rfl) (fun W hS => R_load1r (ty := 3) (x := .tmp 118) (off := 0) rfl hS rfl hg7 (fun e => e) rfl Try.isAgg3) hS ?_; (try simp only [List.set_cons_succ, List.set_cons_zero])
    refine D_take 30 (v := ?_) rfl (by kernel_rfl) (by kernel_rfl) (by kernel_rfl) (fun _ _ _ h => h) rfl (by rfl) (fun W hS => ?_) hS ?_
    rotate_left; (focus (first | (go_simp; done) | (go_simp; with_reducible rfl) | (go_simp; rfl))); all_goals skip; (try simp only [List.set_cons_succ, List.set_cons_zero])
    refine D_take 31 (v := ?_) rfl (by kernel_rfl) (by kernel_rfl) (by kernel_rfl) (fun _ _ _ h => h) rfl (by rfl) (fun W hS => ?_) hS ?_
    rotate_left; (focus (first | (go_simp; done) | (go_simp; with_reducible rfl) | (go_simp; rfl))); all_goals skip; (try simp only [List.set_cons_succ, List.set_cons_zero])
    refine D_take 32 (v := ?_) rfl (by kernel_rfl) (by kernel_rfl) (by kernel_rfl) (fun _ _ _ h => h) rfl (by rfl) (fun W hS => ?_) hS ?_
    rotate_left; (focus (first | (go_simp; done) | (go_simp; with_reducible rfl) | (go_simp; rfl))); all_goals skip; (try simp only [List.set_cons_succ, List.set_cons_zero])
    refine D_take 33 (v := ?_) rfl (by kernel_rfl) (by kernel_rfl) (by kernel_rfl) (fun _ _ _ h => h) rfl (by rfl) (fun W hS => ?_) hS ?_
    rotate_left; (focus (first | (go_simp; done) | (go_simp; with_reducible rfl) | (go_simp; rfl))); all_goals skip; (try simp only [List.set_cons_succ, List.set_cons_zero])
    refine D_take 34 (v := ?_) rfl (by kernel_rfl) (by kernel_rfl) (by kernel_rfl) (fun _ _ _ h => h) rfl (by rfl) (fun W hS => ?_) hS ?_
    rotate_left; (focus (first | (refine R_load1 (ty := 3) (x := Operand.tmp 123) rfl hS 0 rfl rfl ?_ Try.isAgg3; rfl))); all_goals skip; (try simp only [List.set_cons_succ, List.set_cons_zero, List.getElem_toArray, List.getElem_cons_succ, List.getElem_cons_zero])
    refine D_take 35 (v := ?_) rfl (by kernel_rfl) (by kernel_rfl) (by kernel_rfl) (fun _ _ _ h => h) rfl (by rfl) (fun W hS => ?_) hS ?_
    rotate_left; (focus (first | (go_simp; done) | (go_simp; with_reducible rfl) | (go_simp; rfl))); all_goals skip; (try simp only [List.set_cons_succ, List.set_cons_zero])
    refine D_take 36 (v := (.int .i64 c6)) rfl (by kernel_rfl) (by kernel_rfl) (by kernel_rfl) (fun _ _ _ h => h) rfl (by rfl) (fun W hS => R_load1r (ty := 3) (x := .tmp 125) (off := 5) rfl hS rfl hg7 (fun e => e) rfl Try.isAgg3) hS ?_; (try simp only [List.set_cons_succ, List.set_cons_zero])
    refine D_take 37 (v := ?_) rfl (by kernel_rfl) (by kernel_rfl) (by kernel_rfl) (fun _ _ _ h => h) rfl (by rfl) (fun W hS => ?_) hS ?_
    rotate_left; (focus (first | (go_simp; done) | (go_simp; with_reducible rfl) | (go_simp; rfl))); all_goals skip; (try simp only [List.set_cons_succ, List.set_cons_zero])
    refine D_take 38 (v := ?_) rfl (by kernel_rfl) (by kernel_rfl) (by kernel_rfl) (fun _ _ _ h => h) rfl (by rfl) (fun W hS => ?_) hS ?_
    rotate_left; (focus (first | (go_simp; done) | (go_simp; with_reducible rfl) | (go_simp; rfl))); all_goals skip; (try simp only [List.set_cons_succ, List.set_cons_zero])
    refine D_take 39 (v := ?_) rfl (by kernel_rfl) (by kernel_rfl) (by kernel_rfl) (fun _ _ _ h => h) rfl (by rfl) (fun W hS => ?_) hS ?_
    rotate_left; (focus (first | (go_simp; done) | (go_simp; with_reducible rfl) | (go_simp; rfl))); all_goals skip; (try simp only [List.set_cons_succ, List.set_cons_zero])
    refine wpAnyH_done (by kernel_rfl) ?_ _
    go_wp2_with fail
    go_ret
    exact ⟨rfl, hE4.trans0 hS.ext⟩
theorem back_row (w : World) (v : Value) (h1 : TabIn w v) (s : Int) (ws : (Lit.int .u16 s).wf = true) (xv : Value) (h2 : BlkIn w xv) (h3 : ∀ p : BV, xv = blkV p → p.2.wrap.length ≤ 140737488355000) : Calls Try.prog 7 #[v, .int .u16 s, xv] w fun e w' => e = .returned (.bool true) ∧ Below w.heap.size w w' := by
  have ba := wf_in ws
  simp [IntKind.min, IntKind.max, IntKind.bits, IntKind.signed] at ba
  exact (back_walk v xv s w h1 h2 h3 ba.1 (by omega)).mono fun _ _ h => ⟨h.1, h.2.below⟩
section
open Go.ChangeShapes Go.WideShapes Go.ChangeAt Go.RowKit
open Go.ChangeMaps (open_string shut_string)
theorem tableBack_own : ownKnob Try.prog.godebug = none := by kernel_rfl
theorem tableBack_laidOut : laidOutB Try.prog = true := by kernel_rfl
set_option maxRecDepth 100000 in
theorem tableBack_lifted (os : Os) (started : os.Started) (H : Type) (enc : TypeId × Value → H) :
    ReturnsInHanded {} Try.checked os 7 .any (Rows.tableBackSpec.pre6 enc Try.prog Try.f7 Rows.tableBackRow.domain false) (Rows.tableBackSpec.post enc Try.prog Try.f7 false true false false) := by
  refine returnsInHanded_of_change_sized (C := Try.checked) tableBack_own started (by kernel_rfl) Try.func7
    (ChangeSpec.witness6 (enc := enc) (C := Try.checked) false ⟨#[], #[.agg #[.int .i64 0,.int .i64 0,.int .i64 0,.int .i64 0,.int .i64 0,.int .i64 0,.slice none 0 0], .int .u16 0, .agg #[.int .i64 0,.int .i64 0,.int .i64 0,.int .i64 0,.int .i64 0,.slice none 0 0]], []⟩ 8 (by kernel_rfl) (by kernel_rfl) (by kernel_rfl) (by kernel_rfl)) ?_
  intro W base args ds gs before hval0 hW hcnd hwt _
  have hval : ∀ (j : Nat) t v, Try.f7.params[j]? = some t → args[j]? = some v → Value.okWide Try.prog W .any base t v := hval0
  have hW' := hW
  obtain ⟨p, q, hA0, hV, rfl, hfz, hnd⟩ := hW
  have hA : DataW.TrodAll enc Try.prog W 0 (fun _ => true) true Try.f7.params.toList args.toList ds p := hA0
  rw [Try.params7] at hA hval
  obtain ⟨v0, vs0, d0, ds0, p0, q0, hargs, rfl, rfl, h0, r0⟩ := trodAll_cons hA
  obtain ⟨v1, vs1, d1, ds1, p1, q1, rfl, rfl, rfl, h1, r1⟩ := trodAll_cons r0
  obtain ⟨v2, vs2, d2, ds2, p2, q2, rfl, rfl, rfl, h2, r2⟩ := trodAll_cons r1
  obtain ⟨rfl, rfl, rfl⟩ := trodAll_nil r2
  obtain rfl : args = #[v0, v1, v2] := by cases args; simp_all
  obtain ⟨rfl, rfl⟩ := trodVars_none hV
  have k0 := h0
  have lt0 : ∀ x ∈ p0, x.block < W.heap.size := by obtain ⟨m, hm⟩ := k0; exact DataW.trod_lt m _ _ _ hm
  have w0 := tab_arg (hval 0 24 v0 rfl rfl) h0
  obtain ⟨a1, rfl, rfl, rfl, w1⟩ := open_int Try.underlying25 (hval 1 25 v1 rfl rfl) h1
  have k2 := h2
  have lt2 : ∀ x ∈ p2, x.block < W.heap.size := by obtain ⟨m, hm⟩ := k2; exact DataW.trod_lt m _ _ _ hm
  have w2 := blk_arg (hval 2 45 v2 rfl rfl) h2
  clear hA0 hval0
  refine (back_row W v0 w0 a1 w1 v2 w2 (blk_small k2 (fun n hn => of_decide_eq_true (List.all_eq_true.1 hwt n (DataW.weights_mem_each (j:=2) rfl rfl n hn))))).mono fun e W' ⟨he, bel⟩ => ?_
  subst he
  exact ⟨_, rfl, _, _, _, [], _, [], hW', trodAll_mk1 (shut_bool Try.underlying4 _), (trodAll_cons_mk (Below.trod tableBack_laidOut (by kernel_rfl) (of_decide_eq_true (by kernel_rfl)) k0 bel lt0) (trodAll_cons_mk (shut_int Try.underlying25 w1) (trodAll_cons_mk (Below.trod tableBack_laidOut (by kernel_rfl) (of_decide_eq_true (by kernel_rfl)) k2 bel lt2) trodAll_mk0))), rfl, bel.frame _, fun h => by cases h⟩
theorem tableBack_over : Rows.tableBackRow.holds Try.pinned (OpenSpec.ofChange Rows.tableBackSpec) :=
  OpenClaim.holds_of_wide 7 Try.f7 rfl rfl rfl rfl rfl rfl rfl ⟨rfl, rfl, rfl, rfl, rfl⟩ rfl rfl rfl rfl rfl (by kernel_rfl) Try.func7 (by kernel_rfl)
    (of_decide_eq_true (by kernel_rfl)) (by unfold Func.isWrapper; first | (rw [if_pos (by decide +kernel)]; kernel_rfl) | (rw [if_neg (by decide +kernel)]; exact ⟨rfl, rfl⟩))
    (fun os started H enc _ => tableBack_lifted os started H enc)
/-- THE STATEMENT. -/
theorem tableBack_holds : Rows.TableBackSaid := tableBack_over
#print axioms tableBack_holds
end
end Go.Proofs.Ytoaieodcdbbndaa
