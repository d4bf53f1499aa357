/- In a region that draws its order: a load ahead of one operation, though that waits for it only through others. The document's journals: Checkpoint. -/
import Derived.Test.YtgmeahogdjhejaaGreatDoorWalX
import Derived.Test.YtgmeahogdjhejaaGreatDoorWalSij
namespace Go.Proofs.YtgmeahogdjhejaaGreatDoor
set_option linter.unusedVariables false
set_option linter.unusedSimpArgs false
open Go.RowKit
section
variable {P : Program} {md : Region.Mode} {ops : Array Oper} {Q : Exit → Act → World → Prop} {S : World → Prop} {p : Nat} {a : Act} {w : World} {listed : Array Bool} {fuel : Nat}
/-- None of us comes up as long as i has not; p is one of them. -/
def waitsC (md : Region.Mode) (ops : Array Oper) (us : List Nat) (p i : Nat) : Bool :=
  us.contains p && !us.contains i && us.all fun u => match ops[u]? with
    | some o => o.after.any fun e => Region.binds md e && (e.on == i || us.contains e.on)
    | none => false
def noneOf (us : List Nat) (listed : Array Bool) : Bool := us.all fun u => !(listed.getD u true)
theorem waitsC_spec {us : List Nat} {i : Nat} (h : waitsC md ops us p i = true) : p ∈ us ∧ ¬ i ∈ us ∧ ∀ u ∈ us, ∃ ou, ops[u]? = some ou ∧ ∃ e ∈ ou.after, Region.binds md e = true ∧ (e.on = i ∨ e.on ∈ us) := by
  unfold waitsC at h
  rw [Bool.and_eq_true, Bool.and_eq_true] at h
  obtain ⟨⟨h1, h2⟩, h3⟩ := h
  refine ⟨by simpa using h1, by simpa using h2, fun u hu => ?_⟩
  have h4 := List.all_eq_true.1 h3 u hu
  split at h4
  · rename_i o ho
    obtain ⟨k, hk, he⟩ := Array.any_eq_true.1 h4
    rw [Bool.and_eq_true, Bool.or_eq_true] at he
    exact ⟨o, ho, o.after[k], Array.getElem_mem hk, he.1, he.2.imp (fun h => by simpa using h) (fun h => by simpa using h)⟩
  · cases h4
theorem wpAnyX_firstC {us : List Nat} {i : Nat} {oi : Oper} {v : Value} (hi : ops[i]? = some oi) (hsel : ∀ (j : Nat) (o : Oper) cs b, ops[j]? = some o → o.op ≠ .select cs b)
    (hQ : ∀ c a w, Q (.panic c) (a.put oi.dst v) w → Q (.panic c) a w) (hpu : p ∈ us) (hiu : ¬ i ∈ us) (hus : ∀ u ∈ us, ∃ ou, ops[u]? = some ou ∧ ∃ e ∈ ou.after, Region.binds md e = true ∧ (e.on = i ∨ e.on ∈ us)) :
    ∀ (fuel : Nat) (listed : Array Bool) (a : Act) (w : World),
      (∀ j oj, ops[j]? = some oj → j ≠ i → listed.getD j true = false → (∀ e ∈ oj.after, Region.binds md e = true → e.on ≠ i) → oi.apart ops oj = true) →
      i ∈ Region.ready md ops listed → (∀ u ∈ us, listed.getD u true = false) → YieldsIf P ops S oi v a → S w →
      wpAnyX P md ops Q S p fuel (listed.setIfInBounds i true) (a.put oi.dst v) w → wpAnyX P md ops Q S p (fuel + 1) listed a w := by
  have hip : i ≠ p := fun h => hiu (h ▸ hpu)
  intro fuel
  induction fuel with
  | zero =>
    intro listed a w _ hr hlu hy hS H
    refine ⟨fun h => (by rw [h] at hr; cases hr), fun j hj => ?_⟩
    by_cases hji : j = i
    · subst hji; exact hy.wpOp hi hS ⟨fun _ => hS, H⟩
    · have := ready_mono hj hji
      rw [H.1] at this
      cases this
  | succ fuel ih =>
    intro listed a w hfree hr hlu hy hS H
    refine ⟨fun h => (by rw [h] at hr; cases hr), fun j hj => ?_⟩
    by_cases hji : j = i
    · subst hji; exact hy.wpOp hi hS ⟨fun _ => hS, H⟩
    · have h1 := H.2 j (ready_mono hj hji)
      obtain ⟨hjun, oj, hoj, hall⟩ := mem_ready.1 hj
      have hoff : ∀ e ∈ oj.after, Region.binds md e = true → listed.getD e.on true = true := fun e he hb => by
        have h1 := hall e he hb
        rcases Nat.lt_or_ge e.on listed.size with h' | h'
        · simp [h'] at h1 ⊢; exact h1
        · simp [Array.getElem?_eq_none h']
      have hnot : ∀ e ∈ oj.after, Region.binds md e = true → e.on ≠ i := fun e he hb heq => by
        have h2 := hoff e he hb
        have h0 := (mem_ready.1 hr).1
        rw [heq] at h2
        rw [h2] at h0
        cases h0
      have hju : ¬ j ∈ us := fun hju => by
        obtain ⟨ou, hou, e, he, hb, ho⟩ := hus j hju
        rw [hoj] at hou
        cases hou
        rcases ho with ho | ho
        · exact hnot e he hb ho
        · have h2 := hoff e he hb
          rw [hlu _ ho] at h2
          cases h2
      have hjp : j ≠ p := fun h => hju (h ▸ hpu)
      have h2 := wpOp_putIf hoj (hfree j oj hoj hji hjun hnot) (fun cs b => hsel i oi cs b hi) (fun cs b => hsel j oj cs b hoj) hQ hy h1
      have hfree' : ∀ k ok, ops[k]? = some ok → k ≠ i → (listed.setIfInBounds j true).getD k true = false →
          (∀ e ∈ ok.after, Region.binds md e = true → e.on ≠ i) → oi.apart ops ok = true := fun k ok hk hki hun hno => by
        refine hfree k ok hk hki ?_ hno
        by_cases hjk : j = k
        · subst hjk; exact hjun
        · rw [getD_set_ne true hjk] at hun; exact hun
      have hlu' : ∀ u ∈ us, (listed.setIfInBounds j true).getD u true = false := fun u hu => by
        have hne : j ≠ u := fun h => hju (by rw [h]; exact hu)
        rw [getD_set_ne true hne]; exact hlu u hu
      have hlp2 : ((listed.setIfInBounds i true).setIfInBounds j true).getD p true = false := by rw [getD_set_ne true hjp, getD_set_ne true hip]; exact hlu p hpu
      refine wpOp_mono (fun a' w' h3 => ⟨fun _ => h3.2.1 hlp2, ih (listed.setIfInBounds j true) a' w' hfree' (ready_mono hr (Ne.symm hji)) hlu' h3.1 (h3.2.1 hlp2) ?_⟩) h2
      rw [Array.setIfInBounds_comm _ _ hji]
      exact h3.2.2
theorem D_takeC (i : Nat) (us : List Nat) (listed' : Array Bool) (hl : listed.setIfInBounds i true = listed') {oi : Oper} {d : Tmp} {tmps : List Value} {df : List Deferred} (hi : ops[i]? = some oi)
    (hs : Region.noSelect ops = true) (hf : Region.free md ops listed i = true) (hr : (Region.ready md ops listed).contains i = true) (hwt : waitsC md ops us p i = true) (hlp : noneOf us listed = true) {v : Value}
    (hQ : ∀ c a w, Q (.panic c) (a.put oi.dst v) w → Q (.panic c) a w) (hd : oi.dst = some d) (hw : Region.wanted oi (yielded ops tmps.toArray) = true) (hy : ∀ W, S W → (execOp (Act.eval ⟨tmps.toArray, df⟩) oi).run P W = .ok (.value v) W) (hS : S w)
    (h : wpAnyX P md ops Q S p fuel listed' ⟨(tmps.set d v).toArray, df⟩ w) : wpAnyX P md ops Q S p (fuel + 1) listed ⟨tmps.toArray, df⟩ w := by
  subst hl
  have h9 := waitsC_spec hwt
  refine wpAnyX_firstC hi (Region.noSelect_spec hs) hQ h9.1 h9.2.1 h9.2.2 fuel listed _ w (Region.free_spec hi hf) (by simpa using hr) (fun u hu => by simpa using List.all_eq_true.1 hlp u hu) (Or.inl ⟨hw, hy⟩) hS ?_
  rw [hd]
  simpa [Act.put] using h
end
end Go.Proofs.YtgmeahogdjhejaaGreatDoor

namespace Go.Proofs.YtgmeahogdjhejaaGreatDoor
set_option linter.unusedVariables false
set_option linter.unusedSimpArgs false
open Go.RowKit Go.Shelf
open Rf (RefA)

set_option maxRecDepth 100000 in
set_option maxHeartbeats 8000000 in
theorem refCheckpoint_any {b jb : Nat} {S : Nat → Prop} {d : DS} {j : JS} {W0 : Int} (w0 : World) (h : (JQ b jb S d j).says w0) (hf : d.Fine W0) (hW : W0 ≤ 100000000) (hj : j.Ok d.sure.length) {v : Value} {xs : List Int} (hr : RdS (encInt .u8) 1 w0 v xs) (hb : ∀ x ∈ xs, 0 ≤ x ∧ x ≤ 255) (hl : xs.length ≤ 65535) :
    Calls Tryz.prog 19 #[.pointer (some ⟨jb, 0, none⟩), v] w0 (JQE b jb S (checkpointP d j xs) w0) := by
  obtain ⟨A, cap, rfl, hcap⟩ := hr.len
  have H := JQ.open_ h
  have hjb := blk_lt' h.2.1
  have H : SH (fun i => S i ∨ i = jb) w0 w0 [pt jb (.cells (jCells b j) 54 (0, 0)), RefA b S d] := H
  have hlen := hf.len
  have htp := refTop_any w0 h hf (by have := hj.may.2.2.2.2; omega)
  obtain ⟨slot, log, ep, sq, pl, us, fr, re⟩ := j
  obtain ⟨hmay, hep, hsq, hpl, hus⟩ := hj
  simp only at hmay hep hsq hpl hus htp
  clear hep hus
  have hc8 := cell_of_row w0 jb 8 _ _ _ h.2.1
  simp only [jCells, List.getElem?_toArray, List.getElem?_cons_succ, List.getElem?_cons_zero] at hc8
  cases re
  · have hms : 2 * slot + log ≤ d.sure.length := by have := hmay.2.2.2.2; omega
    have hs1 : 1 ≤ slot := by have := hmay.1; omega
    have htu := top_u32 hf (2 * slot + log) hms
    have hcp : checkpointP d ⟨slot, log, ep, sq, pl, us, fr, false⟩ xs =
        if recErr slot (topP d (2 * slot + log) + 1) xs.length ≠ 0 then (d, ⟨slot, log, ep, sq, pl, us, fr, false⟩, recErr slot (topP d (2 * slot + log) + 1) xs.length)
        else if (d.lay ((1 - pl) * slot) (countP xs.length) (layP (topP d (2 * slot + log) + 1) sq xs)).2 ≠ 0 then ((d.lay ((1 - pl) * slot) (countP xs.length) (layP (topP d (2 * slot + log) + 1) sq xs)).1, ⟨slot, log, ep, sq, pl, us, fr, true⟩, (d.lay ((1 - pl) * slot) (countP xs.length) (layP (topP d (2 * slot + log) + 1) sq xs)).2)
        else if (d.lay ((1 - pl) * slot) (countP xs.length) (layP (topP d (2 * slot + log) + 1) sq xs)).1.flushR.2 ≠ 0 then ((d.lay ((1 - pl) * slot) (countP xs.length) (layP (topP d (2 * slot + log) + 1) sq xs)).1.flushR.1, ⟨slot, log, ep, sq, pl, us, fr, true⟩, (d.lay ((1 - pl) * slot) (countP xs.length) (layP (topP d (2 * slot + log) + 1) sq xs)).1.flushR.2)
        else ((d.lay ((1 - pl) * slot) (countP xs.length) (layP (topP d (2 * slot + log) + 1) sq xs)).1.flushR.1, ⟨slot, log, topP d (2 * slot + log) + 1, sq, 1 - pl, 0, true, false⟩, 0) := rfl
    obtain ⟨t, ht⟩ : ∃ t, topP d (2 * slot + log) = t := ⟨_, rfl⟩
    rw [ht] at htp htu hcp
    obtain ⟨t1, ht1⟩ : ∃ t1, t + 1 = t1 := ⟨_, rfl⟩
    have hwe : IntKind.i64.wrap (t + 1) = t1 := by rw [ht1, IntKind.wrap_i64]; omega
    rw [ht1] at hcp
    have ht1b : 0 ≤ t1 := by omega
    clear ht1
    have hfit := fun {w : World} => fits_any slot xs.length cap A w
    obtain ⟨n, hn⟩ : ∃ n, xs.length = n := ⟨_, rfl⟩
    have hlen2 := layP_len t1 sq xs
    rw [hn] at hcp hfit hr hcap hlen2 hl ⊢
    obtain ⟨r, hre⟩ : ∃ r, checkpointP d ⟨slot, log, ep, sq, pl, us, fr, false⟩ xs = r := ⟨_, rfl⟩
    rw [hre] at hcp ⊢
    have hn65 : (n : Int) ≤ 65535 := by omega
    by_cases hbig : 4294967295 < t1
    · have hrr : r = (d, ⟨slot, log, ep, sq, pl, us, fr, false⟩, 2) := by
        have hr2 : recErr slot t1 n = 2 := by unfold recErr; rw [if_pos (.inr hbig)]
        rw [hcp, hr2, if_pos (by decide)]
      have HR := Lib.hid hrr
      have hge : 4294967296 ≤ t1 := by omega
      clear hrr hcp hf hmay hb hfit hre h hlen2 htu ht hms hs1 hsq hn
      simp only [jCells] at H
      go_enter Tryz.func19, Tryz.ntmps19
      go_wp2_with (first
        | (go_at_call 52; refine htp.mono ?_; rintro e1 w1 ⟨rfl, hE⟩; replace H := H.calls hE; clear hE))
      go_ret
      rw [HR.out]
      exact JQE.of (k := 2) H hjb
    · have hge : ¬ 4294967296 ≤ t1 := by omega
      have hrec : recErr slot t1 n = if slot < countP n then 5 else 0 := by unfold recErr; rw [if_neg (by omega)]
      rw [if_neg (show ¬ 65535 < n by omega)] at hfit
      rw [hrec] at hcp
      have htU : U32 t1 := ⟨by omega, by omega⟩
      have hlay := fun {w : World} (h : RdS (encInt .u8) 1 w (.slice A n cap) xs) => refLay_any t1 sq (.slice A n cap) xs w htU hsq h hb (by omega)
      unfold LayE at hlay
      have hlb := lay_bytes (e := t1) (q := sq) hb
      obtain ⟨o, ho⟩ : ∃ o, 1 - pl = o := ⟨_, rfl⟩
      have hwo : IntKind.i64.wrap (1 - (pl : Int)) = (o : Int) := by rw [IntKind.wrap_i64]; omega
      have ho1 : o ≤ 1 := by omega
      obtain ⟨p0, hp0⟩ : ∃ p0, o * slot = p0 := ⟨_, rfl⟩
      have hps : p0 ≤ slot := by rw [← hp0]; rcases (show o = 0 ∨ o = 1 by omega) with rfl | rfl <;> omega
      have hwp : IntKind.i64.wrap ((o : Int) * (slot : Int)) = (p0 : Int) := by
        rw [show (o : Int) * (slot : Int) = (p0 : Int) by rw [← hp0]; exact (Int.natCast_mul o slot).symm, IntKind.wrap_i64]; omega
      rw [ho, hp0] at hcp
      obtain ⟨c, hc⟩ : ∃ c, countP n = c := ⟨_, rfl⟩
      rw [hc] at hcp hfit hlen2
      have hc10 : c ≤ 10000 := by rw [← hc]; unfold countP; omega
      have hfl := hf.lay c p0 hlb
      have hrl := fun {w : World} {S' : Nat → Prop} {v : Value} (h : (RefA b S' d).says w) (hr : RdS (encInt .u8) 1 w v (layP t1 sq xs)) (hap : ∀ j, v.ownBlock = some j → ¬ S' j) => rlay_any w h hf (by omega) p0 c hr hlb hlen2 hc10 (by omega) hap
      unfold RfE at hrl
      obtain ⟨y, hy⟩ : ∃ y, layP t1 sq xs = y := ⟨_, rfl⟩
      rw [hy] at hcp hlay hfl hrl
      obtain ⟨d1, hd1⟩ : ∃ d1, d.lay p0 c y = d1 := ⟨_, rfl⟩
      rw [hd1] at hcp hfl hrl
      have hflu := fun {w : World} {S' : Nat → Prop} (h : (RefA b S' d1.1).says w) => refFlush_E h hfl
      unfold RfE at hflu
      obtain ⟨d2, hd2⟩ : ∃ d2, d1.1.flushR = d2 := ⟨_, rfl⟩
      rw [hd2] at hcp hflu
      obtain ⟨e1, he1⟩ : ∃ e1, d1.2 = e1 := ⟨_, rfl⟩
      obtain ⟨e2, he2⟩ : ∃ e2, d2.2 = e2 := ⟨_, rfl⟩
      simp only [he1, he2] at hcp
      simp only [he1] at hrl
      simp only [he2] at hflu
      by_cases hsc : slot < c
      · rw [if_pos hsc, if_pos (by decide)] at hcp
        rw [if_pos hsc] at hfit
        have HR := Lib.hid hcp
        clear hcp hf hmay hb hre h hlen2 htu ht hms hs1 hsq hlb hrl hflu hfl hlay hn hrec hc hd1 hd2 he1 he2 hy hp0 ho htU
        simp only [jCells] at H
        go_enter Tryz.func19, Tryz.ntmps19
        go_upto_region 3 with fail
        clear hc8
        go_wp2_with (first
          | (go_at_call 52; refine htp.mono ?_; rintro e1 w1 ⟨rfl, hE⟩; replace H := H.calls hE; clear hE)
          | (refine L_load1 rfl rfl H 0 rfl rfl rfl Tryz.isAgg3 ?_; (try simp only [Act.put, List.setIfInBounds_toArray, List.set_cons_succ, List.set_cons_zero, List.getElem_toArray, List.getElem_cons_succ, List.getElem_cons_zero]))
          | (go_at_call 33; refine hfit.mono ?_; rintro e w9 ⟨rfl, hw9⟩; replace hw9 := hw9.symm; subst hw9))
        go_ret
        rw [HR.out]
        exact JQE.of (k := 5) H hjb
      · rw [if_neg hsc, if_neg (by simp)] at hcp
        rw [if_neg hsc] at hfit
        have HA := Lib.hid hcp
        clear hcp hf hmay hb hre h hlen2 htu ht hms hs1 hlb hfl hn hrec hc hd1 hd2 he1 he2 hy hp0 htU ho
        simp only [jCells] at H
        go_enter Tryz.func19, Tryz.ntmps19
        go_upto_region 3 with fail
        clear hc8
        go_upto_region 10 with (first
          | (go_at_call 52; refine htp.mono ?_; rintro e1 w1 ⟨rfl, hE⟩; replace H := H.calls hE; replace hr := hr.keep hE; clear hE)
          | (refine L_load1 rfl rfl H 0 rfl rfl rfl Tryz.isAgg3 ?_; (try simp only [Act.put, List.setIfInBounds_toArray, List.set_cons_succ, List.set_cons_zero, List.getElem_toArray, List.getElem_cons_succ, List.getElem_cons_zero]))
          | (go_at_call 33; refine hfit.mono ?_; rintro e w9 ⟨rfl, hw9⟩; replace hw9 := hw9.symm; subst hw9)
          | (go_at_call 34; refine (hlay hr).mono ?_; rintro e w3 ⟨va, rfl, hra, hE, hfr⟩; have hlt := H.lt _ (List.mem_cons_of_mem _ List.mem_cons_self); replace H := H.calls hE; clear hE hr))
        have hap2 : ∀ j, va.ownBlock = some j → ¬ S j := fun j hj hS => Nat.lt_irrefl _ (Nat.lt_of_lt_of_le (hlt j hS) (hfr j hj))
        replace hra := hra.keep (Ext.drew _ _)
        clear hlt hfr hlay htp hfit
        refine D_startX 16 #[false, false, false, false, false, false, false, false, false, false, false, false, false, false, false, false, false, false, false] (by kernel_rfl) H (by kernel_rfl) (fun hS => ?_)
        try simp only [Act.put, List.setIfInBounds_toArray, List.set_cons_succ, List.set_cons_zero]
        refine D_freeX 0 #[true, false, false, false, false, false, false, false, false, false, false, false, false, false, false, false, false, false, false] (by kernel_rfl) (v := ?_) rfl (by kernel_rfl) (by kernel_rfl) (by kernel_rfl) (by kernel_rfl) (fun _ _ _ h => h) rfl (by rfl) (fun W => ?_) hS ?_
        rotate_left; (focus (first | (go_simp; done) | (go_simp; with_reducible rfl) | (go_simp; rfl))); all_goals skip; (try simp only [List.set_cons_succ, List.set_cons_zero])
        refine D_freeX 1 #[true, true, false, false, false, false, false, false, false, false, false, false, false, false, false, false, false, false, false] (by kernel_rfl) (v := ?_) rfl (by kernel_rfl) (by kernel_rfl) (by kernel_rfl) (by kernel_rfl) (fun _ _ _ h => h) rfl (by rfl) (fun W => ?_) hS ?_
        rotate_left; (focus (first | (go_simp; done) | (go_simp; with_reducible rfl) | (go_simp; rfl))); all_goals skip; (try simp only [List.set_cons_succ, List.set_cons_zero])
        refine D_freeX 2 #[true, true, true, false, false, false, false, false, false, false, false, false, false, false, false, false, false, false, false] (by kernel_rfl) (v := ?_) rfl (by kernel_rfl) (by kernel_rfl) (by kernel_rfl) (by kernel_rfl) (fun _ _ _ h => h) rfl (by rfl) (fun W => ?_) hS ?_
        rotate_left; (focus (first | (go_simp; done) | (go_simp; with_reducible rfl) | (go_simp; rfl))); all_goals skip; (try simp only [List.set_cons_succ, List.set_cons_zero])
        refine D_freeX 3 #[true, true, true, true, false, false, false, false, false, false, false, false, false, false, false, false, false, false, false] (by kernel_rfl) (v := ?_) rfl (by kernel_rfl) (by kernel_rfl) (by kernel_rfl) (by kernel_rfl) (fun _ _ _ h => h) rfl (by rfl) (fun W => ?_) hS ?_
        rotate_left; (focus (first | (go_simp; done) | (go_simp; with_reducible rfl) | (go_simp; rfl))); all_goals skip; (try simp only [List.set_cons_succ, List.set_cons_zero])
        refine D_takeX 4 #[true, true, true, true, true, false, false, false, false, false, false, false, false, false, false, false, false, false, false] (by kernel_rfl) (v := (.pointer (some ⟨b, 0, none⟩))) rfl (by kernel_rfl) (by kernel_rfl) (by kernel_rfl) (by kernel_rfl) (by kernel_rfl) (fun _ _ _ h => h) rfl (by rfl) (fun W hS => R_load1 (ty := 26) (x := .tmp 47) rfl hS 0 rfl rfl rfl Tryz.isAgg26) hS ?_; (try simp only [List.set_cons_succ, List.set_cons_zero])
        refine D_freeX 5 #[true, true, true, true, true, true, false, false, false, false, false, false, false, false, false, false, false, false, false] (by kernel_rfl) (v := ?_) rfl (by kernel_rfl) (by kernel_rfl) (by kernel_rfl) (by kernel_rfl) (fun _ _ _ h => h) rfl (by rfl) (fun W => ?_) hS ?_
        rotate_left; (focus (first | (go_simp; done) | (go_simp; with_reducible rfl) | (go_simp; rfl))); all_goals skip; (try simp only [List.set_cons_succ, List.set_cons_zero])
        refine D_freeX 6 #[true, true, true, true, true, true, true, false, false, false, false, false, false, false, false, false, false, false, false] (by kernel_rfl) (v := ?_) rfl (by kernel_rfl) (by kernel_rfl) (by kernel_rfl) (by kernel_rfl) (fun _ _ _ h => h) rfl (by rfl) (fun W => ?_) hS ?_
        rotate_left; (focus (first | (go_simp; done) | (go_simp; with_reducible rfl) | (go_simp; rfl))); all_goals skip; (try simp only [List.set_cons_succ, List.set_cons_zero])
        refine D_freeX 7 #[true, true, true, true, true, true, true, true, false, false, false, false, false, false, false, false, false, false, false] (by kernel_rfl) (v := ?_) rfl (by kernel_rfl) (by kernel_rfl) (by kernel_rfl) (by kernel_rfl) (fun _ _ _ h => h) rfl (by rfl) (fun W => ?_) hS ?_
        rotate_left; (focus (first | (go_simp; done) | (go_simp; with_reducible rfl) | (go_simp; rfl))); all_goals skip; (try simp only [List.set_cons_succ, List.set_cons_zero])
        refine D_takeC 8 [9, 14, 16] #[true, true, true, true, true, true, true, true, true, false, false, false, false, false, false, false, false, false, false] (by kernel_rfl) (v := ?_) rfl (by kernel_rfl) (by kernel_rfl) (by kernel_rfl) (by kernel_rfl) (by kernel_rfl) (fun _ _ _ h => h) rfl (by rfl) (fun W hS => ?_) hS ?_
        rotate_left; (focus (first | (refine R_load1 (ty := 3) (x := Operand.tmp 51) rfl hS 0 rfl rfl ?_ Tryz.isAgg3; rfl))); all_goals skip; (try simp only [List.set_cons_succ, List.set_cons_zero, List.getElem_toArray, List.getElem_cons_succ, List.getElem_cons_zero])
        refine D_freeX 9 #[true, true, true, true, true, true, true, true, true, true, false, false, false, false, false, false, false, false, false] (by kernel_rfl) (v := ?_) rfl (by kernel_rfl) (by kernel_rfl) (by kernel_rfl) (by kernel_rfl) (fun _ _ _ h => h) rfl (by rfl) (fun W => ?_) hS ?_
        rotate_left; (focus (first | (go_simp; done) | (go_simp; with_reducible rfl) | (go_simp; rfl))); all_goals skip; (try simp only [List.set_cons_succ, List.set_cons_zero])
        refine D_freeX 10 #[true, true, true, true, true, true, true, true, true, true, true, false, false, false, false, false, false, false, false] (by kernel_rfl) (v := ?_) rfl (by kernel_rfl) (by kernel_rfl) (by kernel_rfl) (by kernel_rfl) (fun _ _ _ h => h) rfl (by rfl) (fun W => ?_) hS ?_
        rotate_left; (focus (first | (go_simp; done) | (go_simp; with_reducible rfl) | (go_simp; rfl))); all_goals skip; (try simp only [List.set_cons_succ, List.set_cons_zero])
        refine D_freeX 11 #[true, true, true, true, true, true, true, true, true, true, true, true, false, false, false, false, false, false, false] (by kernel_rfl) (v := ?_) rfl (by kernel_rfl) (by kernel_rfl) (by kernel_rfl) (by kernel_rfl) (fun _ _ _ h => h) rfl (by rfl) (fun W => ?_) hS ?_
        rotate_left; (focus (first | (go_simp; done) | (go_simp; with_reducible rfl) | (go_simp; rfl))); all_goals skip; (try simp only [List.set_cons_succ, List.set_cons_zero])
        refine D_freeX 12 #[true, true, true, true, true, true, true, true, true, true, true, true, true, false, false, false, false, false, false] (by kernel_rfl) (v := ?_) rfl (by kernel_rfl) (by kernel_rfl) (by kernel_rfl) (by kernel_rfl) (fun _ _ _ h => h) rfl (by rfl) (fun W => ?_) hS ?_
        rotate_left; (focus (first | (go_simp; done) | (go_simp; with_reducible rfl) | (go_simp; rfl))); all_goals skip; (try simp only [List.set_cons_succ, List.set_cons_zero])
        refine D_takeC 13 [14, 16] #[true, true, true, true, true, true, true, true, true, true, true, true, true, true, false, false, false, false, false] (by kernel_rfl) (v := ?_) rfl (by kernel_rfl) (by kernel_rfl) (by kernel_rfl) (by kernel_rfl) (by kernel_rfl) (fun _ _ _ h => h) rfl (by rfl) (fun W hS => ?_) hS ?_
        rotate_left; (focus (first | (refine R_load1 (ty := 3) (x := Operand.tmp 56) rfl hS 0 rfl rfl ?_ Tryz.isAgg3; rfl))); all_goals skip; (try simp only [List.set_cons_succ, List.set_cons_zero, List.getElem_toArray, List.getElem_cons_succ, List.getElem_cons_zero])
        refine D_freeX 14 #[true, true, true, true, true, true, true, true, true, true, true, true, true, true, true, false, false, false, false] (by kernel_rfl) (v := ?_) rfl (by kernel_rfl) (by kernel_rfl) (by kernel_rfl) (by kernel_rfl) (fun _ _ _ h => h) rfl (by rfl) (fun W => ?_) hS ?_
        rotate_left; (focus (first | (go_simp; done) | (go_simp; with_reducible rfl) | (go_simp; rfl))); all_goals skip; (try simp only [List.set_cons_succ, List.set_cons_zero])
        refine D_freeX 15 #[true, true, true, true, true, true, true, true, true, true, true, true, true, true, true, true, false, false, false] (by kernel_rfl) (v := ?_) rfl (by kernel_rfl) (by kernel_rfl) (by kernel_rfl) (by kernel_rfl) (fun _ _ _ h => h) rfl (by rfl) (fun W => ?_) hS ?_
        rotate_left; (focus (first | (go_simp; done) | (go_simp; with_reducible rfl) | (go_simp; rfl))); all_goals skip; (try simp only [List.set_cons_succ, List.set_cons_zero])
        refine D_pX #[true, true, true, true, true, true, true, true, true, true, true, true, true, true, true, true, true, false, false] (by kernel_rfl) rfl (by kernel_rfl) (by rfl) ?_
        refine R_call (f := 35) (args := #[.pointer (some ⟨b, 0, none⟩), .int .i64 (p0 : Int), va]) (by first | (go_simp; done) | (go_simp; rfl)) (hrl (hS.get 1 rfl) hra hap2) ?_
        rintro e w5 ⟨rfl, S2, hE, hsay, hS2⟩
        have HW := hS.refTo 1 rfl hE hsay hS2
        simp only [List.set_cons_zero, List.set_cons_succ] at HW
        clear hS hE hsay hS2 hra hap2
        refine ⟨_, rfl, ?_⟩
        try simp only [Act.put, List.getElem_toArray, List.getElem_cons_succ, List.getElem_cons_zero, List.setIfInBounds_toArray, List.set_cons_succ, List.set_cons_zero]
        refine D_afterX 17 #[true, true, true, true, true, true, true, true, true, true, true, true, true, true, true, true, true, true, false] (by kernel_rfl) rfl (by kernel_rfl) (by rfl) (by kernel_rfl) ?_
        refine R_call (f := 49) (args := #[.pointer (some ⟨jb, 0, none⟩), .int .i64 e1]) (by first | (go_simp; done) | (go_simp; rfl)) (did_any (b := b) (j := ⟨slot, log, ep, sq, pl, us, fr, false⟩) _ e1 rfl (HW.at_ 0 rfl)) ?_
        rintro e w7 ⟨rfl, hE, hsay⟩
        have HW3 := HW.blk 0 rfl hE hsay
        simp only [List.set_cons_zero, List.set_cons_succ] at HW3
        clear HW hE hsay
        refine ⟨_, rfl, ?_⟩
        try simp only [Act.put, List.getElem_toArray, List.getElem_cons_succ, List.getElem_cons_zero, List.setIfInBounds_toArray, List.set_cons_succ, List.set_cons_zero]
        refine D_afterX 18 #[true, true, true, true, true, true, true, true, true, true, true, true, true, true, true, true, true, true, true] (by kernel_rfl) rfl (by kernel_rfl) (by rfl) (by kernel_rfl) ?_
        refine wp_here (v := ?_) ?_ ?_; rotate_left; (focus (first | (go_simp; done) | (go_simp; with_reducible rfl) | (go_simp; rfl))); all_goals skip
        try simp only [Act.put, List.getElem_toArray, List.getElem_cons_succ, List.getElem_cons_zero, List.setIfInBounds_toArray, List.set_cons_succ, List.set_cons_zero]
        refine wpAnyX_done (by kernel_rfl) ?_ _
        have H := HW3
        clear HW3 hrl
        by_cases hz1 : e1 = 0
        · subst hz1
          simp only [jCells, ne_eq, not_true_eq_false, decide_false] at H
          go_upto_region 14 with (first
            | (refine L_load1 rfl rfl H 0 rfl rfl rfl Tryz.isAgg26 ?_; (try simp only [Act.put, List.setIfInBounds_toArray, List.set_cons_succ, List.set_cons_zero, List.getElem_toArray, List.getElem_cons_succ, List.getElem_cons_zero]))
            | (go_at_call 36; refine (hflu (H.get 1 rfl)).mono ?_; rintro e1 w4 ⟨rfl, S3, hE, hsay, hS3⟩; replace H := H.refTo 1 rfl hE hsay hS3; simp only [List.set_cons_zero, List.set_cons_succ] at H; clear hE hsay hS3)
            | (go_at_call 49; refine (did_any (b := b) (j := ⟨slot, log, ep, sq, pl, us, fr, false⟩) _ e2 rfl (H.at_ 0 rfl)).mono ?_; rintro e1 w5 ⟨rfl, hE, hsay⟩; replace H := H.blk 0 rfl hE hsay; simp only [List.set_cons_zero, List.set_cons_succ] at H; clear hE hsay))
          by_cases hz2 : e2 = 0
          · subst hz2
            have hrr : r = (d2.1, ⟨slot, log, t1, sq, o, 0, true, false⟩, 0) := by rw [HA.out, if_neg (by simp), if_neg (by simp)]
            have HR := Lib.hid hrr
            clear hrr
            simp only [jCells, ne_eq, not_true_eq_false, decide_false] at H
            go_wp2_with (first
              | (refine L_load1 rfl rfl H 0 rfl rfl rfl Tryz.isAgg3 ?_; (try simp only [Act.put, List.setIfInBounds_toArray, List.set_cons_succ, List.set_cons_zero, List.getElem_toArray, List.getElem_cons_succ, List.getElem_cons_zero])) | (refine L_store1 rfl rfl H 0 rfl rfl rfl rfl rfl (Nat.le_of_ble_eq_true rfl) Tryz.sizeOf3 ?_; clear H; intro w H; simp only [List.set_cons_zero, List.set_cons_succ, List.setIfInBounds_toArray, Act.eval, Array.getD_eq_getD_getElem?, List.getElem?_toArray, List.getElem?_cons_succ, List.getElem?_cons_zero, Option.getD_some] at H; (try simp only [Act.put, List.setIfInBounds_toArray, List.set_cons_succ, List.set_cons_zero, List.getElem_toArray, List.getElem_cons_succ, List.getElem_cons_zero])) | (refine L_store1 rfl rfl H 0 rfl rfl rfl rfl rfl (Nat.le_of_ble_eq_true rfl) Tryz.sizeOf4 ?_; clear H; intro w H; simp only [List.set_cons_zero, List.set_cons_succ, List.setIfInBounds_toArray, Act.eval, Array.getD_eq_getD_getElem?, List.getElem?_toArray, List.getElem?_cons_succ, List.getElem?_cons_zero, Option.getD_some] at H; (try simp only [Act.put, List.setIfInBounds_toArray, List.set_cons_succ, List.set_cons_zero, List.getElem_toArray, List.getElem_cons_succ, List.getElem_cons_zero])))
            go_ret
            rw [HR.out]
            exact JQE.of (j := ⟨slot, log, t1, sq, o, 0, true, false⟩) (k := 0) H hjb
          · have hrr : r = (d2.1, ⟨slot, log, ep, sq, pl, us, fr, true⟩, e2) := by rw [HA.out, if_neg (by simp), if_pos hz2]
            have HR := Lib.hid hrr
            have hz3 : (e2 != 0) = true := by simp [hz2]
            have hde : decide (e2 ≠ 0) = true := decide_eq_true hz2
            simp only [hde] at H
            clear hde hrr
            go_wp2_with fail
            go_ret
            rw [HR.out]
            exact JQE.of (k := e2) H hjb
        · have hrr : r = (d1.1, ⟨slot, log, ep, sq, pl, us, fr, true⟩, e1) := by rw [HA.out, if_pos hz1]
          have HR := Lib.hid hrr
          have hz3 : (e1 != 0) = true := by simp [hz1]
          have hde : decide (e1 ≠ 0) = true := decide_eq_true hz1
          simp only [hde] at H
          clear hde hrr
          go_wp2_with fail
          go_ret
          rw [HR.out]
          exact JQE.of (k := e1) H hjb
  · rw [show checkpointP d ⟨slot, log, ep, sq, pl, us, fr, true⟩ xs = (d, ⟨slot, log, ep, sq, pl, us, fr, true⟩, 10) from rfl]
    clear h hf hr hsq hmay hpl htp
    go_enter Tryz.func19, Tryz.ntmps19
    go_wp2_with fail
    go_ret
    exact JQE.of (k := 10) H hjb
end Go.Proofs.YtgmeahogdjhejaaGreatDoor
