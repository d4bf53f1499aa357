/- The document's journals: their block and disk as one assertion; did, Commit, Top. The document's journals: Top. -/
import Derived.Test.YtgmeahogdjhejaaGreatDoorWalSg
import Derived.Test.YtgmeahogdjhejaaGreatDoorWalY
namespace Go.Proofs.YtgmeahogdjhejaaGreatDoor
set_option linter.unusedVariables false
set_option linter.unusedSimpArgs false
open Go.RowKit Go.Shelf
open Rf (RefA)

/-- The document's journal and its disk. -/
def JQ (b jb : Nat) (S : Nat → Prop) (d : DS) (j : JS) : Asr where
  fp := fun i => S i ∨ i = jb
  says := fun w => (RefA b S d).says w ∧ w.heap[jb]? = some (.cells (jCells b j) 54 (0, 0)) ∧ ¬ S jb
  keep := fun w w' h hs => ⟨(RefA b S d).keep w w' (fun i hi => h i (.inl hi)) hs.1, (h jb (.inr rfl)).trans hs.2.1, hs.2.2⟩
section
variable {M : Nat → Prop} {w0 w : World} {L : List Asr} {b jb : Nat} {S : Nat → Prop} {d : DS} {j : JS}
theorem JQ.lt (h : (JQ b jb S d j).says w) {i : Nat} (hi : (JQ b jb S d j).fp i) : i < w.heap.size := by
  rcases hi with hi | rfl
  · exact Rf.RefA.lt h.1 i hi
  · exact blk_lt' h.2.1
theorem JQ.open_ (h : (JQ b jb S d j).says w) : SH (JQ b jb S d j).fp w w [pt jb (.cells (jCells b j) 54 (0, 0)), RefA b S d] := by
  refine ⟨Ext.refl _ _, fun A hA => ?_, fun A hA i hi => ?_, fun A hA i hi => ?_, ?_⟩
  · rcases List.mem_cons.1 hA with rfl | hA
    · exact h.2.1
    · rw [List.mem_singleton.1 hA]; exact h.1
  · rcases List.mem_cons.1 hA with rfl | hA
    · exact JQ.lt h (.inr hi)
    · rw [List.mem_singleton.1 hA] at hi; exact JQ.lt h (.inl hi)
  · rcases List.mem_cons.1 hA with rfl | hA
    · exact .inl (.inr hi)
    · rw [List.mem_singleton.1 hA] at hi; exact .inl (.inl hi)
  · refine List.pairwise_cons.2 ⟨fun A hA i hi hi' => ?_, List.pairwise_singleton _ _⟩
    rw [List.mem_singleton.1 hA] at hi'
    simp only [pt_fp] at hi
    subst hi
    exact h.2.2 hi'
theorem JQ.shut (H : SH M w0 w (pt jb (.cells (jCells b j) 54 (0, 0)) :: RefA b S d :: L)) : (JQ b jb S d j).says w :=
  ⟨H.get 1 rfl, H.get 0 rfl, fun hfp => (List.pairwise_cons.1 H.apart).1 _ List.mem_cons_self jb rfl hfp⟩
end
/-- What a method of the document's journal does. -/
def JQE (b jb : Nat) (S : Nat → Prop) (r : DS × JS × Int) (w : World) (e : Ending) (w' : World) : Prop :=
  e = .returned (.int .i64 r.2.2) ∧ ∃ S', Ext (fun i => S i ∨ i = jb) w w' ∧ (JQ b jb S' r.1 r.2.1).says w' ∧ ∀ i, S' i → S i ∨ w.heap.size ≤ i
theorem JQE.of {b jb : Nat} {S S' : Nat → Prop} {d : DS} {j : JS} {k : Int} {w w' : World} {L : List Asr} (H : SH (fun i => S i ∨ i = jb) w w' (pt jb (.cells (jCells b j) 54 (0, 0)) :: RefA b S' d :: L)) (hjb : jb < w.heap.size) : JQE b jb S (d, j, k) w (.returned (.int .i64 k)) w' := by
  refine ⟨rfl, S', H.ext, JQ.shut H, fun i hi => ?_⟩
  rcases H.own _ (List.mem_cons_of_mem _ List.mem_cons_self) i hi with h | h
  · rcases h with h | h
    · exact .inl h
    · exact absurd hi (by subst h; exact fun h9 => (List.pairwise_cons.1 H.apart).1 _ List.mem_cons_self i rfl h9)
  · exact .inr h
theorem SH.jq {b jb : Nat} {S S' : Nat → Prop} {d d' : DS} {j j' : JS} {M : Nat → Prop} {w0 w w' : World} {L : List Asr} (H : SH M w0 w L) (k : Nat) (hk : L[k]? = some (JQ b jb S d j)) (he : Ext (fun i => S i ∨ i = jb) w w') (hs : (JQ b jb S' d' j').says w') (hS : ∀ i, S' i → S i ∨ w.heap.size ≤ i) : SH M w0 w' (L.set k (JQ b jb S' d' j')) :=
  H.upd k hk he hs (fun i hi => ⟨hi.elim (fun h => (hS i h).elim (fun h => .inl (.inl h)) .inr) (fun h => .inl (.inr h)), JQ.lt hs hi⟩)
set_option maxRecDepth 100000 in
theorem did_any {b jb : Nat} {j : JS} (w : World) (e : Int) (hre : j.refused = false) (h : w.heap[jb]? = some (.cells (jCells b j) 54 (0, 0))) :
    Calls Tryz.prog 49 #[.pointer (some ⟨jb, 0, none⟩), .int .i64 e] w fun e' w' => e' = .returned (.int .i64 e) ∧ Ext (fun i => i = jb) w w' ∧ w'.heap[jb]? = some (.cells (jCells b { j with refused := decide (e ≠ 0) }) 54 (0, 0)) := by
  obtain ⟨slot, log, ep, sq, pl, us, fr, re⟩ := j
  simp only at hre
  subst hre
  have H : SH (fun i => i = jb) w w [pt jb (.cells (jCells b ⟨slot, log, ep, sq, pl, us, fr, false⟩) 54 (0, 0))] :=
    ⟨Ext.refl _ _, fun A hA => by rw [List.mem_singleton.1 hA]; exact h, fun A hA i hi => by rw [List.mem_singleton.1 hA] at hi; simp only [pt_fp] at hi; subst hi; exact blk_lt' h, fun A hA i hi => by rw [List.mem_singleton.1 hA] at hi; exact .inl hi, List.pairwise_singleton _ _⟩
  have hc := cell_of_row w jb 8 _ _ _ h
  simp only [jCells, List.getElem?_toArray, List.getElem?_cons_succ, List.getElem?_cons_zero] at hc H
  by_cases he : e = 0
  · subst he
    go_enter Tryz.func49, Tryz.ntmps49
    go_wp2_with (first
      | (refine L_load1 rfl rfl H 0 rfl rfl rfl Tryz.isAgg4 ?_; (try simp only [Act.put, List.setIfInBounds_toArray, List.set_cons_succ, List.set_cons_zero, List.getElem_toArray, List.getElem_cons_succ, List.getElem_cons_zero])) | (refine L_store1 rfl rfl H 0 rfl rfl rfl rfl rfl (Nat.le_of_ble_eq_true rfl) Tryz.sizeOf4 ?_; clear H; intro w H; simp only [List.set_cons_zero, List.set_cons_succ, List.setIfInBounds_toArray, Act.eval, Array.getD_eq_getD_getElem?, List.getElem?_toArray, List.getElem?_cons_succ, List.getElem?_cons_zero, Option.getD_some] at H; (try simp only [Act.put, List.setIfInBounds_toArray, List.set_cons_succ, List.set_cons_zero, List.getElem_toArray, List.getElem_cons_succ, List.getElem_cons_zero])))
    go_ret
    exact ⟨rfl, H.ext, H.at_ 0 rfl⟩
  · have he2 : (e != 0) = true := by simp [he]
    rw [show decide (e ≠ 0) = true from decide_eq_true he]
    go_enter Tryz.func49, Tryz.ntmps49
    go_wp2_with (first
      | (refine L_load1 rfl rfl H 0 rfl rfl rfl Tryz.isAgg4 ?_; (try simp only [Act.put, List.setIfInBounds_toArray, List.set_cons_succ, List.set_cons_zero, List.getElem_toArray, List.getElem_cons_succ, List.getElem_cons_zero])) | (refine L_store1 rfl rfl H 0 rfl rfl rfl rfl rfl (Nat.le_of_ble_eq_true rfl) Tryz.sizeOf4 ?_; clear H; intro w H; simp only [List.set_cons_zero, List.set_cons_succ, List.setIfInBounds_toArray, Act.eval, Array.getD_eq_getD_getElem?, List.getElem?_toArray, List.getElem?_cons_succ, List.getElem?_cons_zero, Option.getD_some] at H; (try simp only [Act.put, List.setIfInBounds_toArray, List.set_cons_succ, List.set_cons_zero, List.getElem_toArray, List.getElem_cons_succ, List.getElem_cons_zero])))
    go_ret
    exact ⟨rfl, H.ext, H.at_ 0 rfl⟩
set_option maxRecDepth 100000 in
set_option maxHeartbeats 4000000 in
theorem refCommit_any {b jb : Nat} {S : Nat → Prop} {d : DS} {j : JS} {W0 : Int} (w0 : World) (h : (JQ b jb S d j).says w0) (hf : d.Fine W0) : Calls Tryz.prog 17 #[.pointer (some ⟨jb, 0, none⟩)] w0 (JQE b jb S (commitP d j) w0) := by
  have H := JQ.open_ h
  have hjb := blk_lt' h.2.1
  have H : SH (fun i => S i ∨ i = jb) w0 w0 [pt jb (.cells (jCells b j) 54 (0, 0)), RefA b S d] := H
  obtain ⟨slot, log, ep, sq, pl, us, fr, re⟩ := j
  have hc7 := cell_of_row w0 jb 7 _ _ _ h.2.1
  have hc8 := cell_of_row w0 jb 8 _ _ _ h.2.1
  simp only [jCells, List.getElem?_toArray, List.getElem?_cons_succ, List.getElem?_cons_zero] at hc7 hc8
  cases re
  · cases fr
    · rw [show commitP d ⟨slot, log, ep, sq, pl, us, false, false⟩ = (d, ⟨slot, log, ep, sq, pl, us, false, false⟩, 9) from rfl]
      clear h hf
      go_enter Tryz.func17, Tryz.ntmps17
      go_wp2_with fail
      go_ret
      exact JQE.of (k := 9) H hjb
    · have hap : commitP d ⟨slot, log, ep, sq, pl, us, true, false⟩ = (d.flushR.1, ⟨slot, log, ep, sq, pl, us, true, decide (d.flushR.2 ≠ 0)⟩, d.flushR.2) := rfl
      have hfl := fun {w : World} (hD : (RefA b S d).says w) => refFlush_E hD hf
      unfold RfE at hfl
      rw [hap]
      obtain ⟨d1, hd1⟩ : ∃ d1, d.flushR = d1 := ⟨_, rfl⟩
      rw [hd1] at hfl ⊢
      obtain ⟨e1, he1⟩ : ∃ e1, d1.2 = e1 := ⟨_, rfl⟩
      simp only [he1] at hfl ⊢
      clear h hf hap hd1 he1
      simp only [jCells] at H
      go_enter Tryz.func17, Tryz.ntmps17
      go_upto_region 5 with fail
      clear hc7 hc8
      go_wp2_with (first
        | (refine L_load1 rfl rfl H 0 rfl rfl rfl Tryz.isAgg26 ?_; (try simp only [Act.put, List.setIfInBounds_toArray, List.set_cons_succ, List.set_cons_zero, List.getElem_toArray, List.getElem_cons_succ, List.getElem_cons_zero]))
        | (go_at_call 36; refine (hfl (H.get 1 rfl)).mono ?_; rintro e1 w4 ⟨rfl, S2, hE, hsay, hS2⟩; replace H := H.refTo 1 rfl hE hsay hS2; simp only [List.set_cons_zero, List.set_cons_succ] at H; clear hE hsay hS2)
        | (go_at_call 49; refine (did_any (b := b) (j := ⟨slot, log, ep, sq, pl, us, true, false⟩) _ e1 rfl (H.at_ 0 rfl)).mono ?_; rintro e1 w5 ⟨rfl, hE, hsay⟩; replace H := H.blk 0 rfl hE hsay; simp only [List.set_cons_zero, List.set_cons_succ] at H; clear hE hsay))
      go_ret
      exact JQE.of (k := e1) H hjb
  · rw [show commitP d ⟨slot, log, ep, sq, pl, us, fr, true⟩ = (d, ⟨slot, log, ep, sq, pl, us, fr, true⟩, 10) from rfl]
    clear h hf
    go_enter Tryz.func17, Tryz.ntmps17
    go_wp2_with fail
    go_ret
    exact JQE.of (k := 10) H hjb
end Go.Proofs.YtgmeahogdjhejaaGreatDoor

namespace Go.Proofs.YtgmeahogdjhejaaGreatDoor
set_option linter.unusedVariables false
set_option linter.unusedSimpArgs false
open Go.RowKit Go.Shelf
open Rf (RefA)

def TopR (d : DS) (n : Nat) (w0 : World) (v3 v4 : Value) (wr : World) : Prop :=
  ∃ i : Nat, v4 = .int .i64 (i : Int) ∧ v3 = .int .i64 (topP d i) ∧ i ≤ n ∧ Ext0 w0 wr
theorem epoch4 (s : List Int) (hl : s.length = 32) : epochP s = s[24] * (16777216 : Int) + s[25] * (65536 : Int) + s[26] * (256 : Int) + s[27] := by
  match s, hl with
  | [_, _, _, _, _, _, _, _, _, _, _, _, _, _, _, _, _, _, _, _, _, _, _, _, a, b, c, d, _, _, _, _], _ =>
    show ((((0 * 256 + a) * 256 + b) * 256 + c) * 256 + d) = a * 16777216 + b * 65536 + c * 256 + d
    omega
set_option maxRecDepth 100000 in
set_option maxHeartbeats 8000000 in
theorem refTop_any {b jb : Nat} {S : Nat → Prop} {d : DS} {j : JS} {W0 : Int} (w0 : World) (h : (JQ b jb S d j).says w0) (hf : d.Fine W0) (hn : 2 * j.slot + j.log ≤ d.sure.length) :
    Calls Tryz.prog 52 #[.pointer (some ⟨jb, 0, none⟩)] w0 fun e w' => e = .returned (.int .i64 (topP d (2 * j.slot + j.log))) ∧ Ext0 w0 w' := by
  have hlen := hf.len
  obtain ⟨slot, log, ep, sq, pl, us, fr, re⟩ := j
  simp only at hn ⊢
  have hc0 := cell_of_row w0 jb 0 _ _ _ h.2.1
  have hc1 := cell_of_row w0 jb 1 _ _ _ h.2.1
  have hc2 := cell_of_row w0 jb 2 _ _ _ h.2.1
  simp only [jCells, List.getElem?_toArray, List.getElem?_cons_succ, List.getElem?_cons_zero] at hc0 hc1 hc2
  have hc0' := fun {W : World} (e : Ext0 w0 W) => e.cell hc0 (fun h => h)
  have hc1' := fun {W : World} (e : Ext0 w0 W) => e.cell hc1 (fun h => h)
  have hc2' := fun {W : World} (e : Ext0 w0 W) => e.cell hc2 (fun h => h)
  obtain ⟨r, hr, HS⟩ := Rf.RefA.opens h.1
  obtain ⟨hcg, _⟩ := Rf.RM.cellsAt (L := []) (by simpa using HS)
  have hgl := hr.gl
  have hsh := Rf.row_shape (HS.get 1 rfl)
  have hbv := HS.get 6 (A := Rf.bytesA r.bv) rfl
  have hcg' := fun {W : World} (e : Ext0 w0 W) => e.cell hcg (fun h => h)
  obtain ⟨v1, hv1⟩ : ∃ v1, r.v1 = v1 := ⟨_, rfl⟩
  rw [hv1] at hcg' hsh
  obtain ⟨n, hnn⟩ : ∃ n, 2 * slot + log = n := ⟨_, rfl⟩
  have hws : IntKind.i64.wrap (2 * (slot : Int)) = 2 * (slot : Int) := by rw [IntKind.wrap_i64]; omega
  have hwn : IntKind.i64.wrap (2 * (slot : Int) + (log : Int)) = (n : Int) := by rw [IntKind.wrap_i64]; omega
  rw [hnn] at hn ⊢
  have HF := Lib.hid (And.intro hf (And.intro hr (And.intro hbv (And.intro hgl hsh))))
  have H0 : Ext0 w0 w0 := Ext.refl _ _
  have hst : TopR d n w0 (.int .i64 0) (.int .i64 0) w0 := ⟨0, rfl, rfl, Nat.zero_le _, H0⟩
  clear hf hr hbv hgl hsh h HS hcg hv1 hc0 hc1 hc2 hnn H0
  go_enter Tryz.func52, Tryz.ntmps52
  go_wp2_with fail
  go_loopw [3, 4] (fun v3 v4 wr => TopR d n w0 v3 v4 wr) (fun _ vi _ => n - (intOf vi).toNat)
  case atStart => exact hst
  case round =>
    clear hst
    obtain ⟨i, rfl, rfl, hi, hE⟩ := hrel
    have hD := SH.nil (fun _ => False) wr
    go_upto_region 3 with fail
    refine D_start hD (by kernel_rfl) (fun hS => ?_)
    try simp only [Act.put, List.setIfInBounds_toArray, List.set_cons_succ, List.set_cons_zero]
    refine D_take 0 (v := ?_) rfl (by kernel_rfl) (by kernel_rfl) (by kernel_rfl) (fun _ _ _ h => h) rfl (by rfl) (fun W hS => ?_) hS ?_
    rotate_left; (focus (first | (go_simp; done) | (go_simp; with_reducible rfl) | (go_simp; rfl))); all_goals skip; (try simp only [List.set_cons_succ, List.set_cons_zero])
    refine D_take 1 (v := ?_) rfl (by kernel_rfl) (by kernel_rfl) (by kernel_rfl) (fun _ _ _ h => h) rfl (by rfl) (fun W hS => ?_) hS ?_
    rotate_left; (focus (first | (go_simp; done) | (go_simp; with_reducible rfl) | (go_simp; rfl))); all_goals skip; (try simp only [List.set_cons_succ, List.set_cons_zero])
    refine D_take 2 (v := ?_) rfl (by kernel_rfl) (by kernel_rfl) (by kernel_rfl) (fun _ _ _ h => h) rfl (by rfl) (fun W hS => ?_) hS ?_
    rotate_left; (focus (first | (go_simp; done) | (go_simp; with_reducible rfl) | (go_simp; rfl))); all_goals skip; (try simp only [List.set_cons_succ, List.set_cons_zero])
    refine D_take 3 (v := ?_) rfl (by kernel_rfl) (by kernel_rfl) (by kernel_rfl) (fun _ _ _ h => h) rfl (by rfl) (fun W hS => ?_) hS ?_
    rotate_left; (focus (first | (go_simp; done) | (go_simp; with_reducible rfl) | (go_simp; rfl))); all_goals skip; (try simp only [List.set_cons_succ, List.set_cons_zero])
    refine D_take 4 (v := (.int .i64 (slot : Int))) rfl (by kernel_rfl) (by kernel_rfl) (by kernel_rfl) (fun _ _ _ h => h) rfl (by rfl) (fun W hS => R_loadCellW (ty := 3) (x := .tmp 10) rfl rfl (hc1' (hE.trans0 hS.ext)) Tryz.isAgg3) hS ?_; (try simp only [List.set_cons_succ, List.set_cons_zero])
    refine D_take 5 (v := ?_) rfl (by kernel_rfl) (by kernel_rfl) (by kernel_rfl) (fun _ _ _ h => h) rfl (by rfl) (fun W hS => ?_) hS ?_
    rotate_left; (focus (first | (go_simp; done) | (go_simp; with_reducible rfl) | (go_simp; rfl))); all_goals skip; (try simp only [List.set_cons_succ, List.set_cons_zero])
    refine D_take 6 (v := ?_) rfl (by kernel_rfl) (by kernel_rfl) (by kernel_rfl) (fun _ _ _ h => h) rfl (by rfl) (fun W hS => ?_) hS ?_
    rotate_left; (focus (first | (go_simp; done) | (go_simp; with_reducible rfl) | (go_simp; rfl))); all_goals skip; (try simp only [List.set_cons_succ, List.set_cons_zero])
    refine D_take 7 (v := ?_) rfl (by kernel_rfl) (by kernel_rfl) (by kernel_rfl) (fun _ _ _ h => h) rfl (by rfl) (fun W hS => ?_) hS ?_
    rotate_left; (focus (first | (go_simp; done) | (go_simp; with_reducible rfl) | (go_simp; rfl))); all_goals skip; (try simp only [List.set_cons_succ, List.set_cons_zero])
    refine D_take 8 (v := ?_) rfl (by kernel_rfl) (by kernel_rfl) (by kernel_rfl) (fun _ _ _ h => h) rfl (by rfl) (fun W hS => ?_) hS ?_
    rotate_left; (focus (first | (go_simp; done) | (go_simp; with_reducible rfl) | (go_simp; rfl))); all_goals skip; (try simp only [List.set_cons_succ, List.set_cons_zero])
    refine D_take 9 (v := (.int .i64 (log : Int))) rfl (by kernel_rfl) (by kernel_rfl) (by kernel_rfl) (fun _ _ _ h => h) rfl (by rfl) (fun W hS => R_loadCellW (ty := 3) (x := .tmp 15) rfl rfl (hc2' (hE.trans0 hS.ext)) Tryz.isAgg3) hS ?_; (try simp only [List.set_cons_succ, List.set_cons_zero])
    refine D_take 10 (v := ?_) rfl (by kernel_rfl) (by kernel_rfl) (by kernel_rfl) (fun _ _ _ h => h) rfl (by rfl) (fun W hS => ?_) hS ?_
    rotate_left; (focus (first | (go_simp; done) | (go_simp; with_reducible rfl) | (go_simp; rfl))); all_goals skip; (try simp only [List.set_cons_succ, List.set_cons_zero])
    refine D_take 11 (v := ?_) rfl (by kernel_rfl) (by kernel_rfl) (by kernel_rfl) (fun _ _ _ h => h) rfl (by rfl) (fun W hS => ?_) hS ?_
    rotate_left; (focus (first | (go_simp; done) | (go_simp; with_reducible rfl) | (go_simp; rfl))); all_goals skip; (try simp only [List.set_cons_succ, List.set_cons_zero])
    refine wpAnyH_done (by kernel_rfl) ?_ _
    have hE1 := hE.trans0 hS.ext
    clear hE hD hS
    generalize wr.drew = wx at *
    by_cases hin : i < n
    · have hini : (i : Int) < (n : Int) := by omega
      have hwi : IntKind.i64.wrap ((i : Int) + 1) = ((i + 1 : Nat) : Int) := by rw [IntKind.wrap_i64]; omega
      have hil : i < r.gs.length := by rw [HF.out.2.2.2.1]; omega
      rcases HF.out.2.2.2.2 with ⟨h0, _⟩ | ⟨g, c, rfl, hcell⟩
      · rw [h0] at hil; cases hil
      have hcD := hc0' hE1
      have hcG := hcg' hE1
      have hcE := hE1.cell (hcell i hil).1 (fun h => h)
      have hrk := (HF.out.2.2.1 _ (HF.out.2.1.g i hil))
      have hse : (d.is (i : Int)).bytes = d.sec i := rfl
      rw [hse] at hrk
      have hsl := DS.sec_len HF.out.1 (i := i) (by omega)
      have hsb := DS.sec_bytes HF.out.1 (i := i) (by omega)
      have hmx : topP d (i + 1) = max (topP d i) (epochP (d.sec i)) := by unfold topP; rw [List.range_succ, List.foldl_append]; rfl
      have htu := top_u32 HF.out.1 i (by omega)
      obtain ⟨xs, hxs⟩ : ∃ xs, d.sec i = xs := ⟨_, rfl⟩
      rw [hxs] at hrk hsl hsb hmx
      obtain ⟨gk, hgk⟩ : ∃ gk, r.gs[i] = gk := ⟨_, rfl⟩
      rw [hgk] at hcE hrk
      simp only at hrk
      obtain ⟨bb, off, hA, hcells⟩ : ∃ bb off, ∃ hA : ∃ c, gk = .slice (some ⟨bb, off, none⟩) 32 c, ∀ k (hk : k < xs.length), w0.cell? ⟨bb, off + k, none⟩ = some (.int .u8 xs[k]) := by
        obtain ⟨Ak, ck, rfl, _⟩ := hrk.len
        obtain ⟨bb, off, rfl, hcs⟩ := byte_cell hrk (j := 0) (by omega)
        exact ⟨bb, off, ⟨ck, by rw [hsl]⟩, hcs⟩
      obtain ⟨ck, rfl⟩ := hA
      rw [epoch4 xs hsl] at hmx
      have hb24 := hsb xs[24] (List.getElem_mem _)
      have hb25 := hsb xs[25] (List.getElem_mem _)
      have hb26 := hsb xs[26] (List.getElem_mem _)
      have hb27 := hsb xs[27] (List.getElem_mem _)
      have hk24 := fun {W : World} (e : Ext0 w0 W) => e.cell (hcells 24 (by omega)) (fun h => h)
      have hk25 := fun {W : World} (e : Ext0 w0 W) => e.cell (hcells 25 (by omega)) (fun h => h)
      have hk26 := fun {W : World} (e : Ext0 w0 W) => e.cell (hcells 26 (by omega)) (fun h => h)
      have hk27 := fun {W : World} (e : Ext0 w0 W) => e.cell (hcells 27 (by omega)) (fun h => h)
      obtain ⟨x4, hx4⟩ : ∃ x, xs[24] = x := ⟨_, rfl⟩
      obtain ⟨x5, hx5⟩ : ∃ x, xs[25] = x := ⟨_, rfl⟩
      obtain ⟨x6, hx6⟩ : ∃ x, xs[26] = x := ⟨_, rfl⟩
      obtain ⟨x7, hx7⟩ : ∃ x, xs[27] = x := ⟨_, rfl⟩
      rw [hx4] at hk24 hb24 hmx
      rw [hx5] at hk25 hb25 hmx
      rw [hx6] at hk26 hb26 hmx
      rw [hx7] at hk27 hb27 hmx
      have hv4 : IntKind.i64.wrap x4 = x4 := by rw [IntKind.wrap_i64]; omega
      have hv5 : IntKind.i64.wrap x5 = x5 := by rw [IntKind.wrap_i64]; omega
      have hv6 : IntKind.i64.wrap x6 = x6 := by rw [IntKind.wrap_i64]; omega
      have hv7 : IntKind.i64.wrap x7 = x7 := by rw [IntKind.wrap_i64]; omega
      have hm4 : IntKind.i64.wrap (x4 * 16777216) = x4 * 16777216 := by rw [IntKind.wrap_i64]; omega
      have hm5 : IntKind.i64.wrap (x5 * 65536) = x5 * 65536 := by rw [IntKind.wrap_i64]; omega
      have hm6 : IntKind.i64.wrap (x6 * 256) = x6 * 256 := by rw [IntKind.wrap_i64]; omega
      have hs1 : IntKind.i64.wrap (x4 * 16777216 + x5 * 65536) = x4 * 16777216 + x5 * 65536 := by rw [IntKind.wrap_i64]; omega
      have hs2 : IntKind.i64.wrap (x4 * 16777216 + x5 * 65536 + x6 * 256) = x4 * 16777216 + x5 * 65536 + x6 * 256 := by rw [IntKind.wrap_i64]; omega
      obtain ⟨z, hz⟩ : ∃ z, x4 * 16777216 + x5 * 65536 + x6 * 256 + x7 = z := ⟨_, rfl⟩
      have hs3 : IntKind.i64.wrap (x4 * 16777216 + x5 * 65536 + x6 * 256 + x7) = z := by rw [hz, IntKind.wrap_i64]; omega
      rw [hz] at hmx
      obtain ⟨m, hm⟩ : ∃ m, r.gs.length = m := ⟨_, rfl⟩
      rw [hm] at hcG hil
      obtain ⟨t, ht⟩ : ∃ t, topP d i = t := ⟨_, rfl⟩
      rw [ht] at hmx htu ⊢
      have hilm : (i : Int) < (m : Int) := by omega
      have HM := Lib.hid hmx
      clear hmx hcells hsb hsl hse hxs hgk hx4 hx5 hx6 hx7 hrk hcell hz hm ht
      go_upto_region 6 with fail
      clear hcD hcG hcE
      have hD := SH.nil (fun _ => False) wx
      refine D_start hD (by kernel_rfl) (fun hS => ?_)
      try simp only [Act.put, List.setIfInBounds_toArray, List.set_cons_succ, List.set_cons_zero]
      refine D_take 0 (v := ?_) rfl (by kernel_rfl) (by kernel_rfl) (by kernel_rfl) (fun _ _ _ h => h) rfl (by rfl) (fun W hS => ?_) hS ?_
      rotate_left; (focus (first | (go_simp; done) | (go_simp; with_reducible rfl) | (go_simp; rfl))); all_goals skip; (try simp only [List.set_cons_succ, List.set_cons_zero])
      refine D_take 1 (v := ?_) rfl (by kernel_rfl) (by kernel_rfl) (by kernel_rfl) (fun _ _ _ h => h) rfl (by rfl) (fun W hS => ?_) hS ?_
      rotate_left; (focus (first | (go_simp; done) | (go_simp; with_reducible rfl) | (go_simp; rfl))); all_goals skip; (try simp only [List.set_cons_succ, List.set_cons_zero])
      refine D_take 2 (v := (.int .u8 x4)) rfl (by kernel_rfl) (by kernel_rfl) (by kernel_rfl) (fun _ _ _ h => h) rfl (by rfl) (fun W hS => R_loadCellW (ty := 5) (x := .tmp 32) rfl rfl (hk24 (hE1.trans0 hS.ext)) Tryz.isAgg5) hS ?_; (try simp only [List.set_cons_succ, List.set_cons_zero])
      refine D_take 3 (v := ?_) rfl (by kernel_rfl) (by kernel_rfl) (by kernel_rfl) (fun _ _ _ h => h) rfl (by rfl) (fun W hS => ?_) hS ?_
      rotate_left; (focus (first | (go_simp; done) | (go_simp; with_reducible rfl) | (go_simp; rfl))); all_goals skip; (try simp only [List.set_cons_succ, List.set_cons_zero])
      refine D_take 4 (v := ?_) rfl (by kernel_rfl) (by kernel_rfl) (by kernel_rfl) (fun _ _ _ h => h) rfl (by rfl) (fun W hS => ?_) hS ?_
      rotate_left; (focus (first | (go_simp; done) | (go_simp; with_reducible rfl) | (go_simp; rfl))); all_goals skip; (try simp only [List.set_cons_succ, List.set_cons_zero])
      refine D_take 5 (v := ?_) rfl (by kernel_rfl) (by kernel_rfl) (by kernel_rfl) (fun _ _ _ h => h) rfl (by rfl) (fun W hS => ?_) hS ?_
      rotate_left; (focus (first | (go_simp; done) | (go_simp; with_reducible rfl) | (go_simp; rfl))); all_goals skip; (try simp only [List.set_cons_succ, List.set_cons_zero])
      refine D_take 6 (v := ?_) rfl (by kernel_rfl) (by kernel_rfl) (by kernel_rfl) (fun _ _ _ h => h) rfl (by rfl) (fun W hS => ?_) hS ?_
      rotate_left; (focus (first | (go_simp; done) | (go_simp; with_reducible rfl) | (go_simp; rfl))); all_goals skip; (try simp only [List.set_cons_succ, List.set_cons_zero])
      refine D_take 7 (v := (.int .u8 x5)) rfl (by kernel_rfl) (by kernel_rfl) (by kernel_rfl) (fun _ _ _ h => h) rfl (by rfl) (fun W hS => R_loadCellW (ty := 5) (x := .tmp 37) rfl rfl (hk25 (hE1.trans0 hS.ext)) Tryz.isAgg5) hS ?_; (try simp only [List.set_cons_succ, List.set_cons_zero])
      refine D_take 8 (v := ?_) rfl (by kernel_rfl) (by kernel_rfl) (by kernel_rfl) (fun _ _ _ h => h) rfl (by rfl) (fun W hS => ?_) hS ?_
      rotate_left; (focus (first | (go_simp; done) | (go_simp; with_reducible rfl) | (go_simp; rfl))); all_goals skip; (try simp only [List.set_cons_succ, List.set_cons_zero])
      refine D_take 9 (v := ?_) rfl (by kernel_rfl) (by kernel_rfl) (by kernel_rfl) (fun _ _ _ h => h) rfl (by rfl) (fun W hS => ?_) hS ?_
      rotate_left; (focus (first | (go_simp; done) | (go_simp; with_reducible rfl) | (go_simp; rfl))); all_goals skip; (try simp only [List.set_cons_succ, List.set_cons_zero])
      refine D_take 10 (v := ?_) rfl (by kernel_rfl) (by kernel_rfl) (by kernel_rfl) (fun _ _ _ h => h) rfl (by rfl) (fun W hS => ?_) hS ?_
      rotate_left; (focus (first | (go_simp; done) | (go_simp; with_reducible rfl) | (go_simp; rfl))); all_goals skip; (try simp only [List.set_cons_succ, List.set_cons_zero])
      refine D_take 11 (v := ?_) rfl (by kernel_rfl) (by kernel_rfl) (by kernel_rfl) (fun _ _ _ h => h) rfl (by rfl) (fun W hS => ?_) hS ?_
      rotate_left; (focus (first | (go_simp; done) | (go_simp; with_reducible rfl) | (go_simp; rfl))); all_goals skip; (try simp only [List.set_cons_succ, List.set_cons_zero])
      refine D_take 12 (v := ?_) rfl (by kernel_rfl) (by kernel_rfl) (by kernel_rfl) (fun _ _ _ h => h) rfl (by rfl) (fun W hS => ?_) hS ?_
      rotate_left; (focus (first | (go_simp; done) | (go_simp; with_reducible rfl) | (go_simp; rfl))); all_goals skip; (try simp only [List.set_cons_succ, List.set_cons_zero])
      refine D_take 13 (v := (.int .u8 x6)) rfl (by kernel_rfl) (by kernel_rfl) (by kernel_rfl) (fun _ _ _ h => h) rfl (by rfl) (fun W hS => R_loadCellW (ty := 5) (x := .tmp 43) rfl rfl (hk26 (hE1.trans0 hS.ext)) Tryz.isAgg5) hS ?_; (try simp only [List.set_cons_succ, List.set_cons_zero])
      refine D_take 14 (v := ?_) rfl (by kernel_rfl) (by kernel_rfl) (by kernel_rfl) (fun _ _ _ h => h) rfl (by rfl) (fun W hS => ?_) hS ?_
      rotate_left; (focus (first | (go_simp; done) | (go_simp; with_reducible rfl) | (go_simp; rfl))); all_goals skip; (try simp only [List.set_cons_succ, List.set_cons_zero])
      refine D_take 15 (v := ?_) rfl (by kernel_rfl) (by kernel_rfl) (by kernel_rfl) (fun _ _ _ h => h) rfl (by rfl) (fun W hS => ?_) hS ?_
      rotate_left; (focus (first | (go_simp; done) | (go_simp; with_reducible rfl) | (go_simp; rfl))); all_goals skip; (try simp only [List.set_cons_succ, List.set_cons_zero])
      refine D_take 16 (v := ?_) rfl (by kernel_rfl) (by kernel_rfl) (by kernel_rfl) (fun _ _ _ h => h) rfl (by rfl) (fun W hS => ?_) hS ?_
      rotate_left; (focus (first | (go_simp; done) | (go_simp; with_reducible rfl) | (go_simp; rfl))); all_goals skip; (try simp only [List.set_cons_succ, List.set_cons_zero])
      refine D_take 17 (v := ?_) rfl (by kernel_rfl) (by kernel_rfl) (by kernel_rfl) (fun _ _ _ h => h) rfl (by rfl) (fun W hS => ?_) hS ?_
      rotate_left; (focus (first | (go_simp; done) | (go_simp; with_reducible rfl) | (go_simp; rfl))); all_goals skip; (try simp only [List.set_cons_succ, List.set_cons_zero])
      refine D_take 18 (v := ?_) rfl (by kernel_rfl) (by kernel_rfl) (by kernel_rfl) (fun _ _ _ h => h) rfl (by rfl) (fun W hS => ?_) hS ?_
      rotate_left; (focus (first | (go_simp; done) | (go_simp; with_reducible rfl) | (go_simp; rfl))); all_goals skip; (try simp only [List.set_cons_succ, List.set_cons_zero])
      refine D_take 19 (v := (.int .u8 x7)) rfl (by kernel_rfl) (by kernel_rfl) (by kernel_rfl) (fun _ _ _ h => h) rfl (by rfl) (fun W hS => R_loadCellW (ty := 5) (x := .tmp 49) rfl rfl (hk27 (hE1.trans0 hS.ext)) Tryz.isAgg5) hS ?_; (try simp only [List.set_cons_succ, List.set_cons_zero])
      refine D_take 20 (v := ?_) rfl (by kernel_rfl) (by kernel_rfl) (by kernel_rfl) (fun _ _ _ h => h) rfl (by rfl) (fun W hS => ?_) hS ?_
      rotate_left; (focus (first | (go_simp; done) | (go_simp; with_reducible rfl) | (go_simp; rfl))); all_goals skip; (try simp only [List.set_cons_succ, List.set_cons_zero])
      refine D_take 21 (v := ?_) rfl (by kernel_rfl) (by kernel_rfl) (by kernel_rfl) (fun _ _ _ h => h) rfl (by rfl) (fun W hS => ?_) hS ?_
      rotate_left; (focus (first | (go_simp; done) | (go_simp; with_reducible rfl) | (go_simp; rfl))); all_goals skip; (try simp only [List.set_cons_succ, List.set_cons_zero])
      refine D_take 22 (v := ?_) rfl (by kernel_rfl) (by kernel_rfl) (by kernel_rfl) (fun _ _ _ h => h) rfl (by rfl) (fun W hS => ?_) hS ?_
      rotate_left; (focus (first | (go_simp; done) | (go_simp; with_reducible rfl) | (go_simp; rfl))); all_goals skip; (try simp only [List.set_cons_succ, List.set_cons_zero])
      refine wpAnyH_done (by kernel_rfl) ?_ _
      by_cases hgt : t < z
      · go_wp2_with fail
        go_roundw
        case rel => exact ⟨i + 1, by go_num, by rw [HM.out, Int.max_eq_right (by omega)], by omega, hE1.trans0 hS.ext⟩
        case measure => simp [intOf]; omega
      · go_wp2_with fail
        go_roundw
        case rel => exact ⟨i + 1, by go_num, by rw [HM.out, Int.max_eq_left (by omega)], by omega, hE1.trans0 hS.ext⟩
        case measure => simp [intOf]; omega
    · obtain rfl : i = n := by omega
      have hini : ¬ (i : Int) < (i : Int) := by omega
      go_wp2_with fail
      go_ret
      exact ⟨rfl, hE1⟩
end Go.Proofs.YtgmeahogdjhejaaGreatDoor
