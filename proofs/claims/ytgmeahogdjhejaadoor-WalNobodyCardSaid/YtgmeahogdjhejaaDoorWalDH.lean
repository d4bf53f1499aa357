/- The disk of the program: Crash. -/
import Derived.Test.YtgmeahogdjhejaaDoorWalDG
import Derived.Test.YtgmeahogdjhejaaDoorSlice
namespace Go.Proofs.YtgmeahogdjhejaaDoor
set_option linter.unusedVariables false
set_option linter.unusedSimpArgs false
open Go.RowKit
open Go.Sort (setMany size_setMany)

theorem R_call {P : Program} {a : Act} {w : World} {o : Oper} {f : FuncId} {args : Array Value} {K : Act → World → Prop} {Q : Exit → Act → World → Prop} {R : Ending → World → Prop} (hr : (execOp a.eval o).run P w = .ok (.enter f args) w) (hc : Calls P f args w R)
    (hk : ∀ e w', R e w' → ∃ v, e = .returned v ∧ K (a.put o.dst v) w') : o.wp P a w K Q := by
  unfold Oper.wp
  rw [hr, Oper.upon_enter]
  refine hc.mono fun e w' h => ?_
  obtain ⟨v, rfl, hK⟩ := hk e w' h
  exact hK

theorem sortedKeys_perm {V : Type} (es : List (Int × V)) : (sortedKeys es).Perm (es.map (·.1)) := List.mergeSort_perm _ _
theorem sortedKeys_length {V : Type} (es : List (Int × V)) : (sortedKeys es).length = es.length := by rw [(sortedKeys_perm es).length_eq]; simp
theorem sortedKeys_at {V : Type} (es : List (Int × V)) (k : Nat) (hk : k < es.length) : ∃ v, ((sortedKeys es).getD k 0, v) ∈ es := by
  have hm : (sortedKeys es).getD k 0 ∈ sortedKeys es := by
    rw [List.getD_eq_getElem?_getD, List.getElem?_eq_getElem (by rw [sortedKeys_length]; exact hk)]
    exact List.getElem_mem _
  have := (sortedKeys_perm es).subset hm
  obtain ⟨p, hp, e⟩ := List.mem_map.1 this
  exact ⟨p.2, by rw [← e]; exact hp⟩

/-- The sectors behind the first n keys of a crash. -/
def crashTo (d : DS) (keep torn cut : Int) : Nat → List St
  | 0 => d.sure
  | n + 1 => (crashTo d keep torn cut n).set ((sortedKeys d.pend).getD n 0).toNat (surv ((crashTo d keep torn cut n).getD ((sortedKeys d.pend).getD n 0).toNat St.zero) ((getE d.pend ((sortedKeys d.pend).getD n 0)).getD St.zero) n keep torn cut)
def DS.crash (d : DS) (keep torn cut : Int) : DS := ⟨-1, crashTo d keep torn cut d.pend.length, [], d.writes⟩

theorem crashTo_succ (d : DS) (keep torn cut : Int) (n : Nat) : crashTo d keep torn cut (n + 1) = (crashTo d keep torn cut n).set ((sortedKeys d.pend).getD n 0).toNat (surv ((crashTo d keep torn cut n).getD ((sortedKeys d.pend).getD n 0).toNat St.zero) ((getE d.pend ((sortedKeys d.pend).getD n 0)).getD St.zero) n keep torn cut) := rfl
theorem crashTo_length (d : DS) (keep torn cut : Int) : ∀ n, (crashTo d keep torn cut n).length = d.sure.length
  | 0 => rfl
  | n + 1 => by rw [crashTo, List.length_set, crashTo_length]
theorem getD_ok {ss : List St} (h : ∀ s ∈ ss, s.Ok) (i : Nat) : (ss.getD i St.zero).Ok := by
  by_cases hi : i < ss.length
  · rw [List.getD_eq_getElem?_getD, List.getElem?_eq_getElem hi]
    exact h _ (List.getElem_mem _)
  · rw [List.getD_eq_getElem?_getD, List.getElem?_eq_none (by omega)]
    exact St.zero_ok
theorem getE_ok {es : List (Int × St)} (h : ∀ p ∈ es, p.2.Ok) (i : Int) : ((getE es i).getD St.zero).Ok := by
  cases hg : getE es i with
  | none => exact St.zero_ok
  | some s => exact h _ (getE_mem hg)
theorem crashTo_ok {d : DS} (h1 : ∀ s ∈ d.sure, s.Ok) (h2 : ∀ p ∈ d.pend, p.2.Ok) (keep torn cut : Int) : ∀ n, ∀ s ∈ crashTo d keep torn cut n, s.Ok
  | 0 => h1
  | n + 1 => fun s hs => by
    rw [crashTo] at hs
    have ih := crashTo_ok h1 h2 keep torn cut n
    rcases List.mem_or_eq_of_mem_set hs with h | rfl
    · exact ih s h
    · exact surv_ok (getD_ok ih _) (getE_ok h2 _) _ _ _ _
theorem crash_nil (keep torn cut : Int) (w : World) : Calls Tryd.prog 22 #[.pointer none, .int .i64 keep, .int .i64 torn, .int .i64 cut] w fun e w' => e = .returned (.tuple #[]) ∧ w = w' := by
  go_enter Tryd.func22, Tryd.ntmps22
  go_wp2_with fail
  refine bodyPost_ret (results_none rfl _ _ _) rfl ?_
  exact ⟨rfl, rfl⟩

def DS.Good (d : DS) : Prop := (-1 ≤ d.fuse ∧ d.fuse ≤ 9223372036854775807) ∧ (∀ s ∈ d.sure, s.Ok) ∧ (∀ p ∈ d.pend, p.2.Ok ∧ 0 ≤ p.1 ∧ p.1 < d.sure.length) ∧ d.sure.length ≤ 4096 ∧ d.pend.length ≤ 100000

def CrashRel (b bs bm : Nat) (d : DS) (keep torn cut : Int) (kv : Value) (w0 : World) (ents : Array MapEntry) (clock : Nat) (vi : Value) (wr : World) : Prop :=
  ∃ k : Nat, vi = .int .i64 (k : Int) ∧ k ≤ d.pend.length ∧ SH (DiskA b bs bm d).fp w0 wr [ownA 3 1 kv d.pend.length ((sortedKeys d.pend).map (Value.int .i64)), pt b (.cells #[.int .i64 d.fuse, .slice (some ⟨bs, 0, none⟩) d.sure.length d.sure.length, .map (some bm), .int .i64 d.writes] 58 (0, 0)), pt bs (.cells (flat (crashTo d keep torn cut k)).toArray 83 (0, 0)), pt bm (.map ents clock)]

set_option maxRecDepth 100000 in
set_option maxHeartbeats 1000000 in
theorem crash_on (b bs bm : Nat) (d : DS) (keep torn cut : Int) (w0 : World) (h : (DiskA b bs bm d).says w0) (hg : d.Good) :
    Calls Tryd.prog 22 #[.pointer (some ⟨b, 0, none⟩), .int .i64 keep, .int .i64 torn, .int .i64 cut] w0 fun e w' => e = .returned (.tuple #[]) ∧ Ext (DiskA b bs bm d).fp w0 w' ∧ (DiskA b bs bm (d.crash keep torn cut)).says w' := by
  obtain ⟨ents, clock, hrel, H⟩ := DiskA.open_ h
  clear h
  have hwf : ∀ p ∈ d.pend, (Lit.int .i64 p.1).wf = true := fun p hp => by
    have h1 := (hg.2.2.1 p hp).2; have h2 := hg.2.2.2.1
    show (decide ((-9223372036854775808 : Int) ≤ p.1) && decide (p.1 ≤ (9223372036854775807 : Int))) = true
    simp only [Bool.and_eq_true, decide_eq_true_eq]
    omega
  have hlen := hg.2.2.2.2
  have hG := Lib.hid hg
  clear hg
  go_enter Tryd.func22, Tryd.ntmps22
  go_wp2_with (first | (refine L_load1 rfl rfl H 0 rfl rfl rfl Tryd.isAgg56 ?_; (try simp only [Act.put, List.setIfInBounds_toArray, List.set_cons_succ, List.set_cons_zero, List.getElem_toArray, List.getElem_cons_succ, List.getElem_cons_zero])) | (go_at_call 42; refine (keys_calls _ _).mono ?_; rintro e w' ⟨rfl, rfl⟩; replace H := H.alloc (.cells #[.map (some bm)] 56)) | (go_at_call 41; refine (sorted_calls hrel (H.at_ 3 rfl) hwf hlen (H.at_ 0 rfl)).mono ?_; rintro e w' ⟨kv, rfl, hrow, hbel⟩; obtain ⟨A, cap, rfl, hcap⟩ := (RdS.own (enc := encInt .i64) (encInt_len _) (sortedKeys_length d.pend).symm (by rw [cellsOf_int]; exact hrow)).len; rw [sortedKeys_length] at hrow hcap ⊢))
  replace H := (H.addOwn (Ext0.of_below hbel) hrow).drop (L' := [_, _, _, _]) (List.Sublist.cons_cons _ (List.sublist_cons_self _ _))
  go_loopw [19] (fun vi wr => CrashRel b bs bm d keep torn cut (.slice A d.pend.length cap) w0 ents clock vi wr) (fun vi _ => d.pend.length - (intOf vi).toNat)
  case atStart => exact ⟨0, rfl, Nat.zero_le _, H⟩
  case round =>
    clear H hrow hbel hwf
    obtain ⟨k, rfl, hk, H⟩ := hrel
    by_cases hkn : k < d.pend.length
    · obtain ⟨s', hmem⟩ := sortedKeys_at d.pend k hkn
      obtain ⟨hsok, hz0, hz1⟩ := hG.out.2.2.1 _ hmem
      have hget : getE d.pend ((sortedKeys d.pend).getD k 0) = some s' := getE_of_mem hrel.keys hmem
      have hrd := RdS.own (enc := encInt .i64) (encInt_len _) (sortedKeys_length d.pend).symm (by rw [cellsOf_int]; exact H.get 0 rfl)
      obtain ⟨gk, off, cs, T, fr, rfl, hgk, hcs⟩ := hrd.cell (j := k) (by rw [sortedKeys_length]; exact hkn)
      have hcell : wr.cell? ⟨gk, off + k, none⟩ = some (.int .i64 ((sortedKeys d.pend).getD k 0)) := by
        have := hcs 0 (by omega)
        rw [cell_of_row wr gk _ cs T fr hgk]
        rw [Nat.mul_one, Nat.add_zero] at this
        rw [this]
        simp [encInt, List.getD_eq_getElem?_getD, List.getElem?_eq_getElem (show k < (sortedKeys d.pend).length by rw [sortedKeys_length]; exact hkn)]
      have hcr := crashTo_succ d keep torn cut k
      rw [hget, Option.getD_some] at hcr
      generalize hki : (sortedKeys d.pend).getD k 0 = key at *
      obtain ⟨i, rfl⟩ := Int.eq_ofNat_of_zero_le hz0
      rw [Int.toNat_natCast] at hcr
      have hcl : (crashTo d keep torn cut k).length = d.sure.length := crashTo_length d keep torn cut k
      have hcok : ∀ s ∈ crashTo d keep torn cut k, s.Ok := crashTo_ok hG.out.2.1 (fun p hp => (hG.out.2.2.1 p hp).1) keep torn cut k
      have HCR := Lib.hid hcr
      generalize hC : crashTo d keep torn cut k = C at *
      have hil : i < C.length := by omega
      have hsi : (C.getD i St.zero).Ok := by
        rw [List.getD_eq_getElem?_getD, List.getElem?_eq_getElem hil]
        exact hcok _ (List.getElem_mem _)
      generalize hs : C.getD i St.zero = s at *
      have hso := surv_ok hsi hsok (k : Int) keep torn cut
      have hmid := flat_at C hcok i hil
      rw [hs] at hmid
      have hrun : (Instr.lookup 56 (.map (some bm)) (.int .i64 (i : Int)) false).run Tryd.prog = (Instr.lookup 56 (.map (some bm)) (.int .i64 (i : Int)) false).run Tryd.prog := rfl
      have hlk : ∀ w', w'.heap[bm]? = some (.map ents clock) → (Instr.lookup 56 (.map (some bm)) (.int .i64 (i : Int)) false).run Tryd.prog w' = .ok s'.val w' := fun w' hw' => by
        have := run_lookup_map (w := w') (keyOk_int Tryd.underlying3) Tryd.underlying56 zero83 hw' hrel i false
        simpa [hget] using this
      clear hrun
      have hi1 : i < d.sure.length := by omega
      go_wp2_with fail
      have hup := fun {w2 : World} (H2 : SH (DiskA b bs bm d).fp w0 w2 [ownA 3 1 (.slice (some ⟨gk, off, none⟩) d.pend.length cap) d.pend.length ((sortedKeys d.pend).map (Value.int .i64)), pt b (.cells #[.int .i64 d.fuse, .slice (some ⟨bs, 0, none⟩) d.sure.length d.sure.length, .map (some bm), .int .i64 d.writes] 58 (0, 0)), pt bs (.cells (flat C).toArray 83 (0, 0)), pt bm (.map ents clock)]) => H2.setMid 2 rfl (i * 33) (surv s s' k keep torn cut).cells
      rw [flat_set hcok i hil _ hso] at hup
      simp only [List.set_cons_zero, List.set_cons_succ] at hup
      have hln := length_flat hcok
      have hsp : i * 33 + 33 ≤ (flat C).toArray.size := by simp only [List.size_toArray, hln]; omega
      have H1 := H.drop (L' := [_, _, _]) (List.Sublist.cons_cons _ (List.Sublist.cons_cons _ (List.sublist_cons_self _ _)))
      clear hcell hcs hrd hgk
      refine D_start H1 (by kernel_rfl) (fun hS => ?_)
      try simp only [Act.put, List.setIfInBounds_toArray, List.set_cons_succ, List.set_cons_zero]
      refine D_take 0 (v := ?_) rfl (by kernel_rfl) (by kernel_rfl) (by kernel_rfl) (fun _ _ _ h => h) rfl (by rfl) (fun W hS => ?_) hS ?_
      rotate_left; (focus (first | (go_simp; done) | (go_simp; with_reducible rfl) | (go_simp; rfl))); all_goals skip; (try simp only [List.set_cons_succ, List.set_cons_zero])
      refine D_take 1 (v := ?_) rfl (by kernel_rfl) (by kernel_rfl) (by kernel_rfl) (fun _ _ _ h => h) rfl (by rfl) (fun W hS => ?_) hS ?_
      rotate_left; (focus (first | (go_simp; done) | (go_simp; with_reducible rfl) | (go_simp; rfl))); all_goals skip; (try simp only [List.set_cons_succ, List.set_cons_zero])
      refine D_take 2 (v := ?_) rfl (by kernel_rfl) (by kernel_rfl) (by kernel_rfl) (fun _ _ _ h => h) rfl (by rfl) (fun W hS => ?_) hS ?_
      rotate_left; (focus (first | (go_simp; done) | (go_simp; with_reducible rfl) | (go_simp; rfl))); all_goals skip; (try simp only [List.set_cons_succ, List.set_cons_zero])
      refine D_take 3 (v := ?_) rfl (by kernel_rfl) (by kernel_rfl) (by kernel_rfl) (fun _ _ _ h => h) rfl (by rfl) (fun W hS => ?_) hS ?_
      rotate_left; (focus (first | (refine R_load1 (ty := 55) (x := Operand.tmp 26) rfl hS 1 rfl rfl ?_ Tryd.isAgg55; rfl))); all_goals skip; (try simp only [List.set_cons_succ, List.set_cons_zero, List.getElem_toArray, List.getElem_cons_succ, List.getElem_cons_zero])
      refine D_take 4 (v := ?_) rfl (by kernel_rfl) (by kernel_rfl) (by kernel_rfl) (fun _ _ _ h => h) rfl (by rfl) (fun W hS => ?_) hS ?_
      rotate_left; (focus (first | (go_simp; done) | (go_simp; with_reducible rfl) | (go_simp; rfl))); all_goals skip; (try simp only [List.set_cons_succ, List.set_cons_zero])
      refine D_take 5 (v := ?_) rfl (by kernel_rfl) (by kernel_rfl) (by kernel_rfl) (fun _ _ _ h => h) rfl (by rfl) (fun W hS => ?_) hS ?_
      rotate_left; (focus (first | (go_simp; done) | (go_simp; with_reducible rfl) | (go_simp; rfl))); all_goals skip; (try simp only [List.set_cons_succ, List.set_cons_zero])
      refine D_take 6 (v := ?_) rfl (by kernel_rfl) (by kernel_rfl) (by kernel_rfl) (fun _ _ _ h => h) rfl (by rfl) (fun W hS => ?_) hS ?_
      rotate_left; (focus (first | (go_simp; done) | (go_simp; with_reducible rfl) | (go_simp; rfl))); all_goals skip; (try simp only [List.set_cons_succ, List.set_cons_zero])
      refine D_take 7 (v := ?_) rfl (by kernel_rfl) (by kernel_rfl) (by kernel_rfl) (fun _ _ _ h => h) rfl (by rfl) (fun W hS => ?_) hS ?_
      rotate_left; (focus (first | (go_simp; done) | (go_simp; with_reducible rfl) | (go_simp; rfl))); all_goals skip; (try simp only [List.set_cons_succ, List.set_cons_zero])
      refine D_take 8 (v := ?_) rfl (by kernel_rfl) (by kernel_rfl) (by kernel_rfl) (fun _ _ _ h => h) rfl (by rfl) (fun W hS => ?_) hS ?_
      rotate_left; (focus (first | (refine R_load1 (ty := 55) (x := Operand.tmp 31) rfl hS 1 rfl rfl ?_ Tryd.isAgg55; rfl))); all_goals skip; (try simp only [List.set_cons_succ, List.set_cons_zero, List.getElem_toArray, List.getElem_cons_succ, List.getElem_cons_zero])
      refine D_take 9 (v := ?_) rfl (by kernel_rfl) (by kernel_rfl) (by kernel_rfl) (fun _ _ _ h => h) rfl (by rfl) (fun W hS => ?_) hS ?_
      rotate_left; (focus (first | (go_simp; done) | (go_simp; with_reducible rfl) | (go_simp; rfl))); all_goals skip; (try simp only [List.set_cons_succ, List.set_cons_zero])
      refine D_take 10 (v := ?_) rfl (by kernel_rfl) (by kernel_rfl) (by kernel_rfl) (fun _ _ _ h => h) rfl (by rfl) (fun W hS => ?_) hS ?_
      rotate_left; (focus (first | (go_simp; done) | (go_simp; with_reducible rfl) | (go_simp; rfl))); all_goals skip; (try simp only [List.set_cons_succ, List.set_cons_zero])
      refine D_take 12 (v := ?_) rfl (by kernel_rfl) (by kernel_rfl) (by kernel_rfl) (fun _ _ _ h => h) rfl (by rfl) (fun W hS => ?_) hS ?_
      rotate_left; (focus (first | (go_simp; done) | (go_simp; with_reducible rfl) | (go_simp; rfl))); all_goals skip; (try simp only [List.set_cons_succ, List.set_cons_zero])
      refine D_take 13 (v := ?_) rfl (by kernel_rfl) (by kernel_rfl) (by kernel_rfl) (fun _ _ _ h => h) rfl (by rfl) (fun W hS => ?_) hS ?_
      rotate_left; (focus (first | (go_simp; done) | (go_simp; with_reducible rfl) | (go_simp; rfl))); all_goals skip; (try simp only [List.set_cons_succ, List.set_cons_zero])
      refine D_take 14 (v := ?_) rfl (by kernel_rfl) (by kernel_rfl) (by kernel_rfl) (fun _ _ _ h => h) rfl (by rfl) (fun W hS => ?_) hS ?_
      rotate_left; (focus (first | (go_simp; done) | (go_simp; with_reducible rfl) | (go_simp; rfl))); all_goals skip; (try simp only [List.set_cons_succ, List.set_cons_zero])
      refine D_take 15 (v := ?_) rfl (by kernel_rfl) (by kernel_rfl) (by kernel_rfl) (fun _ _ _ h => h) rfl (by rfl) (fun W hS => ?_) hS ?_
      rotate_left; (focus (first | (refine R_load1 (ty := 56) (x := Operand.tmp 38) rfl hS 1 rfl rfl ?_ Tryd.isAgg56; rfl))); all_goals skip; (try simp only [List.set_cons_succ, List.set_cons_zero, List.getElem_toArray, List.getElem_cons_succ, List.getElem_cons_zero])
      refine D_take 16 (v := ?_) rfl (by kernel_rfl) (by kernel_rfl) (by kernel_rfl) (fun _ _ _ h => h) rfl (by rfl) (fun W hS => ?_) hS ?_
      rotate_left; (focus (first | (go_simp; done) | (go_simp; with_reducible rfl) | (go_simp; rfl))); all_goals skip; (try simp only [List.set_cons_succ, List.set_cons_zero])
      refine D_take 17 (v := s'.val) rfl (by kernel_rfl) (by kernel_rfl) (by kernel_rfl) (fun _ _ _ h => h) rfl (by rfl) (fun W hS => R_lookup rfl rfl rfl (hlk _ (hS.at_ 2 rfl))) hS ?_; (try simp only [List.set_cons_succ, List.set_cons_zero])
      refine D_take 18 (v := ?_) rfl (by kernel_rfl) (by kernel_rfl) (by kernel_rfl) (fun _ _ _ h => h) rfl (by rfl) (fun W hS => ?_) hS ?_
      rotate_left; (focus (first | (go_simp; done) | (go_simp; with_reducible rfl) | (go_simp; rfl))); all_goals skip; (try simp only [List.set_cons_succ, List.set_cons_zero])
      refine D_take 19 (v := ?_) rfl (by kernel_rfl) (by kernel_rfl) (by kernel_rfl) (fun _ _ _ h => h) rfl (by rfl) (fun W hS => ?_) hS ?_
      rotate_left; (focus (first | (go_simp; done) | (go_simp; with_reducible rfl) | (go_simp; rfl))); all_goals skip; (try simp only [List.set_cons_succ, List.set_cons_zero])
      refine D_take 20 (v := ?_) rfl (by kernel_rfl) (by kernel_rfl) (by kernel_rfl) (fun _ _ _ h => h) rfl (by rfl) (fun W hS => ?_) hS ?_
      rotate_left; (focus (first | (go_simp; done) | (go_simp; with_reducible rfl) | (go_simp; rfl))); all_goals skip; (try simp only [List.set_cons_succ, List.set_cons_zero])
      refine D_take 21 (v := ?_) rfl (by kernel_rfl) (by kernel_rfl) (by kernel_rfl) (fun _ _ _ h => h) rfl (by rfl) (fun W hS => ?_) hS ?_
      rotate_left; (focus (first | (go_simp; done) | (go_simp; with_reducible rfl) | (go_simp; rfl))); all_goals skip; (try simp only [List.set_cons_succ, List.set_cons_zero])
      refine D_one 11 rfl (by kernel_rfl) (by rfl) ?_
      refine wp_of_value (R_loadmid (ty := 83) (x := .tmp 34) (b := bs) (off := i * 33) rfl rfl (H.drew.at_ 2 rfl) Tryd.underlying83 rfl info83 s.cells (St.size_cells hsi) (fun j hj => by simpa using hmid j hj)) ⟨H1.drew, ?_⟩
      try simp only [Act.put, List.getElem_toArray, List.getElem_cons_succ, List.getElem_cons_zero, List.setIfInBounds_toArray, List.set_cons_succ, List.set_cons_zero]
      refine D_one 22 rfl (by kernel_rfl) (by rfl) ?_
      refine R_call (f := 43) (args := #[s.val, s'.val, .int .i64 (k : Int), .int .i64 keep, .int .i64 torn, .int .i64 cut]) (by first | (go_simp; done) | (go_simp; rfl)) (surv_any s s' k keep torn cut _ hsi hsok (by omega)) ?_
      rintro e w2 ⟨rfl, hx⟩
      have HW := H.drew.calls hx
      have hS := HW.drop (L' := [_, _, _]) (List.Sublist.cons_cons _ (List.Sublist.cons_cons _ (List.sublist_cons_self _ _)))
      refine ⟨_, rfl, hS, ?_⟩
      replace hup := hup HW
      clear hx
      try simp only [Act.put, List.getElem_toArray, List.getElem_cons_succ, List.getElem_cons_zero, List.setIfInBounds_toArray, List.set_cons_succ, List.set_cons_zero]
      refine D_take 23 (v := ?_) rfl (by kernel_rfl) (by kernel_rfl) (by kernel_rfl) (fun _ _ _ h => h) rfl (by rfl) (fun W hS => ?_) hS ?_
      rotate_left; (focus (first | (go_simp; done) | (go_simp; with_reducible rfl) | (go_simp; rfl))); all_goals skip; (try simp only [List.set_cons_succ, List.set_cons_zero])
      refine D_one 24 rfl (by kernel_rfl) (by rfl) ?_
      refine wp_of_skip (R_storemid (ty := 83) (x := .tmp 47) (y := .tmp 46) rfl HW 2 (off := i * 33) (vs := (surv s s' k keep torn cut).cells.toArray) rfl rfl rfl info83 (St.size_arr hso) hsp (St.one_cells _)) ⟨hup.drop (List.Sublist.cons_cons _ (List.Sublist.cons_cons _ (List.sublist_cons_self _ _))), ?_⟩
      try simp only [Act.put, List.getElem_toArray, List.getElem_cons_succ, List.getElem_cons_zero, List.setIfInBounds_toArray, List.set_cons_succ, List.set_cons_zero]
      refine wpAnyH_done (by kernel_rfl) ?_ _
      go_wp2_with fail
      go_roundw
      case rel => exact ⟨k + 1, by go_num, by omega, by rw [HCR.out]; exact hup⟩
      case measure => simp [intOf]; omega
    · obtain rfl : k = d.pend.length := by omega
      clear hkn
      have hcl : (crashTo d keep torn cut d.pend.length).length = d.sure.length := crashTo_length d keep torn cut _
      have hsay := fun {w' : World} (H' : SH (DiskA b bs bm d).fp w0 w' [ownA 3 1 (.slice A d.pend.length cap) d.pend.length ((sortedKeys d.pend).map (Value.int .i64)), pt b (.cells #[.int .i64 d.fuse, .slice (some ⟨bs, 0, none⟩) d.sure.length d.sure.length, .map (some bm), .int .i64 d.writes] 58 (0, 0)), pt bs (.cells (flat (crashTo d keep torn cut d.pend.length)).toArray 83 (0, 0)), pt bm (.map #[] clock)]) =>
        (DiskA.shut (b := b) (bs := bs) (bm := bm) (d := ⟨d.fuse, crashTo d keep torn cut d.pend.length, [], d.writes⟩) (MapRel.empty _ _ clock) (L := []) (by
          show SH (DiskA b bs bm d).fp w0 w' [pt b (.cells #[.int .i64 d.fuse, .slice (some ⟨bs, 0, none⟩) (crashTo d keep torn cut d.pend.length).length (crashTo d keep torn cut d.pend.length).length, .map (some bm), .int .i64 d.writes] 58 (0, 0)), _, _]
          rw [hcl]; exact H'.drop (List.sublist_cons_self _ _)))
      go_wp2_with (first | (refine L_load1 rfl rfl H 0 rfl rfl rfl Tryd.isAgg56 ?_; (try simp only [Act.put, List.setIfInBounds_toArray, List.set_cons_succ, List.set_cons_zero, List.getElem_toArray, List.getElem_cons_succ, List.getElem_cons_zero])) | (refine L_load1 rfl rfl H 1 rfl rfl rfl Tryd.isAgg56 ?_; (try simp only [Act.put, List.setIfInBounds_toArray, List.set_cons_succ, List.set_cons_zero, List.getElem_toArray, List.getElem_cons_succ, List.getElem_cons_zero])) | (refine L_clear rfl rfl H 3 rfl rfl Tryd.underlying56 ?_; clear H; intro w H; simp only [List.set_cons_zero, List.set_cons_succ] at H; (try simp only [Act.put, List.setIfInBounds_toArray, List.set_cons_succ, List.set_cons_zero, List.getElem_toArray, List.getElem_cons_succ, List.getElem_cons_zero])) | (go_at_call 44; refine (set_any b bs bm _ (-1) _ (hsay H)).mono ?_; rintro e w' ⟨rfl, hw1, hw2⟩))
      go_end0
      exact ⟨rfl, H.ext.trans' (hw1.mono (fun i _ h => .inl h)), hw2⟩
end Go.Proofs.YtgmeahogdjhejaaDoor
