/- Catalogues: apart, the walk. -/
import Derived.Test.YtmfcccflohpjiaaGreatDoorCatD
namespace Go.Proofs.YtmfcccflohpjiaaGreatDoor
set_option linter.unusedVariables false
set_option linter.unusedSimpArgs false
open Go.RowKit

theorem oneE (p : ByteArray) (a b c d e : Int) : #[Value.string p, .int .i64 a, .int .i64 b, .int .i64 c, .int .i64 d, .int .i64 e].all (·.oneCell') = true := by simp [Value.oneCell']
theorem oneSpanC {w : World} {g : Nat} {T : TypeId} {fr : Nat × Nat} {s : Sp} (hg : w.heap[g]? = some (.cells #[.int .i64 s.at_, .int .i64 s.len] T fr)) : RdS Sp.cells 2 w (.slice (some ⟨g, 0, none⟩) 1 1) [s] :=
  ⟨_, _, rfl, Nat.le_refl _, .inr ⟨g, 0, _, T, fr, rfl, hg, fun j hj i hi => by
    obtain rfl : j = 0 := by simp at hj; omega
    rcases i with _ | _ | i
    · rfl
    · rfl
    · omega⟩⟩
def noA : Asr := ⟨fun _ => False, fun _ => True, fun _ _ _ _ => trivial⟩
theorem SH.less {M : Nat → Prop} {w0 w w' : World} {L : List Asr} (H : SH M w0 w L) (i : Nat) {A : Asr} (hi : L[i]? = some A) (h : Ext A.fp w w') : SH M w0 w' (L.set i noA) :=
  H.upd i hi h trivial (fun _ hj => hj.elim)
theorem grpF_le (xs : List Ent) (k : Int) : (grpF xs k).length ≤ xs.length := by
  unfold grpF
  rw [List.length_map]
  exact List.length_filter_le _ _
def ApRel (xs : List Ent) (b : Nat) (w0 : World) (vi : Value) (wr : World) : Prop := ∃ (i : Nat) (es : Array MapEntry) (clock : Nat) (F : SpF), vi = .int .i64 (i : Int) ∧ i ≤ xs.length ∧ SH (fun _ => False) w0 wr [mapA b es clock F] ∧ Hid (F = grpF (xs.take i))
def RngRel (b r : Nat) (es : Array MapEntry) (clock : Nat) (F : SpF) (w0 wr : World) : Prop := ∃ seen : Array Nat, SH (fun _ => False) w0 wr [pt r (.mapIter (some b) clock seen clock), mapA b es clock F] ∧ Hid (∀ e ∈ es.toList, seen.contains e.born = true → ∀ k : Int, e.key = .int .i64 k → goodB (F k) 1024 = true)
def itLeft (r : Nat) (es : Array MapEntry) (wr : World) : Nat := match wr.heap[r]? with | some (.mapIter _ _ seen _) => (leftOf es seen).size | _ => 0
set_option maxRecDepth 100000 in
set_option maxHeartbeats 4000000 in
theorem apart_any (v : Value) (xs : List Ent) (w0 : World) (hr : RdS eCells 6 w0 v xs) (hn : xs.length ≤ 1000) (hsm : ∀ x ∈ xs, (0 ≤ x.at_ ∧ x.at_ ≤ 1024) ∧ (x.size ≤ 1024)) : Calls Tryz.prog 31 #[v] w0 fun e w' => ApartE xs e ∧ Ext0 w0 w' := by
  obtain ⟨A, cap, rfl, hcap⟩ := hr.len
  have H : SH (fun _ => False) w0 w0 [] := SH.nil _ _
  have HR := Lib.hid hr
  have HP := Lib.hid hsm
  clear hr hsm
  have hmm := @run_makeMap Tryz.prog
  go_enter Tryz.func31, Tryz.ntmps31
  go_wp2_with fail
  clear hmm
  obtain ⟨b, hb⟩ : ∃ b, w0.heap.size = b := ⟨_, rfl⟩
  replace H := (H.alloc (.map #[] 0)).toMap 0 rfl
  simp only [List.set_cons_zero] at H
  rw [hb] at H ⊢
  go_loopw [11] (fun vi wr => ApRel xs b w0 vi wr) (fun vi _ => xs.length - (intOf vi).toNat)
  case atStart => exact ⟨0, _, _, _, rfl, Nat.zero_le _, H, Lib.hid rfl⟩
  case round =>
    clear H
    obtain ⟨i, es, clock, F, rfl, hi, H, HF⟩ := hrel
    by_cases hin : i < xs.length
    · have hii : (i : Int) < (xs.length : Int) := by omega
      obtain ⟨x, hx⟩ : ∃ x, xs[i] = x := ⟨_, rfl⟩
      obtain ⟨bb, off, cs, T, fr, rfl, hbb, hcs⟩ := ent_cells HR.out hin hx
      have hci := hcs i hin
      rw [hx] at hci
      obtain ⟨p, mode, time, block, at_, size⟩ := x
      have hci6 : ∀ j, j < 6 → cs[off + i * 6 + j]? = [Value.string p, .int .i64 mode, .int .i64 time, .int .i64 block, .int .i64 at_, .int .i64 size][j]? := fun j hj => hci j hj
      clear hci
      have hxq : xs[i]? = some ⟨p, mode, time, block, at_, size⟩ := by rw [List.getElem?_eq_getElem hin, hx]
      have HX := Lib.hid hxq
      clear hxq hx
      by_cases hs0 : 0 < size
      · go_wp2_with (first
          | (refine L_loadmidr rfl rfl H rfl hbb (fun e => e) Tryz.underlying39 rfl info39 [Value.string p, .int .i64 mode, .int .i64 time, .int .i64 block, .int .i64 at_, .int .i64 size] rfl hci6 ?_; (try simp only [Act.put, List.setIfInBounds_toArray, List.set_cons_succ, List.set_cons_zero, List.getElem_toArray, List.getElem_cons_succ, List.getElem_cons_zero]))
          | (refine L_alloc rfl rfl H Tryz.zeroValue39 ?_; clear H; intro g5 w H; simp only [Value.cells] at H; (try simp only [Act.put, List.setIfInBounds_toArray, List.set_cons_succ, List.set_cons_zero, List.getElem_toArray, List.getElem_cons_succ, List.getElem_cons_zero]))
          | (refine L_storerow rfl rfl H 0 rfl rfl rfl info39 rfl rfl (oneE _ _ _ _ _ _) ?_; clear H; intro w H; simp only [List.set_cons_zero] at H; (try simp only [Act.put, List.setIfInBounds_toArray, List.set_cons_succ, List.set_cons_zero, List.getElem_toArray, List.getElem_cons_succ, List.getElem_cons_zero]))
          | (refine L_load1 rfl rfl H 0 rfl rfl rfl Tryz.isAgg3 ?_; (try simp only [Act.put, List.setIfInBounds_toArray, List.set_cons_succ, List.set_cons_zero, List.getElem_toArray, List.getElem_cons_succ, List.getElem_cons_zero])) | (refine L_load1 rfl rfl H 1 rfl rfl rfl Tryz.isAgg3 ?_; (try simp only [Act.put, List.setIfInBounds_toArray, List.set_cons_succ, List.set_cons_zero, List.getElem_toArray, List.getElem_cons_succ, List.getElem_cons_zero])))
        have hFl : (F block).length ≤ 1000 := by
          rw [HF.out]
          have := grpF_le (xs.take i) block
          rw [List.length_take] at this
          omega
        have hb1 : ((F block).length + [(⟨at_, size⟩ : Sp)].length) * 16 ≤ 140737488355328 := by simp only [List.length_cons, List.length_nil]; omega
        have hm1 : (F block).length + [(⟨at_, size⟩ : Sp)].length ≤ maxLen := by simp only [List.length_cons, List.length_nil, maxLen]; omega
        obtain ⟨u, hu, HV⟩ := MapSp.look (P := Tryz.prog) (T := 70) (H.get 1 rfl : (mapA b es clock F).says w) block Tryz.underlying70 Tryz.underlying3 Tryz.zeroValue71
        replace HV := Lib.hid HV
        replace hFl := Lib.hid hFl
        have HFU := H.drew
        have HMP : MapSp b es clock F w.drew := HFU.get 1 rfl
        have H5 := H.drop (L' := [_]) (List.Sublist.cons_cons _ (List.nil_sublist _))
        refine D_start H5 (by kernel_rfl) (fun hS => ?_)
        try simp only [Act.put, List.setIfInBounds_toArray, List.set_cons_succ, List.set_cons_zero]
        refine D_take 0 (v := ?_) rfl (by kernel_rfl) (by kernel_rfl) (by kernel_rfl) (fun _ _ _ h => h) rfl (by rfl) (fun W hS => ?_) hS ?_
        rotate_left; (focus (first | (go_simp; done) | (go_simp; with_reducible rfl) | (go_simp; rfl))); all_goals skip; (try simp only [List.set_cons_succ, List.set_cons_zero])
        refine D_take 1 (v := ?_) rfl (by kernel_rfl) (by kernel_rfl) (by kernel_rfl) (fun _ _ _ h => h) rfl (by rfl) (fun W hS => ?_) hS ?_
        rotate_left; (focus (first | (go_simp; done) | (go_simp; with_reducible rfl) | (go_simp; rfl))); all_goals skip; (try simp only [List.set_cons_succ, List.set_cons_zero])
        refine D_take 2 (v := ?_) rfl (by kernel_rfl) (by kernel_rfl) (by kernel_rfl) (fun _ _ _ h => h) rfl (by rfl) (fun W hS => ?_) hS ?_
        rotate_left; (focus (first | (refine R_load1 (ty := 3) (x := Operand.tmp 19) rfl hS 0 rfl rfl ?_ Tryz.isAgg3; rfl))); all_goals skip; (try simp only [List.set_cons_succ, List.set_cons_zero, List.getElem_toArray, List.getElem_cons_succ, List.getElem_cons_zero])
        refine D_take 3 (v := ?_) rfl (by kernel_rfl) (by kernel_rfl) (by kernel_rfl) (fun _ _ _ h => h) rfl (by rfl) (fun W hS => ?_) hS ?_
        rotate_left; (focus (first | (go_simp; done) | (go_simp; with_reducible rfl) | (go_simp; rfl))); all_goals skip; (try simp only [List.set_cons_succ, List.set_cons_zero])
        refine D_take 4 (v := ?_) rfl (by kernel_rfl) (by kernel_rfl) (by kernel_rfl) (fun _ _ _ h => h) rfl (by rfl) (fun W hS => ?_) hS ?_
        rotate_left; (focus (first | (go_simp; done) | (go_simp; with_reducible rfl) | (go_simp; rfl))); all_goals skip; (try simp only [List.set_cons_succ, List.set_cons_zero])
        refine D_take 5 (v := ?_) rfl (by kernel_rfl) (by kernel_rfl) (by kernel_rfl) (fun _ _ _ h => h) rfl (by rfl) (fun W hS => ?_) hS ?_
        rotate_left; (focus (first | (refine R_load1 (ty := 3) (x := Operand.tmp 22) rfl hS 0 rfl rfl ?_ Tryz.isAgg3; rfl))); all_goals skip; (try simp only [List.set_cons_succ, List.set_cons_zero, List.getElem_toArray, List.getElem_cons_succ, List.getElem_cons_zero])
        refine D_take 7 (v := ?_) rfl (by kernel_rfl) (by kernel_rfl) (by kernel_rfl) (fun _ _ _ h => h) rfl (by rfl) (fun W hS => ?_) hS ?_
        rotate_left; (focus (first | (go_simp; done) | (go_simp; with_reducible rfl) | (go_simp; rfl))); all_goals skip; (try simp only [List.set_cons_succ, List.set_cons_zero])
        refine D_take 8 (v := ?_) rfl (by kernel_rfl) (by kernel_rfl) (by kernel_rfl) (fun _ _ _ h => h) rfl (by rfl) (fun W hS => ?_) hS ?_
        rotate_left; (focus (first | (refine R_load1 (ty := 3) (x := Operand.tmp 25) rfl hS 0 rfl rfl ?_ Tryz.isAgg3; rfl))); all_goals skip; (try simp only [List.set_cons_succ, List.set_cons_zero, List.getElem_toArray, List.getElem_cons_succ, List.getElem_cons_zero])
        refine D_take 9 (v := ?_) rfl (by kernel_rfl) (by kernel_rfl) (by kernel_rfl) (fun _ _ _ h => h) rfl (by rfl) (fun W hS => ?_) hS ?_
        rotate_left; (focus (first | (go_simp; done) | (go_simp; with_reducible rfl) | (go_simp; rfl))); all_goals skip; (try simp only [List.set_cons_succ, List.set_cons_zero])
        refine D_take 10 (v := ?_) rfl (by kernel_rfl) (by kernel_rfl) (by kernel_rfl) (fun _ _ _ h => h) rfl (by rfl) (fun W hS => ?_) hS ?_
        rotate_left; (focus (first | (refine R_load1 (ty := 3) (x := Operand.tmp 27) rfl hS 0 rfl rfl ?_ Tryz.isAgg3; rfl))); all_goals skip; (try simp only [List.set_cons_succ, List.set_cons_zero, List.getElem_toArray, List.getElem_cons_succ, List.getElem_cons_zero])
        refine D_take 11 (v := ?_) rfl (by kernel_rfl) (by kernel_rfl) (by kernel_rfl) (fun _ _ _ h => h) rfl (by rfl) (fun W hS => ?_) hS ?_
        rotate_left; (focus (first | (go_simp; done) | (go_simp; with_reducible rfl) | (go_simp; rfl))); all_goals skip; (try simp only [List.set_cons_succ, List.set_cons_zero])
        refine D_two 6 12 rfl rfl (by kernel_rfl) (by rfl) (by rfl) ?_ ?_
        ·
          refine wp_of_value (R_lookupS (b := b) (key := .int .i64 block) (v := u) (m := .tmp 21) (x := .tmp 23) rfl rfl rfl (HV.out _ HMP).1) ⟨hS, ?_⟩
          try simp only [Act.put, List.getElem_toArray, List.getElem_cons_succ, List.getElem_cons_zero, List.setIfInBounds_toArray, List.set_cons_succ, List.set_cons_zero]
          refine D_one 12 rfl (by kernel_rfl) (by rfl) ?_
          refine W_litE (e := 73) (cs := #[.int .i64 at_, .int .i64 size]) rfl HFU (fun w => by first | (go_simp; done) | (go_simp; rfl)) ?_
          intro gl wl HL hEx
          replace HMP : MapSp b es clock F wl := HL.get 2 rfl
          clear hS
          have hS := HL.drop (L' := [_]) (List.Sublist.cons _ (List.Sublist.cons_cons _ (List.nil_sublist _)))
          refine ⟨hS, ?_⟩
          try simp only [Act.put, List.getElem_toArray, List.getElem_cons_succ, List.getElem_cons_zero, List.setIfInBounds_toArray, List.set_cons_succ, List.set_cons_zero]
          refine D_one 13 rfl (by kernel_rfl) (by rfl) ?_
          obtain ⟨hlk, hown, hback⟩ := HV.out wl HMP
          have hlw : b + 1 ≤ wl.heap.size := (Array.getElem?_eq_some_iff.1 HMP.here).1
          refine W_appendOwn Sp.clen Sp.one (s := .tmp 24) (x := .tmp 30) (v := u) (xv := .slice (some ⟨gl, 0, none⟩) 1 1) (ys := [⟨at_, size⟩]) rfl Tryz.underlying71 tinfo73 rfl (by decide) rfl hown rfl (oneSpanC (s := ⟨at_, size⟩) (HL.at_ 0 rfl)) hb1 hm1 hlw ?_
          intro u' w1 hown1 hg1 hat
          obtain ⟨w2, hr2, ⟨es', clock', hM2, hin2⟩, hg2⟩ := hback w1 u' ⟨at_, size⟩ hg1 (by simpa [cellsOf] using hown1) (hat.imp id (fun h => ⟨_, h, Nat.le_refl _⟩))
          have hE1 : Ext (mapA b es clock F).fp wl w1 := (Ext.of_grown hg1).mono (fun j _ hj => .inr (hu j hj.symm))
          have hE2 : Ext (mapA b es clock F).fp wl w2 := hE1.trans' ((Ext.of_grown hg2).mono (fun j _ hj => .inl (by cases hj; rfl)))
          clear hS
          refine ⟨(HL.less 2 rfl hE1).drop (List.Sublist.cons _ (List.Sublist.cons_cons _ (List.nil_sublist _))), ?_⟩
          try simp only [Act.put, List.getElem_toArray, List.getElem_cons_succ, List.getElem_cons_zero, List.setIfInBounds_toArray, List.set_cons_succ, List.set_cons_zero]
          refine D_one 14 rfl (by kernel_rfl) (by rfl) ?_
          refine W_mapUpdate (m := .tmp 18) (x := .tmp 20) (v := .tmp 31) rfl rfl rfl rfl hr2 ?_
          refine ⟨(HL.less 2 rfl hE2).drop (List.Sublist.cons _ (List.Sublist.cons_cons _ (List.nil_sublist _))), ?_⟩
          try simp only [Act.put, List.getElem_toArray, List.getElem_cons_succ, List.getElem_cons_zero, List.setIfInBounds_toArray, List.set_cons_succ, List.set_cons_zero]
          refine wpAnyH_done (by kernel_rfl) ?_ _
          have H2 := HL.stored 2 rfl hu hg1 (hat.imp id (fun h => ⟨_, h, Nat.le_refl _⟩)) hM2 hin2 hg2
          clear HMP HFU H5 hback hlk hown hown1 hg1 hg2 hr2 hE1 hE2 hlw HL
          simp only [List.set_cons_succ, List.set_cons_zero] at H2
          go_wp2_with fail
          exact ⟨⟨i + 1, es', clock', _, by go_num, by omega, H2.drop (List.Sublist.cons _ (List.Sublist.cons _ (List.Sublist.refl _))), Lib.hid (by rw [grpF_step HX.out, if_pos hs0, HF.out]; rfl)⟩, by show xs.length - ((i : Int) + 1).toNat < xs.length - (i : Int).toNat; omega⟩
        ·
          refine W_litE (e := 73) (cs := #[.int .i64 at_, .int .i64 size]) rfl HFU (fun w => by first | (go_simp; done) | (go_simp; rfl)) ?_
          intro gl wl HL hEx
          replace HMP : MapSp b es clock F wl := HL.get 2 rfl
          clear hS
          have hS := HL.drop (L' := [_]) (List.Sublist.cons _ (List.Sublist.cons_cons _ (List.nil_sublist _)))
          refine ⟨hS, ?_⟩
          try simp only [Act.put, List.getElem_toArray, List.getElem_cons_succ, List.getElem_cons_zero, List.setIfInBounds_toArray, List.set_cons_succ, List.set_cons_zero]
          refine D_one 6 rfl (by kernel_rfl) (by rfl) ?_
          refine wp_of_value (R_lookupS (b := b) (key := .int .i64 block) (v := u) (m := .tmp 21) (x := .tmp 23) rfl rfl rfl (HV.out _ HMP).1) ⟨hS, ?_⟩
          try simp only [Act.put, List.getElem_toArray, List.getElem_cons_succ, List.getElem_cons_zero, List.setIfInBounds_toArray, List.set_cons_succ, List.set_cons_zero]
          refine D_one 13 rfl (by kernel_rfl) (by rfl) ?_
          obtain ⟨hlk, hown, hback⟩ := HV.out wl HMP
          have hlw : b + 1 ≤ wl.heap.size := (Array.getElem?_eq_some_iff.1 HMP.here).1
          refine W_appendOwn Sp.clen Sp.one (s := .tmp 24) (x := .tmp 30) (v := u) (xv := .slice (some ⟨gl, 0, none⟩) 1 1) (ys := [⟨at_, size⟩]) rfl Tryz.underlying71 tinfo73 rfl (by decide) rfl hown rfl (oneSpanC (s := ⟨at_, size⟩) (HL.at_ 0 rfl)) hb1 hm1 hlw ?_
          intro u' w1 hown1 hg1 hat
          obtain ⟨w2, hr2, ⟨es', clock', hM2, hin2⟩, hg2⟩ := hback w1 u' ⟨at_, size⟩ hg1 (by simpa [cellsOf] using hown1) (hat.imp id (fun h => ⟨_, h, Nat.le_refl _⟩))
          have hE1 : Ext (mapA b es clock F).fp wl w1 := (Ext.of_grown hg1).mono (fun j _ hj => .inr (hu j hj.symm))
          have hE2 : Ext (mapA b es clock F).fp wl w2 := hE1.trans' ((Ext.of_grown hg2).mono (fun j _ hj => .inl (by cases hj; rfl)))
          clear hS
          refine ⟨(HL.less 2 rfl hE1).drop (List.Sublist.cons _ (List.Sublist.cons_cons _ (List.nil_sublist _))), ?_⟩
          try simp only [Act.put, List.getElem_toArray, List.getElem_cons_succ, List.getElem_cons_zero, List.setIfInBounds_toArray, List.set_cons_succ, List.set_cons_zero]
          refine D_one 14 rfl (by kernel_rfl) (by rfl) ?_
          refine W_mapUpdate (m := .tmp 18) (x := .tmp 20) (v := .tmp 31) rfl rfl rfl rfl hr2 ?_
          refine ⟨(HL.less 2 rfl hE2).drop (List.Sublist.cons _ (List.Sublist.cons_cons _ (List.nil_sublist _))), ?_⟩
          try simp only [Act.put, List.getElem_toArray, List.getElem_cons_succ, List.getElem_cons_zero, List.setIfInBounds_toArray, List.set_cons_succ, List.set_cons_zero]
          refine wpAnyH_done (by kernel_rfl) ?_ _
          have H2 := HL.stored 2 rfl hu hg1 (hat.imp id (fun h => ⟨_, h, Nat.le_refl _⟩)) hM2 hin2 hg2
          clear HMP HFU H5 hback hlk hown hown1 hg1 hg2 hr2 hE1 hE2 hlw HL
          simp only [List.set_cons_succ, List.set_cons_zero] at H2
          go_wp2_with fail
          exact ⟨⟨i + 1, es', clock', _, by go_num, by omega, H2.drop (List.Sublist.cons _ (List.Sublist.cons _ (List.Sublist.refl _))), Lib.hid (by rw [grpF_step HX.out, if_pos hs0, HF.out]; rfl)⟩, by show xs.length - ((i : Int) + 1).toNat < xs.length - (i : Int).toNat; omega⟩
      · go_wp2_with (first
          | (refine L_loadmidr rfl rfl H rfl hbb (fun e => e) Tryz.underlying39 rfl info39 [Value.string p, .int .i64 mode, .int .i64 time, .int .i64 block, .int .i64 at_, .int .i64 size] rfl hci6 ?_; (try simp only [Act.put, List.setIfInBounds_toArray, List.set_cons_succ, List.set_cons_zero, List.getElem_toArray, List.getElem_cons_succ, List.getElem_cons_zero]))
          | (refine L_alloc rfl rfl H Tryz.zeroValue39 ?_; clear H; intro g5 w H; simp only [Value.cells] at H; (try simp only [Act.put, List.setIfInBounds_toArray, List.set_cons_succ, List.set_cons_zero, List.getElem_toArray, List.getElem_cons_succ, List.getElem_cons_zero]))
          | (refine L_storerow rfl rfl H 0 rfl rfl rfl info39 rfl rfl (oneE _ _ _ _ _ _) ?_; clear H; intro w H; simp only [List.set_cons_zero] at H; (try simp only [Act.put, List.setIfInBounds_toArray, List.set_cons_succ, List.set_cons_zero, List.getElem_toArray, List.getElem_cons_succ, List.getElem_cons_zero]))
          | (refine L_load1 rfl rfl H 0 rfl rfl rfl Tryz.isAgg3 ?_; (try simp only [Act.put, List.setIfInBounds_toArray, List.set_cons_succ, List.set_cons_zero, List.getElem_toArray, List.getElem_cons_succ, List.getElem_cons_zero])) | (refine L_load1 rfl rfl H 1 rfl rfl rfl Tryz.isAgg3 ?_; (try simp only [Act.put, List.setIfInBounds_toArray, List.set_cons_succ, List.set_cons_zero, List.getElem_toArray, List.getElem_cons_succ, List.getElem_cons_zero])))
        exact ⟨⟨i + 1, es, clock, F, by go_num, by omega, H.drop (List.Sublist.cons _ (List.Sublist.refl _)), Lib.hid (by rw [grpF_step HX.out, if_neg hs0, HF.out])⟩, by show xs.length - ((i : Int) + 1).toNat < xs.length - (i : Int).toNat; omega⟩
    · have hii : ¬ (i : Int) < (xs.length : Int) := by omega
      obtain rfl : i = xs.length := by omega
      have hMS : MapSp b es clock F wr := H.get 0 rfl
      go_wp2_with (refine L_range rfl rfl Tryz.underlying70 rfl hMS.here H ?_; intro g w H; (try simp only [Act.put, List.setIfInBounds_toArray, List.set_cons_succ, List.set_cons_zero, List.getElem_toArray, List.getElem_cons_succ, List.getElem_cons_zero]))
      go_loopw [35] (fun _ wr => RngRel b g es clock F w0 wr) (fun _ wr => itLeft g es wr)
      case atStart => exact ⟨#[], H, Lib.hid (by simp)⟩
      case round =>
        clear H hMS
        rename World => wc2
        obtain ⟨seen, H, HS⟩ := hrel
        have hMS : MapSp b es clock F wc2 := H.get 1 rfl
        have hME := Lib.hid hMS
        have hleft0 : itLeft g es wc2 = (leftOf es seen).size := by unfold itLeft; rw [H.at_ 0 rfl]
        have HL0 := Lib.hid hleft0
        have hhere := hMS.here
        have hborn := hMS.born
        clear hMS hleft0
        go_wp2_with (refine L_next rfl rfl rfl H 0 rfl hhere hborn ?_ ?_)
        · intro hz
          go_wp2_with fail
          go_ret
          have hall := all_seen es seen (by rw [hz]; rfl)
          refine ⟨⟨true, rfl, Lib.hid ⟨fun _ k hk => ?_, fun _ => rfl⟩⟩, H.ext⟩
          have hF := HF.out
          rw [List.take_length] at hF
          rw [← hF] at hk ⊢
          obtain ⟨x, hx, hxk⟩ := hME.out.all k hk
          exact HS.out x hx (hall x hx) k hxk
        · intro e he w2 H
          (try simp only [List.set_cons_zero] at H)
          obtain ⟨hem, hns⟩ := mem_left (Array.mem_toList_iff.2 he)
          obtain ⟨k, hk, hFk, hown⟩ := (H.get 1 rfl : (mapA b es clock F).says w2).keys e hem
          have hbN := hME.out.bornN
          have hh2 := (H.get 1 rfl : (mapA b es clock F).says w2).here
          have hFg : F k = grpF xs k := by have hF := HF.out; rw [List.take_length] at hF; rw [hF]
          have hsmall : Small (F k) := by
            intro s hs
            rw [hFg] at hs
            obtain ⟨x, hx, rfl⟩ := List.mem_map.1 hs
            obtain ⟨hx1, hx2⟩ := List.mem_filter.1 hx
            have := HP.out x hx1
            simp only [Bool.and_eq_true, decide_eq_true_eq] at hx2
            simp only [spOf]
            omega
          have hFl : (F k).length ≤ 1000 := by
            rw [hFg]
            have := grpF_le xs k
            omega
          have hgood := fun {W : World} (h : RdS Sp.cells 2 W e.val (F k)) => good_any e.val (F k) 1024 W hFl h (by omega) (by omega) hsmall
          have hrd := RdS.own Sp.clen rfl hown
          have HK := Lib.hid (And.intro hk hFk)
          have HNS := Lib.hid hns
          have HEL := Lib.hid (Array.mem_toList_iff.2 he)
          have HEM := Lib.hid hem
          have HFG := Lib.hid hFg
          obtain ⟨q, hq⟩ : ∃ q, goodB (F k) 1024 = q := ⟨_, rfl⟩
          rw [hq] at hgood
          have HQ := Lib.hid hq
          clear hk hFk hown he hns hFg hsmall hFl hq
          go_upto_if 41 with (first
            | (refine L_entry rfl rfl rfl (H.at_ 0 rfl) hh2 HEM.out hbN ?_; (try simp only [Act.put, List.setIfInBounds_toArray, List.set_cons_succ, List.set_cons_zero, List.getElem_toArray, List.getElem_cons_succ, List.getElem_cons_zero]))
            | (go_at_call 54; refine (hgood hrd).mono ?_; rintro e2 w3 ⟨rfl, hE2⟩; replace H := H.calls hE2; clear hE2))
          cases q
          · go_wp2_with fail
            go_ret
            refine ⟨⟨false, rfl, Lib.hid ⟨fun h => (Bool.false_ne_true h).elim, fun h => ?_⟩⟩, H.ext⟩
            have := h k (by rw [← HFG.out]; exact HK.out.2)
            rw [← HFG.out, HQ.out] at this
            exact this
          · go_wp2_with fail
            refine ⟨⟨seen.push e.born, H, Lib.hid ?_⟩, ?_⟩
            · intro x hx hxs j hj
              rw [contains_push] at hxs
              rcases Bool.or_eq_true_iff.1 hxs with h1 | h1
              · exact HS.out x hx h1 j hj
              · have hxe : x = e := born_inj hbN hx HEM.out (by simpa using h1)
                subst hxe
                rw [HK.out.1] at hj
                cases hj
                exact HQ.out
            · have h2 : itLeft g es w3 = (leftOf es (seen.push e.born)).size := by unfold itLeft; rw [H.at_ 0 rfl]
              rw [HL0.out, h2]
              exact left_shrinks es seen e HEL.out
end Go.Proofs.YtmfcccflohpjiaaGreatDoor
