/- WalNobody: the walk. -/
import Derived.Test.YtgmeahogdjhejaaGreatDoorWalAwx
import Derived.Test.YtgmeahogdjhejaaGreatDoorWalK
import Derived.Test.YtgmeahogdjhejaaGreatDoorWalRI
namespace Go.Proofs.YtgmeahogdjhejaaGreatDoor
set_option linter.unusedVariables false
set_option linter.unusedSimpArgs false
open Go.RowKit Go.Shelf

set_option maxRecDepth 100000 in
set_option maxHeartbeats 2000000 in
/-- The document's May. -/
theorem refMay_any {b : Nat} {S : Nat → Prop} {d : DS} {w : World} (h : (Rf.RefA b S d).says w) (hl : d.sure.length ≤ 4096) (slot log : Int) :
    Calls Tryz.prog 32 #[.pointer (some ⟨b, 0, none⟩), .int .i64 slot, .int .i64 log] w fun e w' => e = .returned (.bool (decide (mayP d.sure.length slot log))) ∧ Ext0 w w' := by
  obtain ⟨r, hr, H⟩ := Rf.RefA.opens h
  have hc0 : w.cell? ⟨b, 0, none⟩ = some r.v1 := cell_of_row w b 0 _ _ _ (H.at_ 0 rfl)
  obtain ⟨A, c, hv⟩ := Rf.row_len (H.get 1 rfl)
  rw [hv, hr.gl] at hc0
  obtain ⟨n, hn⟩ : ∃ n, d.sure.length = n := ⟨_, rfl⟩
  rw [hn] at hc0 hl ⊢
  clear H hv hr h hn
  by_cases h1 : 0 < slot
  · by_cases h2 : 0 < log
    · by_cases h3 : slot ≤ (n : Int)
      · by_cases h4 : log ≤ (n : Int)
        · have hw1 : IntKind.i64.wrap (slot + slot) = slot + slot := by rw [IntKind.wrap_i64]; omega
          have hw2 : IntKind.i64.wrap (slot + slot + log) = slot + slot + log := by rw [IntKind.wrap_i64]; omega
          by_cases h5 : slot + slot + log ≤ (n : Int)
          · rw [show decide (mayP n slot log) = true from decide_eq_true ⟨h1, h2, h3, h4, by omega⟩]
            go_enter Tryz.func32, Tryz.ntmps32
            go_wp2
            go_ret
            exact ⟨rfl, Ext.refl _ _⟩
          · rw [show decide (mayP n slot log) = false from decide_eq_false (fun h => h5 (by have := h.2.2.2.2; omega))]
            go_enter Tryz.func32, Tryz.ntmps32
            go_wp2
            go_ret
            exact ⟨rfl, Ext.refl _ _⟩
        · rw [show decide (mayP n slot log) = false from decide_eq_false (fun h => h4 h.2.2.2.1)]
          go_enter Tryz.func32, Tryz.ntmps32
          go_wp2
          go_ret
          exact ⟨rfl, Ext.refl _ _⟩
      · rw [show decide (mayP n slot log) = false from decide_eq_false (fun h => h3 h.2.2.1)]
        go_enter Tryz.func32, Tryz.ntmps32
        go_wp2
        go_ret
        exact ⟨rfl, Ext.refl _ _⟩
    · rw [show decide (mayP n slot log) = false from decide_eq_false (fun h => h2 h.2.1)]
      go_enter Tryz.func32, Tryz.ntmps32
      go_wp2
      go_ret
      exact ⟨rfl, Ext.refl _ _⟩
  · rw [show decide (mayP n slot log) = false from decide_eq_false (fun h => h1 h.1)]
    go_enter Tryz.func32, Tryz.ntmps32
    go_wp2
    go_ret
    exact ⟨rfl, Ext.refl _ _⟩
def NoneE (k : Int) (w : World) (e : Ending) (w' : World) : Prop := e = .returned (.tuple #[.pointer none, .slice none 0 0, .slice none 0 0, .int .i64 k]) ∧ Ext0 w w'
set_option maxRecDepth 100000 in
set_option maxHeartbeats 2000000 in
/-- A layout that may not be so. -/
theorem open_bad {b bs bm : Nat} {d : DS} {W0 : Int} (w0 : World) (h : (DiskA b bs bm d).says w0) (hf : d.Fine W0) (slot log : Int) (hm : ¬ mayP d.sure.length slot log) :
    Calls Tryz.prog 9 #[.pointer (some ⟨b, 0, none⟩), .int .i64 slot, .int .i64 log] w0 (NoneE 1 w0) := by
  have H : SH (fun _ => False) w0 w0 [] := SH.nil _ _
  have hdis : ∀ w : World, Ext0 w0 w → (DiskA b bs bm d).says w := fun w hE => (DiskA b bs bm d).keep w0 w (fun j hj => hE.block j (DiskA.fp_lt h hj) (fun e => e)) h
  have hmm := fun {w : World} (hE : Ext0 w0 w) => may_any w (hdis w hE) hf slot log
  rw [show decide (mayP d.sure.length slot log) = false from decide_eq_false hm] at hmm
  clear h hdis hm
  go_enter Tryz.func9, Tryz.ntmps9
  go_wp2_with (first
    | (refine L_box (cs := #[.pointer (some ⟨b, 0, none⟩), .int .i64 slot, .int .i64 log, .int .i64 (-1), .int .i64 0, .int .i64 0, .int .i64 0, .bool false, .bool false]) rfl rfl H rfl rfl ?_; clear H; intro jb w H; (try simp only [Act.put, List.setIfInBounds_toArray, List.set_cons_succ, List.set_cons_zero, List.getElem_toArray, List.getElem_cons_succ, List.getElem_cons_zero]))
    | (refine L_loadmidp (off := 0) (ty := 65) rfl rfl H 0 rfl rfl Tryz.underlying65 rfl info65 [.pointer (some ⟨b, 0, none⟩), .int .i64 slot, .int .i64 log] rfl (fun j hj => by rcases (show j = 0 ∨ j = 1 ∨ j = 2 by omega) with rfl | rfl | rfl <;> rfl) ?_; (try simp only [Act.put, List.setIfInBounds_toArray, List.set_cons_succ, List.set_cons_zero, List.getElem_toArray, List.getElem_cons_succ, List.getElem_cons_zero]))
    | (go_at_call 27; refine (hmm H.ext).mono ?_; rintro e1 w1 ⟨rfl, hE⟩; replace H := H.calls hE; clear hE))
  (try simp only [Exit.inBlock, Exit.then])
  refine bodyPost_ret (results_tmp4 rfl _ _ _) rfl ?_
  exact ⟨rfl, H.ext⟩
set_option maxRecDepth 100000 in
set_option maxHeartbeats 2000000 in
theorem open_nil (w0 : World) (slot log : Int) : Calls Tryz.prog 9 #[.pointer none, .int .i64 slot, .int .i64 log] w0 (NoneE 1 w0) := by
  have H : SH (fun _ => False) w0 w0 [] := SH.nil _ _
  have hmm := fun {w : World} => may_nil w slot log
  go_enter Tryz.func9, Tryz.ntmps9
  go_wp2_with (first
    | (refine L_box (cs := #[.pointer none, .int .i64 slot, .int .i64 log, .int .i64 (-1), .int .i64 0, .int .i64 0, .int .i64 0, .bool false, .bool false]) rfl rfl H rfl rfl ?_; clear H; intro jb w H; (try simp only [Act.put, List.setIfInBounds_toArray, List.set_cons_succ, List.set_cons_zero, List.getElem_toArray, List.getElem_cons_succ, List.getElem_cons_zero]))
    | (refine L_loadmidp (off := 0) (ty := 65) rfl rfl H 0 rfl rfl Tryz.underlying65 rfl info65 [.pointer none, .int .i64 slot, .int .i64 log] rfl (fun j hj => by rcases (show j = 0 ∨ j = 1 ∨ j = 2 by omega) with rfl | rfl | rfl <;> rfl) ?_; (try simp only [Act.put, List.setIfInBounds_toArray, List.set_cons_succ, List.set_cons_zero, List.getElem_toArray, List.getElem_cons_succ, List.getElem_cons_zero]))
    | (go_at_call 27; refine hmm.mono ?_; rintro e1 w1 ⟨rfl, hE⟩; replace H := H.calls hE; clear hE))
  (try simp only [Exit.inBlock, Exit.then])
  refine bodyPost_ret (results_tmp4 rfl _ _ _) rfl ?_
  exact ⟨rfl, H.ext⟩
set_option maxRecDepth 100000 in
set_option maxHeartbeats 2000000 in
theorem format_nil (w0 : World) (slot log : Int) (v : Value) : Calls Tryz.prog 6 #[.pointer none, .int .i64 slot, .int .i64 log, v] w0 fun e w' => e = .returned (.int .i64 1) ∧ Ext0 w0 w' := by
  have H : SH (fun _ => False) w0 w0 [] := SH.nil _ _
  have hmm := fun {w : World} => may_nil w slot log
  go_enter Tryz.func6, Tryz.ntmps6
  go_wp2_with (first
    | (refine L_alloc rfl rfl H Tryz.zeroValue65 ?_; clear H; intro g3 w H; simp only [Value.cells] at H; (try simp only [Act.put, List.setIfInBounds_toArray, List.set_cons_succ, List.set_cons_zero, List.getElem_toArray, List.getElem_cons_succ, List.getElem_cons_zero]))
    | (refine L_storerow rfl rfl H 0 rfl rfl rfl info65 rfl rfl (one3 _ _ _ rfl rfl rfl) ?_; clear H; intro w H; simp only [List.set_cons_zero, List.set_cons_succ, List.setIfInBounds_toArray, Act.eval, Array.getD_eq_getD_getElem?, List.getElem?_toArray, List.getElem?_cons_succ, List.getElem?_cons_zero, Option.getD_some] at H; (try simp only [Act.put, List.setIfInBounds_toArray, List.set_cons_succ, List.set_cons_zero, List.getElem_toArray, List.getElem_cons_succ, List.getElem_cons_zero]))
    | (refine L_loadrow rfl rfl H 0 rfl rfl Tryz.underlying65 rfl info65 ?hn ?_; (case hn => first | rfl | assumption | (simp only [List.size_toArray]; assumption)); (try simp only [Act.put, List.setIfInBounds_toArray, List.set_cons_succ, List.set_cons_zero, List.getElem_toArray, List.getElem_cons_succ, List.getElem_cons_zero]))
    | (go_at_call 27; refine hmm.mono ?_; rintro e1 w1 ⟨rfl, hE⟩; replace H := H.calls hE; clear hE))
  go_ret
  exact ⟨rfl, H.ext⟩
/-- Where nothing was written there is none. -/
theorem open_new {N : Nat} (hN : N ≤ 4096) {slot log : Nat} (hm : mayP (DS.new N).sure.length slot log) : openP (DS.new N) slot log = none := by
  have hd := Dsk.new N hN
  have hl : (DS.new N).sure.length = N := by simp [DS.new]
  rw [hl] at hm
  have hm5 := hm.2.2.2.2
  unfold openP bestP
  rw [hd.between (by omega), hd.between (by omega), zeros_between, lift_zero]
end Go.Proofs.YtgmeahogdjhejaaGreatDoor
