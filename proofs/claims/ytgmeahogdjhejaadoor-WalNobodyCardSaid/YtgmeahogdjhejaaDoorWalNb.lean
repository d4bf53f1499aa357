/- WalNobody: the walk. -/
import Derived.Test.YtgmeahogdjhejaaDoorWalAx
import Derived.Test.YtgmeahogdjhejaaDoorWalK
import Derived.Test.YtgmeahogdjhejaaDoorWalRI
namespace Go.Proofs.YtgmeahogdjhejaaDoor
set_option linter.unusedVariables false
set_option linter.unusedSimpArgs false
open Go.RowKit Go.Shelf

set_option maxRecDepth 100000 in
set_option maxHeartbeats 2000000 in
/-- The document's May. -/
theorem refMay_any {b : Nat} {S : Nat → Prop} {d : DS} {w : World} (h : (Rf.RefA b S d).says w) (hl : d.sure.length ≤ 4096) (slot log : Int) :
    Calls Tryd.prog 19 #[.pointer (some ⟨b, 0, none⟩), .int .i64 slot, .int .i64 log] w fun e w' => e = .returned (.bool (decide (mayP d.sure.length slot log))) ∧ Ext0 w w' := by
  obtain ⟨r, hr, H⟩ := Rf.RefA.opens h
  have hc0 : w.cell? ⟨b, 0, none⟩ = some r.v1 := cell_of_row w b 0 _ _ _ (H.at_ 0 rfl)
  obtain ⟨A, c, hv⟩ := Rf.row_len (H.get 1 rfl)
  rw [hv, hr.gl] at hc0
  obtain ⟨n, hn⟩ : ∃ n, d.sure.length = n := ⟨_, rfl⟩
  rw [hn] at hc0 hl ⊢
  clear H hv hr h hn
  by_cases h1 : 0 < slot
  · by_cases h2 : 0 < log
    · by_cases h3 : slot ≤ (n : Int)
      · by_cases h4 : log ≤ (n : Int)
        · have hw1 : IntKind.i64.wrap (slot + slot) = slot + slot := by rw [IntKind.wrap_i64]; omega
          have hw2 : IntKind.i64.wrap (slot + slot + log) = slot + slot + log := by rw [IntKind.wrap_i64]; omega
          by_cases h5 : slot + slot + log ≤ (n : Int)
          · rw [show decide (mayP n slot log) = true from decide_eq_true ⟨h1, h2, h3, h4, by omega⟩]
            go_enter Tryd.func19, Tryd.ntmps19
            go_wp2
            go_ret
            exact ⟨rfl, Ext.refl _ _⟩
          · rw [show decide (mayP n slot log) = false from decide_eq_false (fun h => h5 (by have := h.2.2.2.2; omega))]
            go_enter Tryd.func19, Tryd.ntmps19
            go_wp2
            go_ret
            exact ⟨rfl, Ext.refl _ _⟩
        · rw [show decide (mayP n slot log) = false from decide_eq_false (fun h => h4 h.2.2.2.1)]
          go_enter Tryd.func19, Tryd.ntmps19
          go_wp2
          go_ret
          exact ⟨rfl, Ext.refl _ _⟩
      · rw [show decide (mayP n slot log) = false from decide_eq_false (fun h => h3 h.2.2.1)]
        go_enter Tryd.func19, Tryd.ntmps19
        go_wp2
        go_ret
        exact ⟨rfl, Ext.refl _ _⟩
    · rw [show decide (mayP n slot log) = false from decide_eq_false (fun h => h2 h.2.1)]
      go_enter Tryd.func19, Tryd.ntmps19
      go_wp2
      go_ret
      exact ⟨rfl, Ext.refl _ _⟩
  · rw [show decide (mayP n slot log) = false from decide_eq_false (fun h => h1 h.1)]
    go_enter Tryd.func19, Tryd.ntmps19
    go_wp2
    go_ret
    exact ⟨rfl, Ext.refl _ _⟩
def NoneE (k : Int) (w : World) (e : Ending) (w' : World) : Prop := e = .returned (.tuple #[.pointer none, .slice none 0 0, .slice none 0 0, .int .i64 k]) ∧ Ext0 w w'
set_option maxRecDepth 100000 in
set_option maxHeartbeats 2000000 in
/-- A layout that may not be so. -/
theorem open_bad {b bs bm : Nat} {d : DS} {W0 : Int} (w0 : World) (h : (DiskA b bs bm d).says w0) (hf : d.Fine W0) (slot log : Int) (hm : ¬ mayP d.sure.length slot log) :
    Calls Tryd.prog 9 #[.pointer (some ⟨b, 0, none⟩), .int .i64 slot, .int .i64 log] w0 (NoneE 1 w0) := by
  have H : SH (fun _ => False) w0 w0 [] := SH.nil _ _
  have hdis : ∀ w : World, Ext0 w0 w → (DiskA b bs bm d).says w := fun w hE => (DiskA b bs bm d).keep w0 w (fun j hj => hE.block j (DiskA.fp_lt h hj) (fun e => e)) h
  have hmm := fun {w : World} (hE : Ext0 w0 w) => may_any w (hdis w hE) hf slot log
  rw [show decide (mayP d.sure.length slot log) = false from decide_eq_false hm] at hmm
  clear h hdis hm
  go_enter Tryd.func9, Tryd.ntmps9
  go_wp2_with (first
    | (refine L_box (cs := #[.pointer (some ⟨b, 0, none⟩), .int .i64 slot, .int .i64 log, .int .i64 (-1), .int .i64 0, .int .i64 0, .int .i64 0, .bool false, .bool false]) rfl rfl H rfl rfl ?_; clear H; intro jb w H; (try simp only [Act.put, List.setIfInBounds_toArray, List.set_cons_succ, List.set_cons_zero, List.getElem_toArray, List.getElem_cons_succ, List.getElem_cons_zero]))
    | (refine L_loadmidp (off := 0) (ty := 60) rfl rfl H 0 rfl rfl Tryd.underlying60 rfl info60 [.pointer (some ⟨b, 0, none⟩), .int .i64 slot, .int .i64 log] rfl (fun j hj => by rcases (show j = 0 ∨ j = 1 ∨ j = 2 by omega) with rfl | rfl | rfl <;> rfl) ?_; (try simp only [Act.put, List.setIfInBounds_toArray, List.set_cons_succ, List.set_cons_zero, List.getElem_toArray, List.getElem_cons_succ, List.getElem_cons_zero]))
    | (go_at_call 27; refine (hmm H.ext).mono ?_; rintro e1 w1 ⟨rfl, hE⟩; replace H := H.calls hE; clear hE))
  (try simp only [Exit.inBlock, Exit.then])
  refine bodyPost_ret (results_tmp4 rfl _ _ _) rfl ?_
  exact ⟨rfl, H.ext⟩
set_option maxRecDepth 100000 in
set_option maxHeartbeats 2000000 in
theorem open_nil (w0 : World) (slot log : Int) : Calls Tryd.prog 9 #[.pointer none, .int .i64 slot, .int .i64 log] w0 (NoneE 1 w0) := by
  have H : SH (fun _ => False) w0 w0 [] := SH.nil _ _
  have hmm := fun {w : World} => may_nil w slot log
  go_enter Tryd.func9, Tryd.ntmps9
  go_wp2_with (first
    | (refine L_box (cs := #[.pointer none, .int .i64 slot, .int .i64 log, .int .i64 (-1), .int .i64 0, .int .i64 0, .int .i64 0, .bool false, .bool false]) rfl rfl H rfl rfl ?_; clear H; intro jb w H; (try simp only [Act.put, List.setIfInBounds_toArray, List.set_cons_succ, List.set_cons_zero, List.getElem_toArray, List.getElem_cons_succ, List.getElem_cons_zero]))
    | (refine L_loadmidp (off := 0) (ty := 60) rfl rfl H 0 rfl rfl Tryd.underlying60 rfl info60 [.pointer none, .int .i64 slot, .int .i64 log] rfl (fun j hj => by rcases (show j = 0 ∨ j = 1 ∨ j = 2 by omega) with rfl | rfl | rfl <;> rfl) ?_; (try simp only [Act.put, List.setIfInBounds_toArray, List.set_cons_succ, List.set_cons_zero, List.getElem_toArray, List.getElem_cons_succ, List.getElem_cons_zero]))
    | (go_at_call 27; refine hmm.mono ?_; rintro e1 w1 ⟨rfl, hE⟩; replace H := H.calls hE; clear hE))
  (try simp only [Exit.inBlock, Exit.then])
  refine bodyPost_ret (results_tmp4 rfl _ _ _) rfl ?_
  exact ⟨rfl, H.ext⟩
set_option maxRecDepth 100000 in
set_option maxHeartbeats 2000000 in
theorem format_nil (w0 : World) (slot log : Int) (v : Value) : Calls Tryd.prog 8 #[.pointer none, .int .i64 slot, .int .i64 log, v] w0 fun e w' => e = .returned (.int .i64 1) ∧ Ext0 w0 w' := by
  have H : SH (fun _ => False) w0 w0 [] := SH.nil _ _
  have hmm := fun {w : World} => may_nil w slot log
  go_enter Tryd.func8, Tryd.ntmps8
  go_wp2_with (first
    | (refine L_alloc rfl rfl H Tryd.zeroValue60 ?_; clear H; intro g3 w H; simp only [Value.cells] at H; (try simp only [Act.put, List.setIfInBounds_toArray, List.set_cons_succ, List.set_cons_zero, List.getElem_toArray, List.getElem_cons_succ, List.getElem_cons_zero]))
    | (refine L_storerow rfl rfl H 0 rfl rfl rfl info60 rfl rfl (one3 _ _ _ rfl rfl rfl) ?_; clear H; intro w H; simp only [List.set_cons_zero, List.set_cons_succ, List.setIfInBounds_toArray, Act.eval, Array.getD_eq_getD_getElem?, List.getElem?_toArray, List.getElem?_cons_succ, List.getElem?_cons_zero, Option.getD_some] at H; (try simp only [Act.put, List.setIfInBounds_toArray, List.set_cons_succ, List.set_cons_zero, List.getElem_toArray, List.getElem_cons_succ, List.getElem_cons_zero]))
    | (refine L_loadrow rfl rfl H 0 rfl rfl Tryd.underlying60 rfl info60 ?hn ?_; (case hn => first | rfl | assumption | (simp only [List.size_toArray]; assumption)); (try simp only [Act.put, List.setIfInBounds_toArray, List.set_cons_succ, List.set_cons_zero, List.getElem_toArray, List.getElem_cons_succ, List.getElem_cons_zero]))
    | (go_at_call 27; refine hmm.mono ?_; rintro e1 w1 ⟨rfl, hE⟩; replace H := H.calls hE; clear hE))
  go_ret
  exact ⟨rfl, H.ext⟩
/-- Where nothing was written there is none. -/
theorem open_new {N : Nat} (hN : N ≤ 4096) {slot log : Nat} (hm : mayP (DS.new N).sure.length slot log) : openP (DS.new N) slot log = none := by
  have hd := Dsk.new N hN
  have hl : (DS.new N).sure.length = N := by simp [DS.new]
  rw [hl] at hm
  have hm5 := hm.2.2.2.2
  unfold openP bestP
  rw [hd.between (by omega), hd.between (by omega), zeros_between, lift_zero]
set_option maxRecDepth 100000 in
set_option maxHeartbeats 4000000 in
theorem wnobody_walk (se : Int) (hse : 0 ≤ se ∧ se ≤ 255) (slot : Int) (hslot : -9223372036854775808 ≤ slot ∧ slot ≤ 9223372036854775807) (log : Int) (hlog : -9223372036854775808 ≤ log ∧ log ≤ 9223372036854775807) (v : Value) (w0 : World) :
    Calls Tryd.prog 4 #[.int .u8 se, .int .i64 slot, .int .i64 log, v] w0 fun e w' => e = .returned (.bool true) ∧ Ext0 w0 w' := by
  have H : SH (fun _ => False) w0 w0 [] := SH.nil _ _
  obtain ⟨n, rfl⟩ := Int.eq_ofNat_of_zero_le hse.1
  have hw0 : IntKind.i64.wrap (n : Int) = (n : Int) := by rw [IntKind.wrap_i64]; omega
  have hl0 : (DS.new n).sure.length = n := by simp [DS.new]
  have hf0 : (DS.new n).Fine 0 := DS.Fine.new n (by omega)
  have hnew := fun {w : World} => new_any (n : Int) w
  rw [show min (n : Int).toNat 4096 = n by rw [Int.toNat_natCast]; omega] at hnew
  have hrnew := fun {w : World} => Rf.refNew_any (n : Int) w
  rw [show min (n : Int).toNat 4096 = n by rw [Int.toNat_natCast]; omega] at hrnew
  have hrmay := fun {b : Nat} {S : Nat → Prop} {w : World} (h : (Rf.RefA b S (DS.new n)).says w) => refMay_any h (by rw [hl0]; omega) slot log
  obtain ⟨q, hq⟩ : ∃ q, decide (mayP (DS.new n).sure.length slot log) = q := ⟨_, rfl⟩
  rw [hq] at hrmay
  have hopn : ∀ {b bs bm : Nat} {w : World}, (DiskA b bs bm (DS.new n)).says w → Calls Tryd.prog 9 #[.pointer (some ⟨b, 0, none⟩), .int .i64 slot, .int .i64 log] w (NoneE (if q then 15 else 1) w) := fun {b bs bm w} hD => by
    by_cases hm : mayP (DS.new n).sure.length slot log
    · obtain rfl : q = true := by rw [← hq]; exact decide_eq_true hm
      obtain ⟨s, rfl⟩ := Int.eq_ofNat_of_zero_le (show 0 ≤ slot by have := hm.1; omega)
      obtain ⟨l, rfl⟩ := Int.eq_ofNat_of_zero_le (show 0 ≤ log by have := hm.2.1; omega)
      refine (open_any w hD hf0 s l hm).mono fun e w' h => ?_
      rw [open_new (by omega) hm] at h
      rcases h with h | ⟨_, _, _, _, _, _, _, h, _⟩
      · exact h.2
      · cases h
    · obtain rfl : q = false := by rw [← hq]; exact decide_eq_false hm
      exact open_bad w hD hf0 slot log hm
  unfold NoneE at hopn
  have hon := fun {w : World} => open_nil w slot log
  unfold NoneE at hon
  clear hse hslot hlog hl0 hf0 hq
  cases q
  all_goals
    simp only [Bool.false_eq_true, if_true, if_false] at hopn
    go_enter Tryd.func4, Tryd.ntmps4
    go_upto_region 6 with (first
      | (go_at_call 10; refine (nil_checkpoint _ _).mono ?_; rintro e w ⟨rfl, hE⟩; replace H := H.calls hE; clear hE)
      | (go_at_call 13; refine (nil_append _ _).mono ?_; rintro e w ⟨rfl, hE⟩; replace H := H.calls hE; clear hE)
      | (go_at_call 16; refine (nil_commit _).mono ?_; rintro e w ⟨rfl, hE⟩; replace H := H.calls hE; clear hE)
      | (go_at_call 17; refine (nil_epoch _).mono ?_; rintro e w ⟨rfl, hE⟩; replace H := H.calls hE; clear hE)
      | (go_at_call 12; refine (nil_seq _).mono ?_; rintro e w ⟨rfl, hE⟩; replace H := H.calls hE; clear hE)
      | (go_at_call 11; refine (nil_room _).mono ?_; rintro e w ⟨rfl, hE⟩; replace H := H.calls hE; clear hE)
      | (go_at_call 18; refine (nil_place _).mono ?_; rintro e w ⟨rfl, hE⟩; replace H := H.calls hE; clear hE)
      | (go_at_call 7; refine hnew.mono ?_; rintro e w ⟨b, bs, bm, rfl, h⟩; replace H := H.cat h; clear h; simp only [List.cons_append, List.nil_append] at H)
      | (go_at_call 9; refine (hopn (H.get 0 rfl)).mono ?_; rintro e w ⟨rfl, hE⟩; replace H := H.calls hE; clear hE))
    go_upto_region 8 with (first
      | (go_at_call 20; refine hrnew.mono ?_; rintro e w ⟨rb, rfl, hE, hsay⟩; replace H := H.calls hE; clear hE)
      | (go_at_call 19; refine (hrmay hsay).mono ?_; rintro e w ⟨rfl, hE⟩; replace H := H.calls hE; clear hE hsay))
    go_wp2_with (first
      | (go_at_call 9; refine hon.mono ?_; rintro e w ⟨rfl, hE⟩; replace H := H.calls hE; clear hE)
      | (go_at_call 14; refine (awake_any _).mono ?_; rintro e w ⟨rfl, hE⟩; replace H := H.calls hE; clear hE)
      | (go_at_call 8; refine (format_nil _ _ _ _).mono ?_; rintro e w ⟨rfl, hE⟩; replace H := H.calls hE; clear hE))
    go_ret
    exact ⟨rfl, H.ext⟩
end Go.Proofs.YtgmeahogdjhejaaDoor
