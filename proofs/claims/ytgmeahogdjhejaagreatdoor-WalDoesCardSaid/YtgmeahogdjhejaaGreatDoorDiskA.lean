/- The disk of the program: its blocks, and what its readers answer. -/
import Derived.Test.YtgmeahogdjhejaaGreatDoorMap
import Derived.Test.YtgmeahogdjhejaaGreatDoorProg
namespace Go.Proofs.YtgmeahogdjhejaaGreatDoor
set_option linter.unusedVariables false
set_option linter.unusedSimpArgs false
open Go.RowKit

structure St where
  bytes : List Int
  wr : Int
def St.cells (s : St) : List Value := s.bytes.map (Value.int .u8) ++ [.int .i64 s.wr]
def St.val (s : St) : Value := .agg s.cells.toArray
def St.Ok (s : St) : Prop := s.bytes.length = 32 ∧ ∀ x ∈ s.bytes, 0 ≤ x ∧ x ≤ 255
def St.zero : St := ⟨List.replicate 32 0, 0⟩
structure DS where
  fuse : Int
  sure : List St
  pend : List (Int × St)
  writes : Int
def flat (ss : List St) : List Value := ss.flatMap St.cells
def DiskA (b bs bm : Nat) (d : DS) : Asr where
  fp := fun i => i = b ∨ i = bs ∨ i = bm
  says := fun w => b ≠ bs ∧ b ≠ bm ∧ bs ≠ bm ∧
    w.heap[b]? = some (.cells #[.int .i64 d.fuse, .slice (some ⟨bs, 0, none⟩) d.sure.length d.sure.length, .map (some bm), .int .i64 d.writes] 63 (0, 0)) ∧
    w.heap[bs]? = some (.cells (flat d.sure).toArray 89 (0, 0)) ∧
    ∃ ents clock, w.heap[bm]? = some (.map ents clock) ∧ MapRel (Value.int .i64) St.val ents clock d.pend
  keep := fun _ _ h ⟨h1, h2, h3, h4, h5, ents, clock, h6, h7⟩ => ⟨h1, h2, h3, (h b (.inl rfl)).trans h4, (h bs (.inr (.inl rfl))).trans h5, ents, clock, (h bm (.inr (.inr rfl))).trans h6, h7⟩

theorem St.size_cells {s : St} (h : s.Ok) : s.cells.length = 33 := by simp [St.cells, h.1]
theorem St.size_arr {s : St} (h : s.Ok) : s.cells.toArray.size = 33 := by simp [St.size_cells h]
theorem St.one_cells (s : St) : s.cells.toArray.all (·.oneCell') = true := by
  refine all_oneCell_toArray (fun v hv => ?_)
  simp only [St.cells, List.mem_append, List.mem_map, List.mem_cons, List.not_mem_nil, or_false] at hv
  rcases hv with ⟨x, _, rfl⟩ | rfl <;> rfl
theorem info89 : (Tryz.prog.info? 89).map (·.size) = some 33 := by kernel_rfl

theorem zero89 (w : World) : (zeroValue 89).run Tryz.prog w = .ok St.zero.val w := by rw [Tryz.zeroValue89]; rfl

theorem size_nil (w : World) : Calls Tryz.prog 59 #[.pointer none] w fun e w' => e = .returned (.int .i64 0) ∧ w = w' := by
  go_enter Tryz.func59, Tryz.ntmps59
  go_wp2
  go_ret
  exact ⟨rfl, rfl⟩
theorem size_any (b bs bm : Nat) (d : DS) (w : World) (h : (DiskA b bs bm d).says w) :
    Calls Tryz.prog 59 #[.pointer (some ⟨b, 0, none⟩)] w fun e w' => e = .returned (.int .i64 d.sure.length) ∧ w = w' := by
  obtain ⟨_, _, _, h4, _⟩ := h
  have hc : w.cell? ⟨b, 1, none⟩ = some (.slice (some ⟨bs, 0, none⟩) d.sure.length d.sure.length) := cell_of_row w b 1 _ _ _ h4
  clear h4
  go_enter Tryz.func59, Tryz.ntmps59
  go_wp2
  go_ret
  exact ⟨rfl, rfl⟩

theorem there_nil (i : Int) (w : World) : Calls Tryz.prog 56 #[.pointer none, .int .i64 i] w fun e w' => e = .returned (.bool false) ∧ w = w' := by
  by_cases h0 : 0 ≤ i
  · have h1 : decide (i < 0) = false := by simp; omega
    go_enter Tryz.func56, Tryz.ntmps56
    go_wp2_with (go_at_call 59; refine (size_nil _).mono ?_; rintro e w' ⟨rfl, rfl⟩)
    go_ret
    exact ⟨rfl, rfl⟩
  · have h1 : decide (0 ≤ i) = false := by simp; omega
    go_enter Tryz.func56, Tryz.ntmps56
    go_wp2_with fail
    go_ret
    exact ⟨rfl, rfl⟩
theorem there_any (b bs bm : Nat) (d : DS) (i : Int) (w : World) (h : (DiskA b bs bm d).says w) :
    Calls Tryz.prog 56 #[.pointer (some ⟨b, 0, none⟩), .int .i64 i] w fun e w' => e = .returned (.bool (decide (0 ≤ i ∧ i < d.sure.length))) ∧ w = w' := by
  have hs := size_any b bs bm d w h
  generalize d.sure.length = n at hs ⊢
  by_cases h0 : 0 ≤ i
  · by_cases h2 : i < (n : Int)
    · have h3 : decide (i < (n : Int)) = true := by simp; omega
      go_enter Tryz.func56, Tryz.ntmps56
      go_wp2_with (go_at_call 59; refine hs.mono ?_; rintro e w' ⟨rfl, rfl⟩)
      go_ret
      exact ⟨by simp [h0, h2], rfl⟩
    · have h3 : decide (i < (n : Int)) = false := by simp; omega
      go_enter Tryz.func56, Tryz.ntmps56
      go_wp2_with (go_at_call 59; refine hs.mono ?_; rintro e w' ⟨rfl, rfl⟩)
      go_ret
      exact ⟨by simp [h2], rfl⟩
  · have h1 : decide (0 ≤ i) = false := by simp; omega
    go_enter Tryz.func56, Tryz.ntmps56
    go_wp2_with fail
    go_ret
    exact ⟨by simp [h0], rfl⟩

/-- What a sector is, as it was written last. -/
def DS.is (d : DS) (i : Int) : St := (getE d.pend i).getD (d.sure.getD i.toNat St.zero)

theorem flat_at : ∀ (ss : List St) (_ : ∀ s ∈ ss, s.Ok) (i : Nat) (_ : i < ss.length) (j : Nat) (_ : j < 33), (flat ss)[i * 33 + j]? = (ss.getD i St.zero).cells[j]?
  | [], _, _, h, _, _ => by simp at h
  | s :: ss, hs, 0, _, j, hj => by
    have := St.size_cells (hs s (by simp))
    simp only [flat, List.flatMap_cons]
    rw [List.getElem?_append_left (by omega)]
    simp
  | s :: ss, hs, i + 1, h, j, hj => by
    have h33 := St.size_cells (hs s (by simp))
    have ih := flat_at ss (fun x hx => hs x (by simp [hx])) i (by simpa using h) j hj
    simp only [flat, List.flatMap_cons] at ih ⊢
    rw [List.getElem?_append_right (by omega), show (i + 1) * 33 + j - s.cells.length = i * 33 + j by omega, ih]
    simp

set_option maxRecDepth 100000 in
set_option maxHeartbeats 400000 in
theorem is_yes (b bs bm : Nat) (d : DS) (i : Int) (s : St) (w : World) (h : (DiskA b bs bm d).says w) (hg : getE d.pend i = some s) (hok : s.Ok) :
    Calls Tryz.prog 57 #[.pointer (some ⟨b, 0, none⟩), .int .i64 i] w fun e w' => e = .returned s.val ∧ Ext0 w w' := by
  obtain ⟨_, _, _, h4, h5, ents, clock, h6, h7⟩ := h
  have H : SH (fun _ => False) w w [] := SH.nil _ _
  have hlk : ∀ w', w'.heap[bm]? = some (.map ents clock) → (Instr.lookup 61 (.map (some bm)) (.int .i64 i) true).run Tryz.prog w' = .ok (.tuple #[s.val, .bool true]) w' := fun w' hw' => by
    have := run_lookup_map (w := w') (keyOk_int Tryz.underlying3) Tryz.underlying61 Tryz.zeroValue89 hw' h7 i true
    simpa [hg] using this
  have hsz := St.size_arr hok
  have hone := St.one_cells s
  go_enter Tryz.func57, Tryz.ntmps57
  go_wp2_with (first | (refine L_alloc rfl rfl H zero89 ?_; clear H; intro g w H; (try simp only [Act.put, List.setIfInBounds_toArray, List.set_cons_succ, List.set_cons_zero, List.getElem_toArray, List.getElem_cons_succ, List.getElem_cons_zero])) | (refine L_load1r rfl rfl H rfl h4 (fun e => e) rfl Tryz.isAgg61 ?_; (try simp only [Act.put, List.setIfInBounds_toArray, List.set_cons_succ, List.set_cons_zero, List.getElem_toArray, List.getElem_cons_succ, List.getElem_cons_zero])) | (refine L_loadrow rfl rfl H 0 rfl rfl Tryz.underlying89 rfl info89 ?hn ?_; (case hn => first | rfl | assumption | (simp only [List.size_toArray]; assumption)); (try simp only [Act.put, List.setIfInBounds_toArray, List.set_cons_succ, List.set_cons_zero, List.getElem_toArray, List.getElem_cons_succ, List.getElem_cons_zero])) | (refine L_loadrow rfl rfl H 1 rfl rfl Tryz.underlying89 rfl info89 ?hn ?_; (case hn => first | rfl | assumption | (simp only [List.size_toArray]; assumption)); (try simp only [Act.put, List.setIfInBounds_toArray, List.set_cons_succ, List.set_cons_zero, List.getElem_toArray, List.getElem_cons_succ, List.getElem_cons_zero])) | (refine L_storerow rfl rfl H 0 rfl rfl rfl info89 ?hn ?ho ?h1 ?_; (case hn => first | rfl | assumption); (case ho => first | rfl | assumption); (case h1 => first | assumption | exact St.one_cells _ | rfl); clear H; intro w H; simp only [List.set_cons_zero, List.set_cons_succ, List.setIfInBounds_toArray, Act.eval, Array.getD_eq_getD_getElem?, List.getElem?_toArray, List.getElem?_cons_succ, List.getElem?_cons_zero, Option.getD_some] at H; (try simp only [Act.put, List.setIfInBounds_toArray, List.set_cons_succ, List.set_cons_zero, List.getElem_toArray, List.getElem_cons_succ, List.getElem_cons_zero])) | (refine L_storerow rfl rfl H 1 rfl rfl rfl info89 ?hn ?ho ?h1 ?_; (case hn => first | rfl | assumption); (case ho => first | rfl | assumption); (case h1 => first | assumption | exact St.one_cells _ | rfl); clear H; intro w H; simp only [List.set_cons_zero, List.set_cons_succ, List.setIfInBounds_toArray, Act.eval, Array.getD_eq_getD_getElem?, List.getElem?_toArray, List.getElem?_cons_succ, List.getElem?_cons_zero, Option.getD_some] at H; (try simp only [Act.put, List.setIfInBounds_toArray, List.set_cons_succ, List.set_cons_zero, List.getElem_toArray, List.getElem_cons_succ, List.getElem_cons_zero])) | (refine L_lookup rfl rfl rfl rfl (hlk _ (H.ext.keep h6 (fun e => e))) ?_))
  (try simp only [Exit.inBlock, Exit.then])
  exact L_retrow rfl H 1 rfl rfl Tryz.underlying89 rfl info89 hsz rfl ⟨rfl, H.ext⟩

set_option maxRecDepth 100000 in
set_option maxHeartbeats 400000 in
theorem is_no (b bs bm : Nat) (d : DS) (i : Int) (w : World) (h : (DiskA b bs bm d).says w) (hg : getE d.pend i = none) (hall : ∀ s ∈ d.sure, s.Ok) (h0 : 0 ≤ i) (hi : i < d.sure.length) :
    Calls Tryz.prog 57 #[.pointer (some ⟨b, 0, none⟩), .int .i64 i] w fun e w' => e = .returned (d.sure.getD i.toNat St.zero).val ∧ Ext0 w w' := by
  obtain ⟨_, _, _, h4, h5, ents, clock, h6, h7⟩ := h
  have H : SH (fun _ => False) w w [] := SH.nil _ _
  have hlk : ∀ w', w'.heap[bm]? = some (.map ents clock) → (Instr.lookup 61 (.map (some bm)) (.int .i64 i) true).run Tryz.prog w' = .ok (.tuple #[St.zero.val, .bool false]) w' := fun w' hw' => by
    have := run_lookup_map (w := w') (keyOk_int Tryz.underlying3) Tryz.underlying61 zero89 hw' h7 i true
    simpa [hg] using this
  have hmid := flat_at d.sure hall i.toNat (by omega)
  have hok : (d.sure.getD i.toNat St.zero).Ok := by
    rw [List.getD_eq_getElem?_getD, List.getElem?_eq_getElem (by omega)]
    exact hall _ (List.getElem_mem _)
  obtain ⟨k, rfl⟩ := Int.eq_ofNat_of_zero_le h0
  rw [Int.toNat_natCast] at *
  generalize hs : d.sure.getD k St.zero = s at *
  generalize hn : d.sure.length = n at *
  clear hs
  have hsz := St.size_arr hok
  have hsl := St.size_cells hok
  have hone := St.one_cells s
  have hkn : k < n := by omega
  clear h7 hall
  go_enter Tryz.func57, Tryz.ntmps57
  go_wp2_with (first | (refine L_alloc rfl rfl H zero89 ?_; clear H; intro g w H; (try simp only [Act.put, List.setIfInBounds_toArray, List.set_cons_succ, List.set_cons_zero, List.getElem_toArray, List.getElem_cons_succ, List.getElem_cons_zero])) | (refine L_load1r rfl rfl H rfl h4 (fun e => e) rfl Tryz.isAgg61 ?_; (try simp only [Act.put, List.setIfInBounds_toArray, List.set_cons_succ, List.set_cons_zero, List.getElem_toArray, List.getElem_cons_succ, List.getElem_cons_zero])) | (refine L_load1r rfl rfl H rfl h4 (fun e => e) rfl Tryz.isAgg60 ?_; (try simp only [Act.put, List.setIfInBounds_toArray, List.set_cons_succ, List.set_cons_zero, List.getElem_toArray, List.getElem_cons_succ, List.getElem_cons_zero])) | (refine L_loadrow rfl rfl H 0 rfl rfl Tryz.underlying89 rfl info89 ?hn ?_; (case hn => first | rfl | assumption | (simp only [List.size_toArray]; assumption)); (try simp only [Act.put, List.setIfInBounds_toArray, List.set_cons_succ, List.set_cons_zero, List.getElem_toArray, List.getElem_cons_succ, List.getElem_cons_zero])) | (refine L_loadrow rfl rfl H 1 rfl rfl Tryz.underlying89 rfl info89 ?hn ?_; (case hn => first | rfl | assumption | (simp only [List.size_toArray]; assumption)); (try simp only [Act.put, List.setIfInBounds_toArray, List.set_cons_succ, List.set_cons_zero, List.getElem_toArray, List.getElem_cons_succ, List.getElem_cons_zero])) | (refine L_storerow rfl rfl H 0 rfl rfl rfl info89 ?hn ?ho ?h1 ?_; (case hn => first | rfl | assumption); (case ho => first | rfl | assumption); (case h1 => first | assumption | exact St.one_cells _ | rfl); clear H; intro w H; simp only [List.set_cons_zero, List.set_cons_succ, List.setIfInBounds_toArray, Act.eval, Array.getD_eq_getD_getElem?, List.getElem?_toArray, List.getElem?_cons_succ, List.getElem?_cons_zero, Option.getD_some] at H; (try simp only [Act.put, List.setIfInBounds_toArray, List.set_cons_succ, List.set_cons_zero, List.getElem_toArray, List.getElem_cons_succ, List.getElem_cons_zero])) | (refine L_storerow rfl rfl H 1 rfl rfl rfl info89 ?hn ?ho ?h1 ?_; (case hn => first | rfl | assumption); (case ho => first | rfl | assumption); (case h1 => first | assumption | exact St.one_cells _ | rfl); clear H; intro w H; simp only [List.set_cons_zero, List.set_cons_succ, List.setIfInBounds_toArray, Act.eval, Array.getD_eq_getD_getElem?, List.getElem?_toArray, List.getElem?_cons_succ, List.getElem?_cons_zero, Option.getD_some] at H; (try simp only [Act.put, List.setIfInBounds_toArray, List.set_cons_succ, List.set_cons_zero, List.getElem_toArray, List.getElem_cons_succ, List.getElem_cons_zero])) | (refine L_lookup rfl rfl rfl rfl (hlk _ (H.ext.keep h6 (fun e => e))) ?_) | (refine L_loadmidr rfl rfl H rfl h5 (fun e => e) Tryz.underlying89 rfl info89 s.cells hsl ?hv ?_; (case hv => simpa using hmid)))
  (try simp only [Exit.inBlock, Exit.then])
  exact L_retrow rfl H 1 rfl rfl Tryz.underlying89 rfl info89 hsz rfl ⟨rfl, H.ext⟩
end Go.Proofs.YtgmeahogdjhejaaGreatDoor
