/- Tables: Insert, where a new row is wanted; Insert of one block. -/
import Derived.Test.YtoaieodcdbbndaaTabZ
namespace Go.Proofs.Ytoaieodcdbbndaa
set_option linter.unusedVariables false
set_option linter.unusedSimpArgs false
open Go.RowKit

set_option maxRecDepth 100000 in
set_option maxHeartbeats 4000000 in
/-- Insert, no room: a new row. -/
theorem insertGrow_any {w0 w : World} {L : List Asr} {g c gl n i : Nat} {cur : Array Value} {qs : List BV} {p : BV}
    (H : SH (fun _ => False) w0 w (pt g (.cells cur 45 (0, 0)) :: pt gl (.cells (bvCells p).toArray 45 (0, 0)) :: L))
    (hcs : cur.size = c * 6) (hrow : cur.toList.take (n * 6) = cellsOf bvCells qs) (hi : i < n) (hnc : n ≤ c) (hnc2 : c < n + 1) (hn : n ≤ 1000000) :
    Calls Try.prog 52 #[.slice (some ⟨g, 0, none⟩) n c, .int .i64 (i : Int), .slice (some ⟨gl, 0, none⟩) 1 1] w (InsRel w0 (pt gl (.cells (bvCells p).toArray 45 (0, 0)) :: L) (n + 1) (qs.take i ++ p :: qs.drop i)) := by
  obtain rfl : c = n := by omega
  obtain ⟨i0, hi0, hz0, hzs, hzb⟩ := info_parts infoBZ
  have hg := H.at_ 0 rfl
  have hgl := H.at_ 1 rfl
  obtain ⟨K, hK⟩ : ∃ K, cellsOf bvCells qs = K := ⟨_, rfl⟩
  have hKl : K.length = c * 6 := by rw [← hK, ← hrow, List.length_take, Array.length_toList]; omega
  have hK1 : ∀ v ∈ K, v.oneCell' = true := by rw [← hK]; exact cells_one qs
  have hKt : K.take (i * 6) = cellsOf bvCells (qs.take i) := by rw [← hK, cells_take]
  have hKd : K.drop (i * 6) = cellsOf bvCells (qs.drop i) := by rw [← hK, cells_drop]
  rw [hK] at hrow
  have hold : (Builtin.firstCells i0.size i (.slice (some ⟨g, 0, none⟩) i c)).run Try.prog w.drew = .ok (K.take (i * 6)).toArray w.drew := by
    rw [hzs]
    have := run_firstCells_some (P := Try.prog) w.drew 6 i ⟨g, 0, none⟩ i c (K.take (i * 6)) (by rw [List.length_take]; omega) (fun j v hj => by
      have h := src_row (w := w.drew) hg hrow 0 j v
      rw [List.drop_zero] at h
      rw [List.getElem?_take] at hj
      split at hj
      · exact h hj
      · cases hj)
    exact this
  have hkk : (c : Int) + 1 - (i : Int) = ((c + 1 - i : Nat) : Int) := by omega
  have hik : i + (c + 1 - i) = c + 1 := by omega
  have hbig : (c + 1) * 64 ≤ 140737488355328 := by omega
  have hroom : c < c + 1 := by omega
  obtain ⟨G, hG⟩ : ∃ G, G = grownCap w (c + 1) c 45 := ⟨_, rfl⟩
  have hGn : c + 1 ≤ G := by rw [hG]; exact grownCap_ge w _ _ _
  have hGm : G ≤ maxLen := by
    rw [hG]
    exact grownCap_le_maxLen w (c + 1) c 45 (by unfold maxLen; omega)
  obtain ⟨ROW, hROW⟩ : ∃ ROW : Array Value, ROW = (K.take (i * 6)).toArray ++ Builtin.zeroCells (Value.agg #[.int .i64 0, .int .i64 0, .int .i64 0, .int .i64 0, .int .i64 0, .slice none 0 0]).cells (c + 1 - i) ++ Builtin.zeroCells (Value.agg #[.int .i64 0, .int .i64 0, .int .i64 0, .int .i64 0, .int .i64 0, .slice none 0 0]).cells (G - (c + 1)) := ⟨_, rfl⟩
  have hrz : ∀ ty, (Builtin.append_ #[22, 3] ty #[.slice (some ⟨g, 0, none⟩) i c, .int .i64 ((c : Int) + 1 - (i : Int))]).run Try.prog w =
      .ok (.slice (some ⟨w.heap.size, 0, none⟩) (c + 1) G) (w.drew.alloc (.cells ROW 45)) := fun ty => by
    have h := Lib.run_append_grow_zeros (P := Try.prog) w 22 3 ty 45 i0 _ .i64 .i64 Try.underlying22 Try.underlying3 hi0 hz0 (some ⟨g, 0, none⟩) i c (K.take (i * 6)) hold (c + 1 - i) (by omega) (by rw [hzs]; omega) (by omega) (by omega) (by rw [hzb]; omega) (by rw [hzb, hik]; exact growslice_fits hroom hbig)
    rw [hik] at h
    rw [hkk, h, hROW, hG]
  obtain ⟨Z, hZ⟩ : ∃ Z, ROW.toList = K.take (i * 6) ++ Z ∧ Z.length = (G - i) * 6 := by
    refine ⟨(Builtin.zeroCells (Value.agg #[.int .i64 0, .int .i64 0, .int .i64 0, .int .i64 0, .int .i64 0, .slice none 0 0]).cells (c + 1 - i) ++ Builtin.zeroCells (Value.agg #[.int .i64 0, .int .i64 0, .int .i64 0, .int .i64 0, .int .i64 0, .slice none 0 0]).cells (G - (c + 1))).toList, by rw [hROW]; simp, ?_⟩
    simp [Builtin.zeroCells, Value.cells]
    omega
  have hRs : ROW.size = G * 6 := by
    have := congrArg List.length hZ.1
    rw [Array.length_toList, List.length_append, List.length_take, hZ.2, hKl] at this
    omega
  clear hROW hold hkk hG
  have hw1 : IntKind.i64.wrap ((i : Int) + 1) = (i : Int) + 1 := by rw [IntKind.wrap_i64]; omega
  have hw2 : IntKind.i64.wrap ((c : Int) + 1) = (c : Int) + 1 := by rw [IntKind.wrap_i64]; omega
  have hw3 : IntKind.i64.wrap ((c : Int) + 1 - (i : Int)) = (c : Int) + 1 - (i : Int) := by rw [IntKind.wrap_i64]; omega
  have hb1 : (0 : Int) ≤ (i : Int) + 1 := by omega
  have htn : ((i : Int) + 1).toNat = i + 1 := by omega
  have hz2 : ¬ ((i : Int) = (c : Int)) := by omega
  have hzb2 : ((i : Int) == (c : Int)) = false := by simp; omega
  have hin : i ≤ c := by omega
  have hini : (i : Int) ≤ (c : Int) := by omega
  have hinic : (i : Int) ≤ (c : Int) + 1 := by omega
  have hini2 : (i : Int) + 1 ≤ (c : Int) + 1 := by omega
  have hb4 : ¬ (c = i) := by omega
  have hb6 : ¬ (G = i) := by omega
  have hb7 : ¬ (G = i + 1) := by omega
  have hnci : (c : Int) < (c : Int) + 1 := by omega
  obtain ⟨K1, hK1e⟩ : ∃ K1, K.take (i * 6) = K1 := ⟨_, rfl⟩
  obtain ⟨K2, hK2e⟩ : ∃ K2, K.drop (i * 6) = K2 := ⟨_, rfl⟩
  have hK1l : K1.length = i * 6 := by rw [← hK1e, List.length_take]; omega
  have hK2l : K2.length = (c - i) * 6 := by rw [← hK2e, List.length_drop]; omega
  have hres : (spl (spl ROW.toList (i * 6) (bvCells p)) ((i + 1) * 6) K2).take ((c + 1) * 6) = cellsOf bvCells (qs.take i ++ p :: qs.drop i) := by
    rw [hZ.1, hK1e, grow_cells K1 Z (bvCells p) K2 i hK1l (bvLen p) (by rw [hZ.2, hK2l]; omega), cellsOf_append]
    show _ = cellsOf bvCells (qs.take i) ++ (bvCells p ++ cellsOf bvCells (qs.drop i))
    rw [← hKt, ← hKd, hK1e, hK2e]
    have hl : (K1 ++ (bvCells p ++ K2)).length = (c + 1) * 6 := by
      rw [List.length_append, List.length_append, bvLen]
      omega
    rw [← List.append_assoc (bvCells p), ← List.append_assoc K1, List.take_left' hl]
  have hcpA : ∀ (W : World) (gn : Nat), W.heap[gn]? = some (.cells ROW 45 (0, 0)) → W.heap[gl]? = some (.cells (bvCells p).toArray 45 (0, 0)) → ∀ ty dc, (Builtin.copy_ #[22, 22] ty #[.slice (some ⟨gn, i * 6, none⟩) (c + 1 - i) dc, .slice (some ⟨gl, 0, none⟩) 1 1]).run Try.prog W = .ok (goInt 1) (W.setRow gn (spl ROW.toList (i * 6) (bvCells p)).toArray) := fun W gn h1 h2 ty dc => by
    have h := run_copy_rowK (P := Try.prog) W 22 22 ty 45 6 gn (i * 6) (c + 1 - i) dc ⟨gl, 0, none⟩ 1 1 ROW 45 (bvCells p) Try.underlying22 info45 h1
      (by rw [bvLen]; simp only [Nat.min_def]; split <;> omega) (fun j v hj => by rw [Addr.add_mid, cell_of_row W gl _ _ _ _ h2, Nat.zero_add]; simpa using hj) (by rw [bvLen]; omega) (bvOne p)
    rw [show Nat.min 1 (c + 1 - i) = 1 by simp only [Nat.min_def]; split <;> omega] at h
    exact h
  obtain ⟨cur1, hcur1⟩ : ∃ cur1, (spl ROW.toList (i * 6) (bvCells p)).toArray = cur1 := ⟨_, rfl⟩
  rw [hcur1] at hcpA
  rw [show spl ROW.toList (i * 6) (bvCells p) = cur1.toList by rw [← hcur1]] at hres
  have hcz1 : cur1.size = G * 6 := by
    rw [← hcur1]
    simp only [spl, List.size_toArray, List.length_append, List.length_take, List.length_drop, Array.length_toList, bvLen]
    omega
  have hcpB : ∀ (W : World) (gn : Nat), W.heap[gn]? = some (.cells cur1 45 (0, 0)) → W.heap[g]? = some (.cells cur 45 (0, 0)) → ∀ ty dc sc, (Builtin.copy_ #[22, 22] ty #[.slice (some ⟨gn, (i + 1) * 6, none⟩) (c - i) dc, .slice (some ⟨g, i * 6, none⟩) (c - i) sc]).run Try.prog W = .ok (goInt ((c - i : Nat) : Int)) (W.setRow gn (spl cur1.toList ((i + 1) * 6) K2).toArray) := fun W gn h1 h2 ty dc sc => by
    have h := run_copy_rowK (P := Try.prog) W 22 22 ty 45 6 gn ((i + 1) * 6) (c - i) dc ⟨g, i * 6, none⟩ (c - i) sc cur1 45 K2 Try.underlying22 info45 h1
      (by rw [hK2l]; simp only [Nat.min_def]; split <;> omega) (by rw [← hK2e]; exact src_row h2 hrow (i * 6)) (by omega) (fun v hv => by rw [← hK2e] at hv; exact hK1 v (List.mem_of_mem_drop hv))
    rw [show Nat.min (c - i) (c - i) = c - i by simp only [Nat.min_def]; split <;> omega] at h
    exact h
  have HC := Lib.hid (And.intro hcz1 (And.intro hres (And.intro hGn (And.intro hGm hK2l))))
  have HZ := Lib.hid (And.intro hRs hcur1)
  clear hcur1 hcz1 hres hg hgl hK1 hrow hKl hK hKt hKd hK1e hK2e hK1l hK2l hZ hik hbig hroom hGm hRs hzb hz0 hzs hi0
  go_enter Try.func52, Try.ntmps52
  go_upto_region 11 with (first
    | (at_builtin; refine L_appendRun rfl rfl rfl rfl (hrz _) ?_; clear hrz; have HW := (H.drew).alloc (.cells ROW 45); clear H; have H := HW; clear HW; simp only [show w.drew.heap.size = w.heap.size from rfl] at H; generalize w.heap.size = gn at *; generalize w.drew.alloc (.cells ROW 45) = wA at *)
    | (have hq := hcpA _ _ (H.at_ 0 rfl) (H.at_ 2 rfl); refine L_copyRun rfl rfl rfl rfl (hq _ _) ?_; clear hq; have HW := H.setRow (cs := cur1) 0 rfl; simp only [List.set_cons_zero] at HW; clear H; have H := HW; clear HW))
  have H1 := H.drop (L' := []) (List.nil_sublist _)
  have HD := H.drew
  refine D_start H1 (by kernel_rfl) (fun hS => ?_)
  try simp only [Act.put, List.setIfInBounds_toArray, List.set_cons_succ, List.set_cons_zero]
  refine D_take 0 (v := ?_) rfl (by kernel_rfl) (by kernel_rfl) (by kernel_rfl) (fun _ _ _ h => h) rfl (by rfl) (fun W hS => ?_) hS ?_
  rotate_left; (focus (first | (go_simp; done) | (go_simp; with_reducible rfl) | (go_simp; rfl))); all_goals skip; (try simp only [List.set_cons_succ, List.set_cons_zero])
  refine D_take 1 (v := ?_) rfl (by kernel_rfl) (by kernel_rfl) (by kernel_rfl) (fun _ _ _ h => h) rfl (by rfl) (fun W hS => ?_) hS ?_
  rotate_left; (focus (first | (go_simp; done) | (go_simp; with_reducible rfl) | (go_simp; rfl))); all_goals skip; (try simp only [List.set_cons_succ, List.set_cons_zero])
  refine D_take 2 (v := ?_) rfl (by kernel_rfl) (by kernel_rfl) (by kernel_rfl) (fun _ _ _ h => h) rfl (by rfl) (fun W hS => ?_) hS ?_
  rotate_left; (focus (first | (go_simp; done) | (go_simp; with_reducible rfl) | (go_simp; rfl))); all_goals skip; (try simp only [List.set_cons_succ, List.set_cons_zero])
  refine D_take 3 (v := ?_) rfl (by kernel_rfl) (by kernel_rfl) (by kernel_rfl) (fun _ _ _ h => h) rfl (by rfl) (fun W hS => ?_) hS ?_
  rotate_left; (focus (first | (go_simp; done) | (go_simp; with_reducible rfl) | (go_simp; rfl))); all_goals skip; (try simp only [List.set_cons_succ, List.set_cons_zero])
  refine D_take 4 (v := ?_) rfl (by kernel_rfl) (by kernel_rfl) (by kernel_rfl) (fun _ _ _ h => h) rfl (by rfl) (fun W hS => ?_) hS ?_
  rotate_left; (focus (first | (go_simp; done) | (go_simp; with_reducible rfl) | (go_simp; rfl))); all_goals skip; (try simp only [List.set_cons_succ, List.set_cons_zero])
  refine D_take 5 (v := ?_) rfl (by kernel_rfl) (by kernel_rfl) (by kernel_rfl) (fun _ _ _ h => h) rfl (by rfl) (fun W hS => ?_) hS ?_
  rotate_left; (focus (first | (go_simp; done) | (go_simp; with_reducible rfl) | (go_simp; rfl))); all_goals skip; (try simp only [List.set_cons_succ, List.set_cons_zero])
  refine D_take 6 (v := ?_) rfl (by kernel_rfl) (by kernel_rfl) (by kernel_rfl) (fun _ _ _ h => h) rfl (by rfl) (fun W hS => ?_) hS ?_
  rotate_left; (focus (first | (go_simp; done) | (go_simp; with_reducible rfl) | (go_simp; rfl))); all_goals skip; (try simp only [List.set_cons_succ, List.set_cons_zero])
  refine D_take 7 (v := ?_) rfl (by kernel_rfl) (by kernel_rfl) (by kernel_rfl) (fun _ _ _ h => h) rfl (by rfl) (fun W hS => ?_) hS ?_
  rotate_left; (focus (first | (go_simp; done) | (go_simp; with_reducible rfl) | (go_simp; rfl))); all_goals skip; (try simp only [List.set_cons_succ, List.set_cons_zero])
  refine D_one 8 rfl (by kernel_rfl) (by rfl) ?_
  have hq := hcpB _ gn (HD.at_ 0 rfl) (HD.at_ 1 rfl)
  refine W_copyRun rfl rfl rfl (hq _ _ _) ?_
  have HW := HD.setRow (cs := (spl cur1.toList ((i + 1) * 6) K2).toArray) 0 rfl
  simp only [List.set_cons_zero] at HW
  refine ⟨HW.drop (L' := []) (List.nil_sublist _), ?_⟩
  try simp only [Act.put, List.getElem_toArray, List.getElem_cons_succ, List.getElem_cons_zero, List.setIfInBounds_toArray, List.set_cons_succ, List.set_cons_zero]
  refine wpAnyH_done (by kernel_rfl) ?_ _
  clear H H1 hS HD
  go_wp2_with fail
  go_ret
  obtain ⟨h1, h2, h3, h4, h5⟩ := HC.out
  have hsz : (spl cur1.toList ((i + 1) * 6) K2).toArray.size = G * 6 := by
    simp only [spl, List.size_toArray, List.length_append, List.length_take, List.length_drop, Array.length_toList]
    omega
  have HO := (HW.drop (List.Sublist.cons_cons _ (List.Sublist.cons _ (List.Sublist.refl _)))).toOwn 0 rfl 6 (c + 1) G h3 h4 hsz _ h2
  exact ⟨_, rfl, HO⟩
/-- Insert of one block. -/
theorem insert_any {w0 w : World} {L : List Asr} {v : Value} {gl n i : Nat} {qs : List BV} {p : BV}
    (H : SH (fun _ => False) w0 w (ownA 45 6 v n (cellsOf bvCells qs) :: pt gl (.cells (bvCells p).toArray 45 (0, 0)) :: L)) (hq : n = qs.length) (hi : i ≤ n) (hn : n ≤ 1000000) :
    Calls Try.prog 52 #[v, .int .i64 (i : Int), .slice (some ⟨gl, 0, none⟩) 1 1] w (InsRel w0 (pt gl (.cells (bvCells p).toArray 45 (0, 0)) :: L) (n + 1) (qs.take i ++ p :: qs.drop i)) := by
  by_cases hin : i = n
  · subst hin
    refine (insertEnd_any H hn _ p (oneBV (H.at_ 1 rfl))).mono ?_
    rintro e w' ⟨v', rfl, h⟩
    refine ⟨v', rfl, ?_⟩
    rw [hq, List.take_length, List.drop_length, ← hq, cellsOf_append]
    exact h
  · obtain ⟨g, c, rfl⟩ := own_form (H.get 0 rfl) (by omega)
    obtain ⟨cur, H2, h1, h2, h3, h4⟩ := H.unOwn
    by_cases hr : n + 1 ≤ c
    · exact insertShift_any H2 h3 h4 (by omega) hr hn h2
    · exact insertGrow_any H2 h3 h4 (by omega) h1 (by omega) hn
end Go.Proofs.Ytoaieodcdbbndaa
