/- Catalogues: Insert. (Printed by gencat3.py.) -/
import Derived.Test.YtmfcccflohpjiaaGreatDoorCatV
import Derived.Lib.Overlaps
import Derived.Lib.AppendZerosOnto
import Derived.Laws.NewBlocks
namespace Go.Proofs.YtmfcccflohpjiaaGreatDoor
set_option linter.unusedVariables false
set_option linter.unusedSimpArgs false
open Go.RowKit

def GivesIns (w0 : World) (L : List Asr) (n : Nat) (cells : List Value) (e : Ending) (w' : World) : Prop := ∃ v', e = .returned v' ∧ SH (fun _ => False) w0 w' (ownA 39 6 v' n cells :: L)
set_option maxRecDepth 100000 in
set_option maxHeartbeats 1000000 in
theorem insertEnd_any {w0 w : World} {L : List Asr} {v : Value} {n : Nat} {cells : List Value} (H : SH (fun _ => False) w0 w (ownA 39 6 v n cells :: L)) (hn : n ≤ 1000000) (u : Value) (p : Ent) (hu : RdS eCells 6 w u [p]) :
    Calls Tryz.prog 48 #[v, .int .i64 (n : Int), u] w (GivesIns w0 L (n + 1) (cells ++ cellsOf eCells [p])) := by
  obtain ⟨A, c, rfl⟩ := own_slice (H.get 0 rfl)
  obtain ⟨B, d, rfl, _⟩ := hu.len
  have hc : n ≤ c := by
    rcases (H.get 0 rfl : w.ownsRow _ _ _ _ _ _).2 with ⟨h0, h1⟩ | ⟨g, c', cur, he, _, _, h1, _⟩
    · omega
    · cases he; exact h1
  have hci : (n : Int) ≤ (c : Int) := by omega
  have hb1 : (n + [p].length) * 56 ≤ 140737488355328 := by simp; omega
  have hb2 : n + [p].length ≤ maxLen := by simp [maxLen]; omega
  go_enter Tryz.func48, Tryz.ntmps48
  go_wp2_with (first
    | (refine L_append eLen eOne (ys := [p]) rfl rfl Tryz.underlying22 infoEZ rfl (by decide) H 0 rfl rfl rfl hu hb1 hb2 ?_; clear H; intro v2 w H hnn; clear hnn; simp only [List.set_cons_zero] at H))
  all_goals (go_ret; exact ⟨_, rfl, H⟩)
theorem run_copy_rowK {P : Program} (w : World) (dT sT ty elem : TypeId) (k : Nat) (g o dLen dCap : Nat) (a : Addr) (sLen sCap : Nat) (cur : Array Value) (t : TypeId) (cs : List Value)
    (hu : P.underlying dT = some (.slice elem)) (hs : (P.info? elem).map (·.size) = some k)
    (hg : w.heap[g]? = some (.cells cur t (0, 0))) (hn : cs.length = Nat.min sLen dLen * k)
    (hsrc : ∀ j v, cs[j]? = some v → w.cell? (a.add j) = some v) (hfit : o + cs.length ≤ cur.size) (h1 : ∀ v ∈ cs, v.oneCell' = true) :
    (Builtin.copy_ #[dT, sT] ty #[.slice (some ⟨g, o, none⟩) dLen dCap, .slice (some a) sLen sCap]).run P w =
      .ok (goInt (Nat.min sLen dLen)) (w.setRow g (spl cur.toList o cs).toArray) := by
  have hl := run_loadCells_list (P := P) w a cs hsrc
  have hst := run_storeCells_at P g o t cs 0 cur w hg (by simpa using hfit) h1
  rw [hn] at hl
  cases hq : P.info? elem with
  | none => simp [hq] at hs
  | some i =>
    have hi : i.size = k := by simpa [hq] using hs
    simp [Builtin.copy_, run_underlying hu, Builtin.lenOf, Builtin.firstCells, sizeOf, typeInfo, hq, hi, hl, hst, spl]
section
variable {P : Program} {a : Act} {w w' : World} {o : Oper} {d s : Operand} {t t' : TypeId} {v u v' : Value} {Q : Exit → Act → World → Prop}
theorem W_copyRun (ho : o.op = .call { callee := .builtin .copy, args := #[d, s], argTypes := #[t, t'] }) (hd : a.eval d = v) (hs : a.eval s = u)
    (hr : (Builtin.copy_ #[t, t'] o.type #[v, u]).run P w = .ok v' w') {K : Act → World → Prop} (h : K (a.put o.dst v') w') : o.wp P a w K Q := by
  unfold Oper.wp execOp
  simp only [ho, resolve, invoke, builtin, Sem.run_bind, Sem.run_pure, Result.andThen_ok, List.map_toArray, List.map_cons, List.map_nil, hd, hs, hr]
  exact h
theorem L_copyRun {ops : Array Oper} {rest : List Oper} (hgd : o.guard = none) (ho : o.op = .call { callee := .builtin .copy, args := #[d, s], argTypes := #[t, t'] }) (hd : a.eval d = v) (hs : a.eval s = u)
    (hr : (Builtin.copy_ #[t, t'] o.type #[v, u]).run P w = .ok v' w') (h : wpList P ops Q rest (a.put o.dst v') w') : wpList P ops Q (o :: rest) a w :=
  wpList_plain hgd fun K hK => W_copyRun ho hd hs hr (hK _ _ h)
theorem L_appendRun {ops : Array Oper} {rest : List Oper} (hgd : o.guard = none) (ho : o.op = .call { callee := .builtin .append, args := #[d, s], argTypes := #[t, t'] }) (hd : a.eval d = v) (hs : a.eval s = u)
    (hr : (Builtin.append_ #[t, t'] o.type #[v, u]).run P w = .ok v' w') (h : wpList P ops Q rest (a.put o.dst v') w') : wpList P ops Q (o :: rest) a w := by
  refine wpList_plain hgd fun K hK => ?_
  unfold Oper.wp execOp
  simp only [ho, resolve, invoke, builtin, Sem.run_bind, Sem.run_pure, Result.andThen_ok, List.map_toArray, List.map_cons, List.map_nil, hd, hs, hr]
  exact hK _ _ h
end
theorem shift_cells (C K : List Value) (n i : Nat) (hK : C.take (n * 6) = K) (hC : (n + 1) * 6 ≤ C.length) (hi : i < n) (P : List Value) (hP : P.length = 6) :
    spl (spl C ((i + 1) * 6) (K.drop (i * 6))) (i * 6) P = K.take (i * 6) ++ (P ++ (K.drop (i * 6) ++ C.drop ((n + 1) * 6))) := by
  have hKl : K.length = n * 6 := by rw [← hK, List.length_take]; omega
  have hCK : C = K ++ C.drop (n * 6) := by rw [← hK, List.take_append_drop]
  obtain ⟨K1, hK1⟩ : ∃ K1, K.take (i * 6) = K1 := ⟨_, rfl⟩
  obtain ⟨K2, hK2⟩ : ∃ K2, K.drop (i * 6) = K2 := ⟨_, rfl⟩
  have hl1 : K1.length = i * 6 := by rw [← hK1, List.length_take]; omega
  have hl2 : K2.length = (n - i) * 6 := by rw [← hK2, List.length_drop]; omega
  have hKK : K = K1 ++ K2 := by rw [← hK1, ← hK2, List.take_append_drop]
  obtain ⟨R1, hR1⟩ : ∃ R1, (C.drop (n * 6)).take 6 = R1 := ⟨_, rfl⟩
  obtain ⟨R2, hR2⟩ : ∃ R2, C.drop ((n + 1) * 6) = R2 := ⟨_, rfl⟩
  have hR : C.drop (n * 6) = R1 ++ R2 := by
    rw [← hR1, ← hR2, show (n + 1) * 6 = n * 6 + 6 by omega, ← List.drop_drop, List.take_append_drop]
  have hr1 : R1.length = 6 := by rw [← hR1, List.length_take, List.length_drop]; omega
  obtain ⟨X, hX⟩ : ∃ X, (K2 ++ R1).take 6 = X := ⟨_, rfl⟩
  obtain ⟨Y, hY⟩ : ∃ Y, (K2 ++ R1).drop 6 = Y := ⟨_, rfl⟩
  have hXl : X.length = 6 := by rw [← hX, List.length_take, List.length_append]; omega
  have hYl : Y.length = K2.length := by rw [← hY, List.length_drop, List.length_append]; omega
  have hXY : K2 ++ R1 = X ++ Y := by rw [← hX, ← hY, List.take_append_drop]
  have hC2 : C = (K1 ++ X) ++ (Y ++ R2) := by
    rw [hCK, hR, hKK]
    simp only [List.append_assoc]
    rw [← List.append_assoc K2 R1 R2, hXY, List.append_assoc]
  rw [hK1, hK2, hR2, hC2, spl_at (K1 ++ X) Y R2 K2 hYl _ (by rw [List.length_append]; omega), List.append_assoc, spl_at K1 X (K2 ++ R2) P (by omega) _ hl1.symm]
theorem grow_cells (K1 Z P K2 : List Value) (i : Nat) (h1 : K1.length = i * 6) (hP : P.length = 6) (hZ : 6 + K2.length ≤ Z.length) :
    spl (spl (K1 ++ Z) (i * 6) P) ((i + 1) * 6) K2 = K1 ++ (P ++ (K2 ++ Z.drop (6 + K2.length))) := by
  obtain ⟨Z1, hZ1⟩ : ∃ Z1, Z.take 6 = Z1 := ⟨_, rfl⟩
  obtain ⟨Z2, hZ2⟩ : ∃ Z2, (Z.drop 6).take K2.length = Z2 := ⟨_, rfl⟩
  obtain ⟨Z3, hZ3⟩ : ∃ Z3, Z.drop (6 + K2.length) = Z3 := ⟨_, rfl⟩
  have hz1 : Z1.length = 6 := by rw [← hZ1, List.length_take]; omega
  have hz2 : Z2.length = K2.length := by rw [← hZ2, List.length_take, List.length_drop]; omega
  have hZZ : Z = Z1 ++ (Z2 ++ Z3) := by rw [← hZ1, ← hZ2, ← hZ3, ← List.drop_drop, List.take_append_drop, List.take_append_drop]
  rw [hZ3, hZZ, spl_at K1 Z1 (Z2 ++ Z3) P (by omega) _ h1.symm, ← List.append_assoc K1 P, spl_at (K1 ++ P) Z2 Z3 K2 hz2 _ (by rw [List.length_append]; omega), List.append_assoc]
def InsRel (w0 : World) (L : List Asr) (n : Nat) (qs : List Ent) (e : Ending) (w' : World) : Prop := ∃ v', e = .returned v' ∧ SH (fun _ => False) w0 w' (ownA 39 6 v' n (cellsOf eCells qs) :: L)
theorem src_row {w : World} {g : Nat} {cur : Array Value} {T : TypeId} {fr : Nat × Nat} (hg : w.heap[g]? = some (.cells cur T fr)) {m : Nat} {K : List Value} (hK : cur.toList.take m = K) (i : Nat) : ∀ j v, (K.drop i)[j]? = some v → w.cell? ((⟨g, i, none⟩ : Addr).add j) = some v := fun j v hv => by
  rw [Addr.add_mid, cell_of_row w g _ cur T fr hg, ← hv, List.getElem?_drop, ← hK, List.getElem?_take, ← Array.getElem?_toList]
  have := (List.getElem?_eq_some_iff.1 hv).1
  rw [← hK, List.length_drop, List.length_take] at this
  rw [if_pos (by omega)]
set_option maxRecDepth 100000 in
set_option maxHeartbeats 4000000 in
/-- Insert, in place. -/
theorem insertShift_any {w0 w : World} {L : List Asr} {g c gl n i : Nat} {cur : Array Value} {qs : List Ent} {p : Ent}
    (H : SH (fun _ => False) w0 w (pt g (.cells cur 39 (0, 0)) :: pt gl (.cells (eCells p).toArray 39 (0, 0)) :: L))
    (hcs : cur.size = c * 6) (hrow : cur.toList.take (n * 6) = cellsOf eCells qs) (hi : i < n) (hnc : n + 1 ≤ c) (hn : n ≤ 1000000) (hcm : c ≤ maxLen) :
    Calls Tryz.prog 48 #[.slice (some ⟨g, 0, none⟩) n c, .int .i64 (i : Int), .slice (some ⟨gl, 0, none⟩) 1 1] w (InsRel w0 (pt gl (.cells (eCells p).toArray 39 (0, 0)) :: L) (n + 1) (qs.take i ++ p :: qs.drop i)) := by
  have hap : gl ≠ g := fun h => (List.pairwise_cons.1 H.apart).1 _ List.mem_cons_self g rfl h.symm
  have hg := H.at_ 0 rfl
  have hgl := H.at_ 1 rfl
  obtain ⟨K, hK⟩ : ∃ K, cellsOf eCells qs = K := ⟨_, rfl⟩
  have hKl : K.length = n * 6 := by rw [← hK, ← hrow, List.length_take, Array.length_toList]; omega
  have hres : (spl (spl cur.toList ((i + 1) * 6) (K.drop (i * 6))) (i * 6) (eCells p)).take ((n + 1) * 6) = cellsOf eCells (qs.take i ++ p :: qs.drop i) := by
    rw [shift_cells cur.toList K n i (by rw [hrow, hK]) (by rw [Array.length_toList]; omega) hi _ (eLen p), ← hK, cells_take, cells_drop, cellsOf_append]
    show _ = cellsOf eCells (qs.take i) ++ (eCells p ++ cellsOf eCells (qs.drop i))
    have hl : (cellsOf eCells (qs.take i) ++ (eCells p ++ cellsOf eCells (qs.drop i))).length = (n + 1) * 6 := by
      have h1 := congrArg List.length (cells_take qs i)
      have h2 := congrArg List.length (cells_drop qs i)
      rw [hK, List.length_take] at h1
      rw [hK, List.length_drop] at h2
      rw [List.length_append, List.length_append, eLen, ← h1, ← h2]
      omega
    rw [← List.append_assoc (eCells p), ← List.append_assoc (cellsOf eCells (qs.take i)), List.take_left' hl]
  have hK1 : ∀ v ∈ K, v.oneCell' = true := by rw [← hK]; exact cells_one qs
  rw [hK] at hrow
  have hov : ∀ lb cb, (callFunc 59 #[.slice (some ⟨gl, 0, none⟩) 1 1, .slice (some ⟨g, (i + 1) * 6, none⟩) lb cb]).run Tryz.prog w = .ok (.value (.bool false)) w := fun lb cb => by
    rw [run_callFunc_extern Tryz.func59 (by kernel_rfl) (by kernel_rfl) (by kernel_rfl) (e := Extern.SlicesOverlaps.overlaps #[22, 22] #[4]) (by kernel_rfl),
      Lib.run_overlaps_apart w 22 4 39 Tryz.underlying22 6 Tryz.sizeOf39 ⟨gl, 0, none⟩ ⟨g, (i + 1) * 6, none⟩ 1 1 lb cb hap 39 39 6 (c * 6) (by simp [World.shape?, hgl, eLen]) (by simp [World.shape?, hg, hcs]) (by omega) (frozen_of_row w gl 0 _ _ hgl) (frozen_of_row w gl 6 _ _ hgl)]
    rfl
  have hw1 : IntKind.i64.wrap ((i : Int) + 1) = (i : Int) + 1 := by rw [IntKind.wrap_i64]; omega
  have hw2 : IntKind.i64.wrap ((n : Int) + 1) = (n : Int) + 1 := by rw [IntKind.wrap_i64]; omega
  have hb1 : (0 : Int) ≤ (i : Int) + 1 := by omega
  have hb0 : (0 : Int) ≤ (n : Int) + 1 := by omega
  have htn : ((i : Int) + 1).toNat = i + 1 := by omega
  have htn2 : ((n : Int) + 1).toNat = n + 1 := by omega
  have hz2 : ¬ ((i : Int) = (n : Int)) := by omega
  have hzb : ((i : Int) == (n : Int)) = false := by simp; omega
  have hin : i ≤ n := by omega
  have hini : (i : Int) ≤ (n : Int) := by omega
  have hb2 : ¬ (c = i + 1) := by omega
  have hb4 : ¬ (c = i) := by omega
  have hb3 : (i : Int) ≤ (n : Int) + 1 := by omega
  have hb5 : (i : Int) + 1 ≤ (n : Int) + 1 := by omega
  have hnci : ¬ ((c : Int) < (n : Int) + 1) := by omega
  have hncl : (n : Int) + 1 ≤ (c : Int) := by omega
  have hcp1 : ∀ ty dc sc, (Builtin.copy_ #[22, 22] ty #[.slice (some ⟨g, (i + 1) * 6, none⟩) (n - i) dc, .slice (some ⟨g, i * 6, none⟩) (n + 1 - i) sc]).run Tryz.prog w.drew = .ok (goInt ((n - i : Nat) : Int)) (w.drew.setRow g (spl cur.toList ((i + 1) * 6) (K.drop (i * 6))).toArray) := fun ty dc sc => by
    have h := run_copy_rowK (P := Tryz.prog) w.drew 22 22 ty 39 6 g ((i + 1) * 6) (n - i) dc ⟨g, i * 6, none⟩ (n + 1 - i) sc cur 39 (K.drop (i * 6)) Tryz.underlying22 info39 hg
      (by rw [List.length_drop, hKl]; simp only [Nat.min_def]; split <;> omega) (src_row (w := w.drew) hg hrow (i * 6)) (by rw [List.length_drop, hKl]; omega) (fun v hv => hK1 v (List.mem_of_mem_drop hv))
    rw [show Nat.min (n + 1 - i) (n - i) = n - i by simp only [Nat.min_def]; split <;> omega] at h
    exact h
  obtain ⟨cur1, hcur1⟩ : ∃ cur1, (spl cur.toList ((i + 1) * 6) (K.drop (i * 6))).toArray = cur1 := ⟨_, rfl⟩
  rw [hcur1] at hcp1
  rw [show spl cur.toList ((i + 1) * 6) (K.drop (i * 6)) = cur1.toList by rw [← hcur1]] at hres
  have hcz1 : cur1.size = c * 6 := by
    rw [← hcur1]
    simp only [spl, List.size_toArray, List.length_append, List.length_take, List.length_drop, Array.length_toList, hKl]
    omega
  have hcp2 : ∀ (W : World), W.heap[g]? = some (.cells cur1 39 (0, 0)) → W.heap[gl]? = some (.cells (eCells p).toArray 39 (0, 0)) → ∀ ty dc, (Builtin.copy_ #[22, 22] ty #[.slice (some ⟨g, i * 6, none⟩) (n + 1 - i) dc, .slice (some ⟨gl, 0, none⟩) 1 1]).run Tryz.prog W = .ok (goInt 1) (W.setRow g (spl cur1.toList (i * 6) (eCells p)).toArray) := fun W h1 h2 ty dc => by
    have h := run_copy_rowK (P := Tryz.prog) W 22 22 ty 39 6 g (i * 6) (n + 1 - i) dc ⟨gl, 0, none⟩ 1 1 cur1 39 (eCells p) Tryz.underlying22 info39 h1
      (by rw [eLen]; simp only [Nat.min_def]; split <;> omega) (fun j v hj => by rw [Addr.add_mid, cell_of_row W gl _ _ _ _ h2, Nat.zero_add]; simpa using hj) (by rw [eLen]; omega) (eOne p)
    rw [show Nat.min 1 (n + 1 - i) = 1 by simp only [Nat.min_def]; split <;> omega] at h
    exact h
  have HC := Lib.hid (And.intro hcur1 (And.intro hcz1 hres))
  clear hcur1 hcz1 hres hg hgl hK1 hrow hKl hK
  go_enter Tryz.func48, Tryz.ntmps48
  go_upto_region 15 with (simp only [hov])
  have H1 := H.drop (L' := []) (List.nil_sublist _)
  refine D_start H1 (by kernel_rfl) (fun hS => ?_)
  try simp only [Act.put, List.setIfInBounds_toArray, List.set_cons_succ, List.set_cons_zero]
  refine D_take 0 (v := ?_) rfl (by kernel_rfl) (by kernel_rfl) (by kernel_rfl) (fun _ _ _ h => h) rfl (by rfl) (fun W hS => ?_) hS ?_
  rotate_left; (focus (first | (go_simp; done) | (go_simp; with_reducible rfl) | (go_simp; rfl))); all_goals skip; (try simp only [List.set_cons_succ, List.set_cons_zero])
  refine D_take 1 (v := ?_) rfl (by kernel_rfl) (by kernel_rfl) (by kernel_rfl) (fun _ _ _ h => h) rfl (by rfl) (fun W hS => ?_) hS ?_
  rotate_left; (focus (first | (go_simp; done) | (go_simp; with_reducible rfl) | (go_simp; rfl))); all_goals skip; (try simp only [List.set_cons_succ, List.set_cons_zero])
  refine D_take 2 (v := ?_) rfl (by kernel_rfl) (by kernel_rfl) (by kernel_rfl) (fun _ _ _ h => h) rfl (by rfl) (fun W hS => ?_) hS ?_
  rotate_left; (focus (first | (go_simp; done) | (go_simp; with_reducible rfl) | (go_simp; rfl))); all_goals skip; (try simp only [List.set_cons_succ, List.set_cons_zero])
  refine D_take 3 (v := ?_) rfl (by kernel_rfl) (by kernel_rfl) (by kernel_rfl) (fun _ _ _ h => h) rfl (by rfl) (fun W hS => ?_) hS ?_
  rotate_left; (focus (first | (go_simp; done) | (go_simp; with_reducible rfl) | (go_simp; rfl))); all_goals skip; (try simp only [List.set_cons_succ, List.set_cons_zero])
  refine D_take 4 (v := ?_) rfl (by kernel_rfl) (by kernel_rfl) (by kernel_rfl) (fun _ _ _ h => h) rfl (by rfl) (fun W hS => ?_) hS ?_
  rotate_left; (focus (first | (go_simp; done) | (go_simp; with_reducible rfl) | (go_simp; rfl))); all_goals skip; (try simp only [List.set_cons_succ, List.set_cons_zero])
  refine D_take 5 (v := ?_) rfl (by kernel_rfl) (by kernel_rfl) (by kernel_rfl) (fun _ _ _ h => h) rfl (by rfl) (fun W hS => ?_) hS ?_
  rotate_left; (focus (first | (go_simp; done) | (go_simp; with_reducible rfl) | (go_simp; rfl))); all_goals skip; (try simp only [List.set_cons_succ, List.set_cons_zero])
  refine D_take 6 (v := ?_) rfl (by kernel_rfl) (by kernel_rfl) (by kernel_rfl) (fun _ _ _ h => h) rfl (by rfl) (fun W hS => ?_) hS ?_
  rotate_left; (focus (first | (go_simp; done) | (go_simp; with_reducible rfl) | (go_simp; rfl))); all_goals skip; (try simp only [List.set_cons_succ, List.set_cons_zero])
  refine D_take 7 (v := ?_) rfl (by kernel_rfl) (by kernel_rfl) (by kernel_rfl) (fun _ _ _ h => h) rfl (by rfl) (fun W hS => ?_) hS ?_
  rotate_left; (focus (first | (go_simp; done) | (go_simp; with_reducible rfl) | (go_simp; rfl))); all_goals skip; (try simp only [List.set_cons_succ, List.set_cons_zero])
  refine D_one 8 rfl (by kernel_rfl) (by rfl) ?_
  refine W_copyRun rfl rfl rfl (hcp1 _ _ _) ?_
  have HW := (H.drew).setRow (cs := cur1) 0 rfl
  simp only [List.set_cons_zero] at HW
  refine ⟨HW.drop (L' := []) (List.nil_sublist _), ?_⟩
  try simp only [Act.put, List.getElem_toArray, List.getElem_cons_succ, List.getElem_cons_zero, List.setIfInBounds_toArray, List.set_cons_succ, List.set_cons_zero]
  refine wpAnyH_done (by kernel_rfl) ?_ _
  clear H H1 hS
  have H := HW
  clear HW
  go_wp2_with (first
    | (refine L_copyRun rfl rfl rfl rfl (hcp2 _ (H.at_ 0 rfl) (H.at_ 1 rfl) _ _) ?_; have HW := H.setRow (cs := (spl cur1.toList (i * 6) (eCells p)).toArray) 0 rfl; simp only [List.set_cons_zero] at HW; clear H; have H := HW; clear HW))
  go_ret
  have hsz : (spl cur1.toList (i * 6) (eCells p)).toArray.size = c * 6 := by
    have := HC.out.2.1
    simp only [spl, List.size_toArray, List.length_append, List.length_take, List.length_drop, Array.length_toList, eLen]
    omega
  have HO := H.toOwn 0 rfl 6 (n + 1) c hnc hcm hsz _ HC.out.2.2
  exact ⟨_, rfl, HO⟩
set_option maxRecDepth 100000 in
set_option maxHeartbeats 4000000 in
/-- Insert, no room: a new row. -/
theorem insertGrow_any {w0 w : World} {L : List Asr} {g c gl n i : Nat} {cur : Array Value} {qs : List Ent} {p : Ent}
    (H : SH (fun _ => False) w0 w (pt g (.cells cur 39 (0, 0)) :: pt gl (.cells (eCells p).toArray 39 (0, 0)) :: L))
    (hcs : cur.size = c * 6) (hrow : cur.toList.take (n * 6) = cellsOf eCells qs) (hi : i < n) (hnc : n ≤ c) (hnc2 : c < n + 1) (hn : n ≤ 1000000) :
    Calls Tryz.prog 48 #[.slice (some ⟨g, 0, none⟩) n c, .int .i64 (i : Int), .slice (some ⟨gl, 0, none⟩) 1 1] w (InsRel w0 (pt gl (.cells (eCells p).toArray 39 (0, 0)) :: L) (n + 1) (qs.take i ++ p :: qs.drop i)) := by
  obtain rfl : c = n := by omega
  obtain ⟨i0, hi0, hz0, hzs, hzb⟩ := info_parts infoEZ
  have hg := H.at_ 0 rfl
  have hgl := H.at_ 1 rfl
  obtain ⟨K, hK⟩ : ∃ K, cellsOf eCells qs = K := ⟨_, rfl⟩
  have hKl : K.length = c * 6 := by rw [← hK, ← hrow, List.length_take, Array.length_toList]; omega
  have hK1 : ∀ v ∈ K, v.oneCell' = true := by rw [← hK]; exact cells_one qs
  have hKt : K.take (i * 6) = cellsOf eCells (qs.take i) := by rw [← hK, cells_take]
  have hKd : K.drop (i * 6) = cellsOf eCells (qs.drop i) := by rw [← hK, cells_drop]
  rw [hK] at hrow
  have hold : (Builtin.firstCells i0.size i (.slice (some ⟨g, 0, none⟩) i c)).run Tryz.prog w.drew = .ok (K.take (i * 6)).toArray w.drew := by
    rw [hzs]
    have := run_firstCells_some (P := Tryz.prog) w.drew 6 i ⟨g, 0, none⟩ i c (K.take (i * 6)) (by rw [List.length_take]; omega) (fun j v hj => by
      have h := src_row (w := w.drew) hg hrow 0 j v
      rw [List.drop_zero] at h
      rw [List.getElem?_take] at hj
      split at hj
      · exact h hj
      · cases hj)
    exact this
  have hkk : (c : Int) + 1 - (i : Int) = ((c + 1 - i : Nat) : Int) := by omega
  have hik : i + (c + 1 - i) = c + 1 := by omega
  have hbig : (c + 1) * 56 ≤ 140737488355328 := by omega
  have hroom : c < c + 1 := by omega
  obtain ⟨G, hG⟩ : ∃ G, G = grownCap w (c + 1) c 39 := ⟨_, rfl⟩
  have hGn : c + 1 ≤ G := by rw [hG]; exact grownCap_ge w _ _ _
  have hGm : G ≤ maxLen := by
    rw [hG]
    exact grownCap_le_maxLen w (c + 1) c 39 (by unfold maxLen; omega)
  obtain ⟨ROW, hROW⟩ : ∃ ROW : Array Value, ROW = (K.take (i * 6)).toArray ++ Builtin.zeroCells (Value.agg #[.string ByteArray.empty, .int .i64 0, .int .i64 0, .int .i64 0, .int .i64 0, .int .i64 0]).cells (c + 1 - i) ++ Builtin.zeroCells (Value.agg #[.string ByteArray.empty, .int .i64 0, .int .i64 0, .int .i64 0, .int .i64 0, .int .i64 0]).cells (G - (c + 1)) := ⟨_, rfl⟩
  have hrz : ∀ ty, (Builtin.append_ #[22, 3] ty #[.slice (some ⟨g, 0, none⟩) i c, .int .i64 ((c : Int) + 1 - (i : Int))]).run Tryz.prog w =
      .ok (.slice (some ⟨w.heap.size, 0, none⟩) (c + 1) G) (w.drew.alloc (.cells ROW 39)) := fun ty => by
    have h := Lib.run_append_grow_zeros (P := Tryz.prog) w 22 3 ty 39 i0 _ .i64 .i64 Tryz.underlying22 Tryz.underlying3 hi0 hz0 (some ⟨g, 0, none⟩) i c (K.take (i * 6)) hold (c + 1 - i) (by omega) (by rw [hzs]; omega) (by omega) (by omega) (by rw [hzb]; omega) (by rw [hzb, hik]; exact growslice_fits hroom hbig)
    rw [hik] at h
    rw [hkk, h, hROW, hG]
  obtain ⟨Z, hZ⟩ : ∃ Z, ROW.toList = K.take (i * 6) ++ Z ∧ Z.length = (G - i) * 6 := by
    refine ⟨(Builtin.zeroCells (Value.agg #[.string ByteArray.empty, .int .i64 0, .int .i64 0, .int .i64 0, .int .i64 0, .int .i64 0]).cells (c + 1 - i) ++ Builtin.zeroCells (Value.agg #[.string ByteArray.empty, .int .i64 0, .int .i64 0, .int .i64 0, .int .i64 0, .int .i64 0]).cells (G - (c + 1))).toList, by rw [hROW]; simp, ?_⟩
    simp [Builtin.zeroCells, Value.cells]
    omega
  have hRs : ROW.size = G * 6 := by
    have := congrArg List.length hZ.1
    rw [Array.length_toList, List.length_append, List.length_take, hZ.2, hKl] at this
    omega
  clear hROW hold hkk hG
  have hw1 : IntKind.i64.wrap ((i : Int) + 1) = (i : Int) + 1 := by rw [IntKind.wrap_i64]; omega
  have hw2 : IntKind.i64.wrap ((c : Int) + 1) = (c : Int) + 1 := by rw [IntKind.wrap_i64]; omega
  have hw3 : IntKind.i64.wrap ((c : Int) + 1 - (i : Int)) = (c : Int) + 1 - (i : Int) := by rw [IntKind.wrap_i64]; omega
  have hb1 : (0 : Int) ≤ (i : Int) + 1 := by omega
  have htn : ((i : Int) + 1).toNat = i + 1 := by omega
  have hz2 : ¬ ((i : Int) = (c : Int)) := by omega
  have hzb2 : ((i : Int) == (c : Int)) = false := by simp; omega
  have hin : i ≤ c := by omega
  have hini : (i : Int) ≤ (c : Int) := by omega
  have hinic : (i : Int) ≤ (c : Int) + 1 := by omega
  have hini2 : (i : Int) + 1 ≤ (c : Int) + 1 := by omega
  have hb4 : ¬ (c = i) := by omega
  have hb6 : ¬ (G = i) := by omega
  have hb7 : ¬ (G = i + 1) := by omega
  have hnci : (c : Int) < (c : Int) + 1 := by omega
  obtain ⟨K1, hK1e⟩ : ∃ K1, K.take (i * 6) = K1 := ⟨_, rfl⟩
  obtain ⟨K2, hK2e⟩ : ∃ K2, K.drop (i * 6) = K2 := ⟨_, rfl⟩
  have hK1l : K1.length = i * 6 := by rw [← hK1e, List.length_take]; omega
  have hK2l : K2.length = (c - i) * 6 := by rw [← hK2e, List.length_drop]; omega
  have hres : (spl (spl ROW.toList (i * 6) (eCells p)) ((i + 1) * 6) K2).take ((c + 1) * 6) = cellsOf eCells (qs.take i ++ p :: qs.drop i) := by
    rw [hZ.1, hK1e, grow_cells K1 Z (eCells p) K2 i hK1l (eLen p) (by rw [hZ.2, hK2l]; omega), cellsOf_append]
    show _ = cellsOf eCells (qs.take i) ++ (eCells p ++ cellsOf eCells (qs.drop i))
    rw [← hKt, ← hKd, hK1e, hK2e]
    have hl : (K1 ++ (eCells p ++ K2)).length = (c + 1) * 6 := by
      rw [List.length_append, List.length_append, eLen]
      omega
    rw [← List.append_assoc (eCells p), ← List.append_assoc K1, List.take_left' hl]
  have hcpA : ∀ (W : World) (gn : Nat), W.heap[gn]? = some (.cells ROW 39 (0, 0)) → W.heap[gl]? = some (.cells (eCells p).toArray 39 (0, 0)) → ∀ ty dc, (Builtin.copy_ #[22, 22] ty #[.slice (some ⟨gn, i * 6, none⟩) (c + 1 - i) dc, .slice (some ⟨gl, 0, none⟩) 1 1]).run Tryz.prog W = .ok (goInt 1) (W.setRow gn (spl ROW.toList (i * 6) (eCells p)).toArray) := fun W gn h1 h2 ty dc => by
    have h := run_copy_rowK (P := Tryz.prog) W 22 22 ty 39 6 gn (i * 6) (c + 1 - i) dc ⟨gl, 0, none⟩ 1 1 ROW 39 (eCells p) Tryz.underlying22 info39 h1
      (by rw [eLen]; simp only [Nat.min_def]; split <;> omega) (fun j v hj => by rw [Addr.add_mid, cell_of_row W gl _ _ _ _ h2, Nat.zero_add]; simpa using hj) (by rw [eLen]; omega) (eOne p)
    rw [show Nat.min 1 (c + 1 - i) = 1 by simp only [Nat.min_def]; split <;> omega] at h
    exact h
  obtain ⟨cur1, hcur1⟩ : ∃ cur1, (spl ROW.toList (i * 6) (eCells p)).toArray = cur1 := ⟨_, rfl⟩
  rw [hcur1] at hcpA
  rw [show spl ROW.toList (i * 6) (eCells p) = cur1.toList by rw [← hcur1]] at hres
  have hcz1 : cur1.size = G * 6 := by
    rw [← hcur1]
    simp only [spl, List.size_toArray, List.length_append, List.length_take, List.length_drop, Array.length_toList, eLen]
    omega
  have hcpB : ∀ (W : World) (gn : Nat), W.heap[gn]? = some (.cells cur1 39 (0, 0)) → W.heap[g]? = some (.cells cur 39 (0, 0)) → ∀ ty dc sc, (Builtin.copy_ #[22, 22] ty #[.slice (some ⟨gn, (i + 1) * 6, none⟩) (c - i) dc, .slice (some ⟨g, i * 6, none⟩) (c - i) sc]).run Tryz.prog W = .ok (goInt ((c - i : Nat) : Int)) (W.setRow gn (spl cur1.toList ((i + 1) * 6) K2).toArray) := fun W gn h1 h2 ty dc sc => by
    have h := run_copy_rowK (P := Tryz.prog) W 22 22 ty 39 6 gn ((i + 1) * 6) (c - i) dc ⟨g, i * 6, none⟩ (c - i) sc cur1 39 K2 Tryz.underlying22 info39 h1
      (by rw [hK2l]; simp only [Nat.min_def]; split <;> omega) (by rw [← hK2e]; exact src_row h2 hrow (i * 6)) (by omega) (fun v hv => by rw [← hK2e] at hv; exact hK1 v (List.mem_of_mem_drop hv))
    rw [show Nat.min (c - i) (c - i) = c - i by simp only [Nat.min_def]; split <;> omega] at h
    exact h
  have HC := Lib.hid (And.intro hcz1 (And.intro hres (And.intro hGn (And.intro hGm hK2l))))
  have HZ := Lib.hid (And.intro hRs hcur1)
  clear hcur1 hcz1 hres hg hgl hK1 hrow hKl hK hKt hKd hK1e hK2e hK1l hK2l hZ hik hbig hroom hGm hRs hzb hz0 hzs hi0
  go_enter Tryz.func48, Tryz.ntmps48
  go_upto_region 11 with (first
    | (at_builtin; refine L_appendRun rfl rfl rfl rfl (hrz _) ?_; clear hrz; have HW := (H.drew).alloc (.cells ROW 39); clear H; have H := HW; clear HW; simp only [show w.drew.heap.size = w.heap.size from rfl] at H; generalize w.heap.size = gn at *; generalize w.drew.alloc (.cells ROW 39) = wA at *)
    | (have hq := hcpA _ _ (H.at_ 0 rfl) (H.at_ 2 rfl); refine L_copyRun rfl rfl rfl rfl (hq _ _) ?_; clear hq; have HW := H.setRow (cs := cur1) 0 rfl; simp only [List.set_cons_zero] at HW; clear H; have H := HW; clear HW))
  have H1 := H.drop (L' := []) (List.nil_sublist _)
  have HD := H.drew
  refine D_start H1 (by kernel_rfl) (fun hS => ?_)
  try simp only [Act.put, List.setIfInBounds_toArray, List.set_cons_succ, List.set_cons_zero]
  refine D_take 0 (v := ?_) rfl (by kernel_rfl) (by kernel_rfl) (by kernel_rfl) (fun _ _ _ h => h) rfl (by rfl) (fun W hS => ?_) hS ?_
  rotate_left; (focus (first | (go_simp; done) | (go_simp; with_reducible rfl) | (go_simp; rfl))); all_goals skip; (try simp only [List.set_cons_succ, List.set_cons_zero])
  refine D_take 1 (v := ?_) rfl (by kernel_rfl) (by kernel_rfl) (by kernel_rfl) (fun _ _ _ h => h) rfl (by rfl) (fun W hS => ?_) hS ?_
  rotate_left; (focus (first | (go_simp; done) | (go_simp; with_reducible rfl) | (go_simp; rfl))); all_goals skip; (try simp only [List.set_cons_succ, List.set_cons_zero])
  refine D_take 2 (v := ?_) rfl (by kernel_rfl) (by kernel_rfl) (by kernel_rfl) (fun _ _ _ h => h) rfl (by rfl) (fun W hS => ?_) hS ?_
  rotate_left; (focus (first | (go_simp; done) | (go_simp; with_reducible rfl) | (go_simp; rfl))); all_goals skip; (try simp only [List.set_cons_succ, List.set_cons_zero])
  refine D_take 3 (v := ?_) rfl (by kernel_rfl) (by kernel_rfl) (by kernel_rfl) (fun _ _ _ h => h) rfl (by rfl) (fun W hS => ?_) hS ?_
  rotate_left; (focus (first | (go_simp; done) | (go_simp; with_reducible rfl) | (go_simp; rfl))); all_goals skip; (try simp only [List.set_cons_succ, List.set_cons_zero])
  refine D_take 4 (v := ?_) rfl (by kernel_rfl) (by kernel_rfl) (by kernel_rfl) (fun _ _ _ h => h) rfl (by rfl) (fun W hS => ?_) hS ?_
  rotate_left; (focus (first | (go_simp; done) | (go_simp; with_reducible rfl) | (go_simp; rfl))); all_goals skip; (try simp only [List.set_cons_succ, List.set_cons_zero])
  refine D_take 5 (v := ?_) rfl (by kernel_rfl) (by kernel_rfl) (by kernel_rfl) (fun _ _ _ h => h) rfl (by rfl) (fun W hS => ?_) hS ?_
  rotate_left; (focus (first | (go_simp; done) | (go_simp; with_reducible rfl) | (go_simp; rfl))); all_goals skip; (try simp only [List.set_cons_succ, List.set_cons_zero])
  refine D_take 6 (v := ?_) rfl (by kernel_rfl) (by kernel_rfl) (by kernel_rfl) (fun _ _ _ h => h) rfl (by rfl) (fun W hS => ?_) hS ?_
  rotate_left; (focus (first | (go_simp; done) | (go_simp; with_reducible rfl) | (go_simp; rfl))); all_goals skip; (try simp only [List.set_cons_succ, List.set_cons_zero])
  refine D_take 7 (v := ?_) rfl (by kernel_rfl) (by kernel_rfl) (by kernel_rfl) (fun _ _ _ h => h) rfl (by rfl) (fun W hS => ?_) hS ?_
  rotate_left; (focus (first | (go_simp; done) | (go_simp; with_reducible rfl) | (go_simp; rfl))); all_goals skip; (try simp only [List.set_cons_succ, List.set_cons_zero])
  refine D_one 8 rfl (by kernel_rfl) (by rfl) ?_
  have hq := hcpB _ gn (HD.at_ 0 rfl) (HD.at_ 1 rfl)
  refine W_copyRun rfl rfl rfl (hq _ _ _) ?_
  have HW := HD.setRow (cs := (spl cur1.toList ((i + 1) * 6) K2).toArray) 0 rfl
  simp only [List.set_cons_zero] at HW
  refine ⟨HW.drop (L' := []) (List.nil_sublist _), ?_⟩
  try simp only [Act.put, List.getElem_toArray, List.getElem_cons_succ, List.getElem_cons_zero, List.setIfInBounds_toArray, List.set_cons_succ, List.set_cons_zero]
  refine wpAnyH_done (by kernel_rfl) ?_ _
  clear H H1 hS HD
  go_wp2_with fail
  go_ret
  obtain ⟨h1, h2, h3, h4, h5⟩ := HC.out
  have hsz : (spl cur1.toList ((i + 1) * 6) K2).toArray.size = G * 6 := by
    simp only [spl, List.size_toArray, List.length_append, List.length_take, List.length_drop, Array.length_toList]
    omega
  have HO := (HW.drop (List.Sublist.cons_cons _ (List.Sublist.cons _ (List.Sublist.refl _)))).toOwn 0 rfl 6 (c + 1) G h3 h4 hsz _ h2
  exact ⟨_, rfl, HO⟩
/-- Insert of one block. -/
theorem insert_any {w0 w : World} {L : List Asr} {v : Value} {gl n i : Nat} {qs : List Ent} {p : Ent}
    (H : SH (fun _ => False) w0 w (ownA 39 6 v n (cellsOf eCells qs) :: pt gl (.cells (eCells p).toArray 39 (0, 0)) :: L)) (hq : n = qs.length) (hi : i ≤ n) (hn : n ≤ 1000000) :
    Calls Tryz.prog 48 #[v, .int .i64 (i : Int), .slice (some ⟨gl, 0, none⟩) 1 1] w (InsRel w0 (pt gl (.cells (eCells p).toArray 39 (0, 0)) :: L) (n + 1) (qs.take i ++ p :: qs.drop i)) := by
  by_cases hin : i = n
  · subst hin
    refine (insertEnd_any H hn _ p (oneEnt _ (H.at_ 1 rfl))).mono ?_
    rintro e w' ⟨v', rfl, h⟩
    refine ⟨v', rfl, ?_⟩
    rw [hq, List.take_length, List.drop_length, ← hq, cellsOf_append]
    exact h
  · obtain ⟨g, c, rfl⟩ := own_form (H.get 0 rfl) (by omega)
    obtain ⟨cur, H2, h1, h2, h3, h4⟩ := H.unOwn
    by_cases hr : n + 1 ≤ c
    · exact insertShift_any H2 h3 h4 (by omega) hr hn h2
    · exact insertGrow_any H2 h3 h4 (by omega) h1 (by omega) hn
end Go.Proofs.YtmfcccflohpjiaaGreatDoor
