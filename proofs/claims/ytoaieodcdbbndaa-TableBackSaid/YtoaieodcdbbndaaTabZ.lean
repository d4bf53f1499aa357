/- Tables: the document's Find; Insert amid a row of blocks. -/
import Derived.Test.YtoaieodcdbbndaaTabM
import Derived.Test.YtoaieodcdbbndaaTabS
import Derived.Lib.Overlaps
import Derived.Lib.AppendZerosOnto
import Derived.Laws.NewBlocks
namespace Go.Proofs.Ytoaieodcdbbndaa
set_option linter.unusedVariables false
set_option linter.unusedSimpArgs false
open Go.RowKit

def FiRelT (id : Int) (g : Nat) (cells : Array Value) (bs : List Blk) (w0 : World) (vi : Value) (wr : World) : Prop :=
  ∃ k : Nat, vi = .int .i64 (k : Int) ∧ k ≤ bs.length ∧ SH (fun _ => False) w0 wr [pt g (.cells cells 24 (0, 0))] ∧ Hid (∀ j (hj : j < k) (hj2 : j < bs.length), (bs[j].id == id) = false)
set_option maxRecDepth 100000 in
set_option maxHeartbeats 1000000 in
theorem refFindT_any (t : Tab) (bv : Value) (ps : List BV) (id : Int) (w0 : World) (hps : ps.map (·.2) = t.bs) (hb : RdS bvCells 6 w0 bv ps) (hn : ps.length ≤ 1000000) :
    Calls Try.prog 23 #[tabV t bv, .int .i64 id] w0 fun e w' => e = .returned (.int .i64 (findP id t.bs)) ∧ Ext0 w0 w' := by
  have H : SH (fun _ => False) w0 w0 [] := SH.nil _ _
  obtain ⟨A, cap, rfl, hcap⟩ := hb.len
  obtain ⟨epoch, old, phase, mode, next, gen, bs⟩ := t
  simp only [tabV] at hps ⊢
  have hlen : ps.length = bs.length := by rw [← hps, List.length_map]
  have HB := Lib.hid (And.intro hps hlen)
  have HR := Lib.hid hb
  clear hps hlen hb
  go_enter Try.func23, Try.ntmps23
  go_wp2_with (first | (refine L_box rfl rfl H rfl rfl ?_; clear H; intro g w H; (try simp only [Act.eval, Array.getD_eq_getD_getElem?, List.getElem?_toArray, List.getElem?_cons_succ, List.getElem?_cons_zero, Option.getD_some, Value.cells] at H); (try simp only [Act.put, List.setIfInBounds_toArray, List.set_cons_succ, List.set_cons_zero, List.getElem_toArray, List.getElem_cons_succ, List.getElem_cons_zero])))
  go_loopw [5] (fun vi wr => FiRelT id g #[.int .i64 epoch, .int .i64 old, .int .i64 phase, .int .i64 mode, .int .i64 next, .int .i64 gen, .slice A ps.length cap] bs w0 vi wr) (fun vi _ => bs.length - (intOf vi).toNat)
  case atStart => exact ⟨0, rfl, Nat.zero_le _, H, Lib.hid (fun j hj => absurd hj (Nat.not_lt_zero _))⟩
  case round =>
    clear H
    obtain ⟨k, rfl, hk, H, HA⟩ := hrel
    have hbk := H.at_ 0 rfl
    have hk6 : wr.cell? ⟨g, 6, none⟩ = some (.slice A ps.length cap) := cell_of_row _ g 6 _ _ _ hbk
    clear hbk
    by_cases hkn : k < ps.length
    · have hki : (k : Int) < (ps.length : Int) := by omega
      obtain ⟨p, hp⟩ : ∃ p, ps[k] = p := ⟨_, rfl⟩
      have hkb : k < bs.length := by have := HB.out.2; omega
      have hpb : bs[k] = p.2 := by simp only [← HB.out.1, List.getElem_map, hp]
      obtain ⟨bb, off, cs, T, fr, rfl, hbb, hcs⟩ := HR.out.cell hkn
      rw [hp] at hcs
      have hc0 : wr.cell? ⟨bb, off + k * 6, none⟩ = some (.int .i64 p.2.id) := by
        rw [cell_of_row wr bb _ cs T fr (H.ext.keep hbb (fun e => e))]
        have := hcs 0 (by omega)
        rw [Nat.add_zero] at this
        rw [this]; rfl
      have HP := Lib.hid (And.intro hp hpb)
      clear hp hpb hcs hbb
      generalize hpid : p.2.id = pid at *
      by_cases hid : pid = id
      · have hidb : (pid == id) = true := by simp [hid]
        have HI := Lib.hid hid
        clear hid
        go_wp2_with fail
        go_ret
        exact ⟨by
          have := idxF_hit (pr := fun b => b.id == id) hkb (by rw [HP.out.2, hpid, HI.out]; simp) (fun j hj => HA.out j hj (by omega))
          show Ending.returned (Value.int .i64 _) = Ending.returned (Value.int .i64 (idxF _ bs))
          rw [this], H.ext⟩
      · have hidb : (pid == id) = false := by simp [hid]
        have HI := Lib.hid hidb
        go_wp2_with fail
        go_roundw
        case rel => exact ⟨k + 1, by go_num, by omega, H, Lib.hid (fun j hj hj2 => by
          by_cases hjk : j < k
          · exact HA.out j hjk hj2
          · obtain rfl : j = k := by omega
            rw [HP.out.2, hpid]
            exact HI.out)⟩
        case measure => simp [intOf]; omega
    · obtain rfl : k = ps.length := by have := HB.out.2; omega
      have hjn2 : ¬ ((ps.length : Int) < (ps.length : Int)) := by omega
      go_wp2_with fail
      go_ret
      exact ⟨by
        have := idxF_none (pr := fun b => b.id == id) (bs := bs) (fun j hj => HA.out j (by have := HB.out.2; omega) hj)
        show Ending.returned (Value.int .i64 _) = Ending.returned (Value.int .i64 (idxF _ bs))
        rw [this], H.ext⟩

/-! ### Copies of elements of many cells -/
def spl (L : List Value) (o : Nat) (cs : List Value) : List Value := L.take o ++ (cs ++ L.drop (o + cs.length))
theorem spl_at (A B D cs : List Value) (h : B.length = cs.length) (o : Nat) (ho : o = A.length) : spl (A ++ (B ++ D)) o cs = A ++ (cs ++ D) := by
  subst ho
  unfold spl
  rw [List.take_left, ← h, ← List.append_assoc A B D, ← List.length_append, List.drop_left]
theorem run_copy_rowK {P : Program} (w : World) (dT sT ty elem : TypeId) (k : Nat) (g o dLen dCap : Nat) (a : Addr) (sLen sCap : Nat) (cur : Array Value) (t : TypeId) (cs : List Value)
    (hu : P.underlying dT = some (.slice elem)) (hs : (P.info? elem).map (·.size) = some k)
    (hg : w.heap[g]? = some (.cells cur t (0, 0))) (hn : cs.length = Nat.min sLen dLen * k)
    (hsrc : ∀ j v, cs[j]? = some v → w.cell? (a.add j) = some v) (hfit : o + cs.length ≤ cur.size) (h1 : ∀ v ∈ cs, v.oneCell' = true) :
    (Builtin.copy_ #[dT, sT] ty #[.slice (some ⟨g, o, none⟩) dLen dCap, .slice (some a) sLen sCap]).run P w =
      .ok (goInt (Nat.min sLen dLen)) (w.setRow g (spl cur.toList o cs).toArray) := by
  have hl := run_loadCells_list (P := P) w a cs hsrc
  have hst := run_storeCells_at P g o t cs 0 cur w hg (by simpa using hfit) h1
  rw [hn] at hl
  cases hq : P.info? elem with
  | none => simp [hq] at hs
  | some i =>
    have hi : i.size = k := by simpa [hq] using hs
    simp [Builtin.copy_, run_underlying hu, Builtin.lenOf, Builtin.firstCells, sizeOf, typeInfo, hq, hi, hl, hst, spl]
section
variable {P : Program} {a : Act} {w w' : World} {o : Oper} {d s : Operand} {t t' : TypeId} {v u v' : Value} {Q : Exit → Act → World → Prop}
theorem W_copyRun (ho : o.op = .call { callee := .builtin .copy, args := #[d, s], argTypes := #[t, t'] }) (hd : a.eval d = v) (hs : a.eval s = u)
    (hr : (Builtin.copy_ #[t, t'] o.type #[v, u]).run P w = .ok v' w') {K : Act → World → Prop} (h : K (a.put o.dst v') w') : o.wp P a w K Q := by
  unfold Oper.wp execOp
  simp only [ho, resolve, invoke, builtin, Sem.run_bind, Sem.run_pure, Result.andThen_ok, List.map_toArray, List.map_cons, List.map_nil, hd, hs, hr]
  exact h
theorem L_copyRun {ops : Array Oper} {rest : List Oper} (hgd : o.guard = none) (ho : o.op = .call { callee := .builtin .copy, args := #[d, s], argTypes := #[t, t'] }) (hd : a.eval d = v) (hs : a.eval s = u)
    (hr : (Builtin.copy_ #[t, t'] o.type #[v, u]).run P w = .ok v' w') (h : wpList P ops Q rest (a.put o.dst v') w') : wpList P ops Q (o :: rest) a w :=
  wpList_plain hgd fun K hK => W_copyRun ho hd hs hr (hK _ _ h)
theorem L_appendRun {ops : Array Oper} {rest : List Oper} (hgd : o.guard = none) (ho : o.op = .call { callee := .builtin .append, args := #[d, s], argTypes := #[t, t'] }) (hd : a.eval d = v) (hs : a.eval s = u)
    (hr : (Builtin.append_ #[t, t'] o.type #[v, u]).run P w = .ok v' w') (h : wpList P ops Q rest (a.put o.dst v') w') : wpList P ops Q (o :: rest) a w := by
  refine wpList_plain hgd fun K hK => ?_
  unfold Oper.wp execOp
  simp only [ho, resolve, invoke, builtin, Sem.run_bind, Sem.run_pure, Result.andThen_ok, List.map_toArray, List.map_cons, List.map_nil, hd, hs, hr]
  exact hK _ _ h
end
theorem shift_cells (C K : List Value) (n i : Nat) (hK : C.take (n * 6) = K) (hC : (n + 1) * 6 ≤ C.length) (hi : i < n) (P : List Value) (hP : P.length = 6) :
    spl (spl C ((i + 1) * 6) (K.drop (i * 6))) (i * 6) P = K.take (i * 6) ++ (P ++ (K.drop (i * 6) ++ C.drop ((n + 1) * 6))) := by
  have hKl : K.length = n * 6 := by rw [← hK, List.length_take]; omega
  have hCK : C = K ++ C.drop (n * 6) := by rw [← hK, List.take_append_drop]
  obtain ⟨K1, hK1⟩ : ∃ K1, K.take (i * 6) = K1 := ⟨_, rfl⟩
  obtain ⟨K2, hK2⟩ : ∃ K2, K.drop (i * 6) = K2 := ⟨_, rfl⟩
  have hl1 : K1.length = i * 6 := by rw [← hK1, List.length_take]; omega
  have hl2 : K2.length = (n - i) * 6 := by rw [← hK2, List.length_drop]; omega
  have hKK : K = K1 ++ K2 := by rw [← hK1, ← hK2, List.take_append_drop]
  obtain ⟨R1, hR1⟩ : ∃ R1, (C.drop (n * 6)).take 6 = R1 := ⟨_, rfl⟩
  obtain ⟨R2, hR2⟩ : ∃ R2, C.drop ((n + 1) * 6) = R2 := ⟨_, rfl⟩
  have hR : C.drop (n * 6) = R1 ++ R2 := by
    rw [← hR1, ← hR2, show (n + 1) * 6 = n * 6 + 6 by omega, ← List.drop_drop, List.take_append_drop]
  have hr1 : R1.length = 6 := by rw [← hR1, List.length_take, List.length_drop]; omega
  obtain ⟨X, hX⟩ : ∃ X, (K2 ++ R1).take 6 = X := ⟨_, rfl⟩
  obtain ⟨Y, hY⟩ : ∃ Y, (K2 ++ R1).drop 6 = Y := ⟨_, rfl⟩
  have hXl : X.length = 6 := by rw [← hX, List.length_take, List.length_append]; omega
  have hYl : Y.length = K2.length := by rw [← hY, List.length_drop, List.length_append]; omega
  have hXY : K2 ++ R1 = X ++ Y := by rw [← hX, ← hY, List.take_append_drop]
  have hC2 : C = (K1 ++ X) ++ (Y ++ R2) := by
    rw [hCK, hR, hKK]
    simp only [List.append_assoc]
    rw [← List.append_assoc K2 R1 R2, hXY, List.append_assoc]
  rw [hK1, hK2, hR2, hC2, spl_at (K1 ++ X) Y R2 K2 hYl _ (by rw [List.length_append]; omega), List.append_assoc, spl_at K1 X (K2 ++ R2) P (by omega) _ hl1.symm]
theorem grow_cells (K1 Z P K2 : List Value) (i : Nat) (h1 : K1.length = i * 6) (hP : P.length = 6) (hZ : 6 + K2.length ≤ Z.length) :
    spl (spl (K1 ++ Z) (i * 6) P) ((i + 1) * 6) K2 = K1 ++ (P ++ (K2 ++ Z.drop (6 + K2.length))) := by
  obtain ⟨Z1, hZ1⟩ : ∃ Z1, Z.take 6 = Z1 := ⟨_, rfl⟩
  obtain ⟨Z2, hZ2⟩ : ∃ Z2, (Z.drop 6).take K2.length = Z2 := ⟨_, rfl⟩
  obtain ⟨Z3, hZ3⟩ : ∃ Z3, Z.drop (6 + K2.length) = Z3 := ⟨_, rfl⟩
  have hz1 : Z1.length = 6 := by rw [← hZ1, List.length_take]; omega
  have hz2 : Z2.length = K2.length := by rw [← hZ2, List.length_take, List.length_drop]; omega
  have hZZ : Z = Z1 ++ (Z2 ++ Z3) := by rw [← hZ1, ← hZ2, ← hZ3, ← List.drop_drop, List.take_append_drop, List.take_append_drop]
  rw [hZ3, hZZ, spl_at K1 Z1 (Z2 ++ Z3) P (by omega) _ h1.symm, ← List.append_assoc K1 P, spl_at (K1 ++ P) Z2 Z3 K2 hz2 _ (by rw [List.length_append]; omega), List.append_assoc]
theorem cells_take (qs : List BV) (i : Nat) : (cellsOf bvCells qs).take (i * 6) = cellsOf bvCells (qs.take i) := by
  by_cases h : i ≤ qs.length
  · have := cellsOf_append bvCells (qs.take i) (qs.drop i)
    rw [List.take_append_drop] at this
    rw [this, List.take_left' (by rw [length_cellsOf bvLen, List.length_take]; omega)]
  · rw [List.take_of_length_le (by rw [length_cellsOf bvLen]; omega), List.take_of_length_le (by omega)]
theorem cells_drop (qs : List BV) (i : Nat) : (cellsOf bvCells qs).drop (i * 6) = cellsOf bvCells (qs.drop i) := by
  by_cases h : i ≤ qs.length
  · have := cellsOf_append bvCells (qs.take i) (qs.drop i)
    rw [List.take_append_drop] at this
    rw [this, List.drop_left' (by rw [length_cellsOf bvLen, List.length_take]; omega)]
  · rw [List.drop_eq_nil_of_le (by rw [length_cellsOf bvLen]; omega), List.drop_eq_nil_of_le (by omega)]; rfl
theorem cells_one (qs : List BV) : ∀ v ∈ cellsOf bvCells qs, v.oneCell' = true := fun v hv => by
  obtain ⟨y, _, hy⟩ := List.mem_flatMap.1 hv
  exact bvOne y v hy
theorem SH.unOwn {M : Nat → Prop} {w0 w : World} {L : List Asr} {T : TypeId} {k g c n : Nat} {xs : List Value} (H : SH M w0 w (ownA T k (.slice (some ⟨g, 0, none⟩) n c) n xs :: L)) :
    ∃ cur, SH M w0 w (pt g (.cells cur T (0, 0)) :: L) ∧ n ≤ c ∧ c ≤ maxLen ∧ cur.size = c * k ∧ cur.toList.take (n * k) = xs := by
  rcases (H.get 0 rfl : w.ownsRow _ _ _ _ _ _).2 with ⟨h0, _⟩ | ⟨g', c', cur, he, _, hg, h1, h2, h3, h4⟩
  · cases h0
  · cases he
    refine ⟨cur, ?_, h1, h2, h3, h4⟩
    exact H.head (Ext.refl _ _) hg (fun i hi => by
      simp only [pt_fp] at hi
      subst hi
      exact ⟨.inl rfl, blk_lt' hg⟩)
def InsRel (w0 : World) (L : List Asr) (n : Nat) (qs : List BV) (e : Ending) (w' : World) : Prop := ∃ v', e = .returned v' ∧ SH (fun _ => False) w0 w' (ownA 45 6 v' n (cellsOf bvCells qs) :: L)
theorem src_row {w : World} {g : Nat} {cur : Array Value} {T : TypeId} {fr : Nat × Nat} (hg : w.heap[g]? = some (.cells cur T fr)) {m : Nat} {K : List Value} (hK : cur.toList.take m = K) (i : Nat) : ∀ j v, (K.drop i)[j]? = some v → w.cell? ((⟨g, i, none⟩ : Addr).add j) = some v := fun j v hv => by
  rw [Addr.add_mid, cell_of_row w g _ cur T fr hg, ← hv, List.getElem?_drop, ← hK, List.getElem?_take, ← Array.getElem?_toList]
  have := (List.getElem?_eq_some_iff.1 hv).1
  rw [← hK, List.length_drop, List.length_take] at this
  rw [if_pos (by omega)]
set_option maxRecDepth 100000 in
set_option maxHeartbeats 4000000 in
/-- Insert, in place. -/
theorem insertShift_any {w0 w : World} {L : List Asr} {g c gl n i : Nat} {cur : Array Value} {qs : List BV} {p : BV}
    (H : SH (fun _ => False) w0 w (pt g (.cells cur 45 (0, 0)) :: pt gl (.cells (bvCells p).toArray 45 (0, 0)) :: L))
    (hcs : cur.size = c * 6) (hrow : cur.toList.take (n * 6) = cellsOf bvCells qs) (hi : i < n) (hnc : n + 1 ≤ c) (hn : n ≤ 1000000) (hcm : c ≤ maxLen) :
    Calls Try.prog 52 #[.slice (some ⟨g, 0, none⟩) n c, .int .i64 (i : Int), .slice (some ⟨gl, 0, none⟩) 1 1] w (InsRel w0 (pt gl (.cells (bvCells p).toArray 45 (0, 0)) :: L) (n + 1) (qs.take i ++ p :: qs.drop i)) := by
  have hap : gl ≠ g := fun h => (List.pairwise_cons.1 H.apart).1 _ List.mem_cons_self g rfl h.symm
  have hg := H.at_ 0 rfl
  have hgl := H.at_ 1 rfl
  obtain ⟨K, hK⟩ : ∃ K, cellsOf bvCells qs = K := ⟨_, rfl⟩
  have hKl : K.length = n * 6 := by rw [← hK, ← hrow, List.length_take, Array.length_toList]; omega
  have hres : (spl (spl cur.toList ((i + 1) * 6) (K.drop (i * 6))) (i * 6) (bvCells p)).take ((n + 1) * 6) = cellsOf bvCells (qs.take i ++ p :: qs.drop i) := by
    rw [shift_cells cur.toList K n i (by rw [hrow, hK]) (by rw [Array.length_toList]; omega) hi _ (bvLen p), ← hK, cells_take, cells_drop, cellsOf_append]
    show _ = cellsOf bvCells (qs.take i) ++ (bvCells p ++ cellsOf bvCells (qs.drop i))
    have hl : (cellsOf bvCells (qs.take i) ++ (bvCells p ++ cellsOf bvCells (qs.drop i))).length = (n + 1) * 6 := by
      have h1 := congrArg List.length (cells_take qs i)
      have h2 := congrArg List.length (cells_drop qs i)
      rw [hK, List.length_take] at h1
      rw [hK, List.length_drop] at h2
      rw [List.length_append, List.length_append, bvLen, ← h1, ← h2]
      omega
    rw [← List.append_assoc (bvCells p), ← List.append_assoc (cellsOf bvCells (qs.take i)), List.take_left' hl]
  have hK1 : ∀ v ∈ K, v.oneCell' = true := by rw [← hK]; exact cells_one qs
  rw [hK] at hrow
  have hov : ∀ lb cb, (callFunc 63 #[.slice (some ⟨gl, 0, none⟩) 1 1, .slice (some ⟨g, (i + 1) * 6, none⟩) lb cb]).run Try.prog w = .ok (.value (.bool false)) w := fun lb cb => by
    rw [run_callFunc_extern Try.func63 (by kernel_rfl) (by kernel_rfl) (by kernel_rfl) (e := Extern.SlicesOverlaps.overlaps #[22, 22] #[4]) (by kernel_rfl),
      Lib.run_overlaps_apart w 22 4 45 Try.underlying22 6 Try.sizeOf45 ⟨gl, 0, none⟩ ⟨g, (i + 1) * 6, none⟩ 1 1 lb cb hap 45 45 6 (c * 6) (by simp [World.shape?, hgl, bvLen]) (by simp [World.shape?, hg, hcs]) (by omega) (frozen_of_row w gl 0 _ _ hgl) (frozen_of_row w gl 6 _ _ hgl)]
    rfl
  have hw1 : IntKind.i64.wrap ((i : Int) + 1) = (i : Int) + 1 := by rw [IntKind.wrap_i64]; omega
  have hw2 : IntKind.i64.wrap ((n : Int) + 1) = (n : Int) + 1 := by rw [IntKind.wrap_i64]; omega
  have hb1 : (0 : Int) ≤ (i : Int) + 1 := by omega
  have hb0 : (0 : Int) ≤ (n : Int) + 1 := by omega
  have htn : ((i : Int) + 1).toNat = i + 1 := by omega
  have htn2 : ((n : Int) + 1).toNat = n + 1 := by omega
  have hz2 : ¬ ((i : Int) = (n : Int)) := by omega
  have hzb : ((i : Int) == (n : Int)) = false := by simp; omega
  have hin : i ≤ n := by omega
  have hini : (i : Int) ≤ (n : Int) := by omega
  have hb2 : ¬ (c = i + 1) := by omega
  have hb4 : ¬ (c = i) := by omega
  have hb3 : (i : Int) ≤ (n : Int) + 1 := by omega
  have hb5 : (i : Int) + 1 ≤ (n : Int) + 1 := by omega
  have hnci : ¬ ((c : Int) < (n : Int) + 1) := by omega
  have hncl : (n : Int) + 1 ≤ (c : Int) := by omega
  have hcp1 : ∀ ty dc sc, (Builtin.copy_ #[22, 22] ty #[.slice (some ⟨g, (i + 1) * 6, none⟩) (n - i) dc, .slice (some ⟨g, i * 6, none⟩) (n + 1 - i) sc]).run Try.prog w.drew = .ok (goInt ((n - i : Nat) : Int)) (w.drew.setRow g (spl cur.toList ((i + 1) * 6) (K.drop (i * 6))).toArray) := fun ty dc sc => by
    have h := run_copy_rowK (P := Try.prog) w.drew 22 22 ty 45 6 g ((i + 1) * 6) (n - i) dc ⟨g, i * 6, none⟩ (n + 1 - i) sc cur 45 (K.drop (i * 6)) Try.underlying22 info45 hg
      (by rw [List.length_drop, hKl]; simp only [Nat.min_def]; split <;> omega) (src_row (w := w.drew) hg hrow (i * 6)) (by rw [List.length_drop, hKl]; omega) (fun v hv => hK1 v (List.mem_of_mem_drop hv))
    rw [show Nat.min (n + 1 - i) (n - i) = n - i by simp only [Nat.min_def]; split <;> omega] at h
    exact h
  obtain ⟨cur1, hcur1⟩ : ∃ cur1, (spl cur.toList ((i + 1) * 6) (K.drop (i * 6))).toArray = cur1 := ⟨_, rfl⟩
  rw [hcur1] at hcp1
  rw [show spl cur.toList ((i + 1) * 6) (K.drop (i * 6)) = cur1.toList by rw [← hcur1]] at hres
  have hcz1 : cur1.size = c * 6 := by
    rw [← hcur1]
    simp only [spl, List.size_toArray, List.length_append, List.length_take, List.length_drop, Array.length_toList, hKl]
    omega
  have hcp2 : ∀ (W : World), W.heap[g]? = some (.cells cur1 45 (0, 0)) → W.heap[gl]? = some (.cells (bvCells p).toArray 45 (0, 0)) → ∀ ty dc, (Builtin.copy_ #[22, 22] ty #[.slice (some ⟨g, i * 6, none⟩) (n + 1 - i) dc, .slice (some ⟨gl, 0, none⟩) 1 1]).run Try.prog W = .ok (goInt 1) (W.setRow g (spl cur1.toList (i * 6) (bvCells p)).toArray) := fun W h1 h2 ty dc => by
    have h := run_copy_rowK (P := Try.prog) W 22 22 ty 45 6 g (i * 6) (n + 1 - i) dc ⟨gl, 0, none⟩ 1 1 cur1 45 (bvCells p) Try.underlying22 info45 h1
      (by rw [bvLen]; simp only [Nat.min_def]; split <;> omega) (fun j v hj => by rw [Addr.add_mid, cell_of_row W gl _ _ _ _ h2, Nat.zero_add]; simpa using hj) (by rw [bvLen]; omega) (bvOne p)
    rw [show Nat.min 1 (n + 1 - i) = 1 by simp only [Nat.min_def]; split <;> omega] at h
    exact h
  have HC := Lib.hid (And.intro hcur1 (And.intro hcz1 hres))
  clear hcur1 hcz1 hres hg hgl hK1 hrow hKl hK
  go_enter Try.func52, Try.ntmps52
  go_upto_region 15 with (simp only [hov])
  have H1 := H.drop (L' := []) (List.nil_sublist _)
  refine D_start H1 (by kernel_rfl) (fun hS => ?_)
  try simp only [Act.put, List.setIfInBounds_toArray, List.set_cons_succ, List.set_cons_zero]
  refine D_take 0 (v := ?_) rfl (by kernel_rfl) (by kernel_rfl) (by kernel_rfl) (fun _ _ _ h => h) rfl (by rfl) (fun W hS => ?_) hS ?_
  rotate_left; (focus (first | (go_simp; done) | (go_simp; with_reducible rfl) | (go_simp; rfl))); all_goals skip; (try simp only [List.set_cons_succ, List.set_cons_zero])
  refine D_take 1 (v := ?_) rfl (by kernel_rfl) (by kernel_rfl) (by kernel_rfl) (fun _ _ _ h => h) rfl (by rfl) (fun W hS => ?_) hS ?_
  rotate_left; (focus (first | (go_simp; done) | (go_simp; with_reducible rfl) | (go_simp; rfl))); all_goals skip; (try simp only [List.set_cons_succ, List.set_cons_zero])
  refine D_take 2 (v := ?_) rfl (by kernel_rfl) (by kernel_rfl) (by kernel_rfl) (fun _ _ _ h => h) rfl (by rfl) (fun W hS => ?_) hS ?_
  rotate_left; (focus (first | (go_simp; done) | (go_simp; with_reducible rfl) | (go_simp; rfl))); all_goals skip; (try simp only [List.set_cons_succ, List.set_cons_zero])
  refine D_take 3 (v := ?_) rfl (by kernel_rfl) (by kernel_rfl) (by kernel_rfl) (fun _ _ _ h => h) rfl (by rfl) (fun W hS => ?_) hS ?_
  rotate_left; (focus (first | (go_simp; done) | (go_simp; with_reducible rfl) | (go_simp; rfl))); all_goals skip; (try simp only [List.set_cons_succ, List.set_cons_zero])
  refine D_take 4 (v := ?_) rfl (by kernel_rfl) (by kernel_rfl) (by kernel_rfl) (fun _ _ _ h => h) rfl (by rfl) (fun W hS => ?_) hS ?_
  rotate_left; (focus (first | (go_simp; done) | (go_simp; with_reducible rfl) | (go_simp; rfl))); all_goals skip; (try simp only [List.set_cons_succ, List.set_cons_zero])
  refine D_take 5 (v := ?_) rfl (by kernel_rfl) (by kernel_rfl) (by kernel_rfl) (fun _ _ _ h => h) rfl (by rfl) (fun W hS => ?_) hS ?_
  rotate_left; (focus (first | (go_simp; done) | (go_simp; with_reducible rfl) | (go_simp; rfl))); all_goals skip; (try simp only [List.set_cons_succ, List.set_cons_zero])
  refine D_take 6 (v := ?_) rfl (by kernel_rfl) (by kernel_rfl) (by kernel_rfl) (fun _ _ _ h => h) rfl (by rfl) (fun W hS => ?_) hS ?_
  rotate_left; (focus (first | (go_simp; done) | (go_simp; with_reducible rfl) | (go_simp; rfl))); all_goals skip; (try simp only [List.set_cons_succ, List.set_cons_zero])
  refine D_take 7 (v := ?_) rfl (by kernel_rfl) (by kernel_rfl) (by kernel_rfl) (fun _ _ _ h => h) rfl (by rfl) (fun W hS => ?_) hS ?_
  rotate_left; (focus (first | (go_simp; done) | (go_simp; with_reducible rfl) | (go_simp; rfl))); all_goals skip; (try simp only [List.set_cons_succ, List.set_cons_zero])
  refine D_one 8 rfl (by kernel_rfl) (by rfl) ?_
  refine W_copyRun rfl rfl rfl (hcp1 _ _ _) ?_
  have HW := (H.drew).setRow (cs := cur1) 0 rfl
  simp only [List.set_cons_zero] at HW
  refine ⟨HW.drop (L' := []) (List.nil_sublist _), ?_⟩
  try simp only [Act.put, List.getElem_toArray, List.getElem_cons_succ, List.getElem_cons_zero, List.setIfInBounds_toArray, List.set_cons_succ, List.set_cons_zero]
  refine wpAnyH_done (by kernel_rfl) ?_ _
  clear H H1 hS
  have H := HW
  clear HW
  go_wp2_with (first
    | (refine L_copyRun rfl rfl rfl rfl (hcp2 _ (H.at_ 0 rfl) (H.at_ 1 rfl) _ _) ?_; have HW := H.setRow (cs := (spl cur1.toList (i * 6) (bvCells p)).toArray) 0 rfl; simp only [List.set_cons_zero] at HW; clear H; have H := HW; clear HW))
  go_ret
  have hsz : (spl cur1.toList (i * 6) (bvCells p)).toArray.size = c * 6 := by
    have := HC.out.2.1
    simp only [spl, List.size_toArray, List.length_append, List.length_take, List.length_drop, Array.length_toList, bvLen]
    omega
  have HO := H.toOwn 0 rfl 6 (n + 1) c hnc hcm hsz _ HC.out.2.2
  exact ⟨_, rfl, HO⟩
end Go.Proofs.Ytoaieodcdbbndaa
