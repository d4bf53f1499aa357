/- Catalogues: DeleteFunc. (Printed by gencat2.py.) -/
import Derived.Test.YtmfcccflohpjiaaGreatDoorCatT
namespace Go.Proofs.YtmfcccflohpjiaaGreatDoor
set_option linter.unusedVariables false
set_option linter.unusedSimpArgs false
open Go.RowKit

theorem own_form {w : World} {T : TypeId} {k : Nat} {v : Value} {n : Nat} {xs : List Value} (h : w.ownsRow 0 T k v n xs) (h0 : 0 < n) : ∃ g c, v = .slice (some ⟨g, 0, none⟩) n c := by
  rcases h.2 with ⟨_, h1⟩ | ⟨g, c, cur, h1, _⟩
  · omega
  · exact ⟨g, c, h1⟩
theorem own_slice {w : World} {base : Nat} {T : TypeId} {k : Nat} {v : Value} {n : Nat} {xs : List Value} (h : w.ownsRow base T k v n xs) : ∃ A c, v = .slice A n c := by
  rcases h.2 with ⟨h1, h2⟩ | ⟨g, c, cur, h1, _⟩
  · exact ⟨none, 0, by rw [h1, h2]⟩
  · exact ⟨_, c, h1⟩
def spl (L : List Value) (o : Nat) (cs : List Value) : List Value := L.take o ++ (cs ++ L.drop (o + cs.length))
theorem spl_at (A B D cs : List Value) (h : B.length = cs.length) (o : Nat) (ho : o = A.length) : spl (A ++ (B ++ D)) o cs = A ++ (cs ++ D) := by
  subst ho
  unfold spl
  rw [List.take_left, ← h, ← List.append_assoc A B D, ← List.length_append, List.drop_left]
theorem cells_take (qs : List Ent) (i : Nat) : (cellsOf eCells qs).take (i * 6) = cellsOf eCells (qs.take i) := by
  by_cases h : i ≤ qs.length
  · have := cellsOf_append eCells (qs.take i) (qs.drop i)
    rw [List.take_append_drop] at this
    rw [this, List.take_left' (by rw [length_cellsOf eLen, List.length_take]; omega)]
  · rw [List.take_of_length_le (by rw [length_cellsOf eLen]; omega), List.take_of_length_le (by omega)]
theorem cells_drop (qs : List Ent) (i : Nat) : (cellsOf eCells qs).drop (i * 6) = cellsOf eCells (qs.drop i) := by
  by_cases h : i ≤ qs.length
  · have := cellsOf_append eCells (qs.take i) (qs.drop i)
    rw [List.take_append_drop] at this
    rw [this, List.drop_left' (by rw [length_cellsOf eLen, List.length_take]; omega)]
  · rw [List.drop_eq_nil_of_le (by rw [length_cellsOf eLen]; omega), List.drop_eq_nil_of_le (by omega)]; rfl
theorem cells_one (qs : List Ent) : ∀ v ∈ cellsOf eCells qs, v.oneCell' = true := fun v hv => by
  obtain ⟨y, _, hy⟩ := List.mem_flatMap.1 hv
  exact eOne y v hy
theorem SH.unOwn {M : Nat → Prop} {w0 w : World} {L : List Asr} {T : TypeId} {k g c n : Nat} {xs : List Value} (H : SH M w0 w (ownA T k (.slice (some ⟨g, 0, none⟩) n c) n xs :: L)) :
    ∃ cur, SH M w0 w (pt g (.cells cur T (0, 0)) :: L) ∧ n ≤ c ∧ c ≤ maxLen ∧ cur.size = c * k ∧ cur.toList.take (n * k) = xs := by
  rcases (H.get 0 rfl : w.ownsRow _ _ _ _ _ _).2 with ⟨h0, _⟩ | ⟨g', c', cur, he, _, hg, h1, h2, h3, h4⟩
  · cases h0
  · cases he
    refine ⟨cur, ?_, h1, h2, h3, h4⟩
    exact H.head (Ext.refl _ _) hg (fun i hi => by
      simp only [pt_fp] at hi
      subst hi
      exact ⟨.inl rfl, blk_lt' hg⟩)
theorem idxE_cases (pr : Ent → Bool) (bs : List Ent) : idxE pr bs = -1 ∨ ∃ k : Nat, idxE pr bs = (k : Int) ∧ k < bs.length := by
  unfold idxE
  cases h : bs.findIdx? pr with
  | none => exact .inl rfl
  | some i => exact .inr ⟨i, rfl, (List.findIdx?_eq_some_iff_getElem.1 h).1⟩
theorem setCells_row {w : World} {g : Nat} {cur : Array Value} {T : TypeId} (hg : w.heap[g]? = some (.cells cur T (0, 0))) (o : Nat) (vs : List Value) (hf : o + vs.length ≤ cur.size) (h1 : ∀ v ∈ vs, v.oneCell' = true) :
    w.setCells g o vs = w.setRow g (spl cur.toList o vs).toArray := by
  have a := run_storeCells_at Tryz.prog g o T vs 0 cur w hg (by simpa using hf) h1
  have b := run_storeCells_cells (P := Tryz.prog) g o vs 0 w (fun j hj => by rw [cell_of_row w g _ cur T _ hg, Array.getElem?_eq_getElem (by omega)]; rfl) (fun j hj => frozen_of_row w g _ cur T hg) h1
  rw [a] at b
  simp only [Result.ok.injEq, Nat.add_zero, true_and] at b
  rw [← b]
  unfold spl
  rw [List.append_assoc]
def kept (pr : Ent → Bool) (qs : List Ent) (j : Nat) : List Ent := (qs.take j).filter fun q => !pr q
theorem kept_succ (pr : Ent → Bool) (qs : List Ent) (j : Nat) (hj : j < qs.length) : kept pr qs (j + 1) = if pr qs[j] then kept pr qs j else kept pr qs j ++ [qs[j]] := by
  unfold kept
  rw [List.take_add_one, List.getElem?_eq_getElem hj, Option.toList_some, List.filter_append]
  cases hq : pr qs[j] <;> simp [hq]
theorem kept_len (pr : Ent → Bool) (qs : List Ent) (j : Nat) : (kept pr qs j).length ≤ j := by
  unfold kept
  refine Nat.le_trans (List.length_filter_le _ _) ?_
  rw [List.length_take]
  omega
theorem idxE_spec {pr : Ent → Bool} {bs : List Ent} {k : Nat} (h : idxE pr bs = (k : Int)) : ∃ hk : k < bs.length, pr bs[k] = true ∧ ∀ m (hm : m < k), pr (bs[m]'(by omega)) = false := by
  unfold idxE at h
  cases hf : bs.findIdx? pr with
  | none => rw [hf] at h; simp only at h; omega
  | some i =>
    rw [hf] at h
    simp only at h
    obtain rfl : i = k := by omega
    obtain ⟨h1, h2, h3⟩ := List.findIdx?_eq_some_iff_getElem.1 hf
    exact ⟨h1, h2, fun m hm => by simpa using h3 m hm⟩
theorem idxE_spec_none {pr : Ent → Bool} {bs : List Ent} (h : idxE pr bs = -1) : ∀ m (hm : m < bs.length), pr bs[m] = false := by
  unfold idxE at h
  cases hf : bs.findIdx? pr with
  | none => intro m hm; rw [List.findIdx?_eq_none_iff] at hf; simpa using hf _ (List.getElem_mem hm)
  | some i => rw [hf] at h; simp only at h; omega
theorem kept_first {pr : Ent → Bool} {qs : List Ent} {k : Nat} (hk : k < qs.length) (hb : ∀ m (hm : m < k), pr (qs[m]'(by omega)) = false) : kept pr qs k = qs.take k := by
  unfold kept
  rw [List.filter_eq_self]
  intro q hq
  obtain ⟨m, hm, rfl⟩ := List.mem_iff_getElem.1 hq
  rw [List.length_take] at hm
  rw [List.getElem_take, hb m (by omega)]
  rfl
/-- A closure as it answers wherever these assertions hold. -/
def FnG (w0 : World) (L : List Asr) (g : Nat) (lb : Array Value) (pr : Ent → Bool) : Prop :=
  ∀ (W : World) (p : Ent), SH (fun _ => False) w0 W L → Calls Tryz.prog g (#[entV p] ++ lb) W fun e w' => e = .returned (.bool (pr p)) ∧ Ext0 W w'
def DelRel (w0 : World) (L : List Asr) (qs' : List Ent) (e : Ending) (w' : World) : Prop := ∃ v' n', e = .returned v' ∧ n' = qs'.length ∧ SH (fun _ => False) w0 w' (ownA 39 6 v' n' (cellsOf eCells qs') :: L)
def DLoop (w0 : World) (L : List Asr) (pr : Ent → Bool) (qs : List Ent) (gb c : Nat) (s5 s6 : Value) (wr : World) : Prop :=
  ∃ (i j : Nat) (cur : Array Value), s5 = .int .i64 (i : Int) ∧ s6 = .int .i64 (j : Int) ∧ i < j ∧ j ≤ qs.length ∧ SH (fun _ => False) w0 wr (pt gb (.cells cur 39 (0, 0)) :: L) ∧
    Hid (cur.size = c * 6 ∧ cur.toList.take (i * 6) = cellsOf eCells (kept pr qs j) ∧ i = (kept pr qs j).length ∧ (cur.toList.drop (j * 6)).take ((qs.length - j) * 6) = cellsOf eCells (qs.drop j))
theorem mid_cells {C : List Value} {qs : List Ent} {j m : Nat} (h : (C.drop (j * 6)).take m = cellsOf eCells (qs.drop j)) (hj : j < qs.length) (i : Nat) (hi : i < 6) : C[j * 6 + i]? = (eCells qs[j])[i]? := by
  have h1 := cellsOf_at eLen (qs.drop j) 0 (by rw [List.length_drop]; omega) i hi
  rw [Nat.zero_mul, Nat.zero_add, ← h, List.getElem?_take] at h1
  split at h1
  · rw [List.getElem?_drop] at h1
    rw [h1]
    simp
  · exfalso
    rw [List.getElem_drop] at h1
    have : i < (eCells qs[j + 0]).length := by rw [eLen]; exact hi
    rw [List.getElem?_eq_getElem this] at h1
    cases h1
theorem L_loadmidp {P : Program} {ops : Array Oper} {Q : Exit → Act → World → Prop} {a : Act} {w w0 : World} {M : Nat → Prop} {L : List Asr} {rest : List Oper} {o : Oper} (hgd : o.guard = none) {ty : TypeId} {x : Operand} (ho : o.op = .load ty x) (H : SH M w0 w L) (i : Nat) {b off : Nat} {cs : Array Value} {T : TypeId} {fr : Nat × Nat} {d : TypeDesc}
    (hx : a.eval x = .pointer (some ⟨b, off, none⟩)) (hA : L[i]? = some (pt b (.cells cs T fr))) (hu : P.underlying ty = some d) (hd : d.isRow = true) {n : Nat} (hi : (P.info? ty).map (·.size) = some n) (vs : List Value) (hn : vs.length = n)
    (hv : ∀ j, j < n → cs[off + j]? = vs[j]?) (k : wpList P ops Q rest (a.put o.dst (.agg vs.toArray)) w) : wpList P ops Q (o :: rest) a w :=
  wpList_load_mid hgd ty x ho b off hx vs d (fun j u hu' => by
    rw [cell_of_row w b _ cs T fr (H.at_ i hA), hv j (by have := (List.getElem?_eq_some_iff.1 hu').1; omega)]; exact hu') hu hd (by rw [hi, hn]) k
theorem clearK_run {w : World} {g c o m : Nat} {cur : Array Value} {T : TypeId} (hg : w.heap[g]? = some (.cells cur T (0, 0))) (hs : o + m * 6 ≤ cur.size) (hm : 0 < m) (ty : TypeId) :
    ∃ cs : Array Value, (Builtin.clear_ #[22] ty #[.slice (some ⟨g, o, none⟩) m c]).run Tryz.prog w = .ok (.tuple #[]) (w.setRow g cs) ∧ cs.size = cur.size ∧ cs.toList.take o = cur.toList.take o := by
  obtain ⟨Z, hZ⟩ : ∃ Z, (Builtin.zeroCells (Value.agg #[.string ByteArray.empty, .int .i64 0, .int .i64 0, .int .i64 0, .int .i64 0, .int .i64 0]).cells m).toList = Z := ⟨_, rfl⟩
  have hZl : Z.length = m * 6 := by rw [← hZ]; simp [Builtin.zeroCells, Value.cells]
  have hZ1 : ∀ v ∈ Z, v.oneCell' = true := by
    intro v hv
    rw [← hZ] at hv
    simp only [Builtin.zeroCells, Value.cells] at hv
    simp at hv
    obtain ⟨a, _, rfl⟩ := hv
    have : a % 6 < 6 := Nat.mod_lt _ (by omega)
    match h : a % 6, this with
    | 0, _ => simp [h]; rfl
    | 1, _ => simp [h]; rfl
    | 2, _ => simp [h]; rfl
    | 3, _ => simp [h]; rfl
    | 4, _ => simp [h]; rfl
    | 5, _ => simp [h]; rfl
  have h := run_storeCells_at Tryz.prog g o T Z 0 cur w hg (by rw [hZl]; simpa using hs) hZ1
  refine ⟨(cur.toList.take (o + 0) ++ Z ++ cur.toList.drop (o + 0 + Z.length)).toArray, ?_, ?_, ?_⟩
  · obtain ⟨m', rfl⟩ : ∃ m', m = m' + 1 := ⟨m - 1, by omega⟩
    simp [Builtin.clear_, run_underlying Tryz.underlying22, Tryz.zeroValue39, show (⟨#[]⟩ : ByteArray) = ByteArray.empty from rfl, hZ, h]
  · simp only [List.size_toArray, List.length_append, List.length_take, List.length_drop, Array.length_toList, hZl]
    omega
  · simp only [Nat.add_zero]
    rw [List.append_assoc, List.take_left' (by rw [List.length_take, Array.length_toList]; omega)]
theorem drop_step {C : List Value} {qs : List Ent} {j : Nat} (h : (C.drop (j * 6)).take ((qs.length - j) * 6) = cellsOf eCells (qs.drop j)) (hj : j < qs.length) : (C.drop ((j + 1) * 6)).take ((qs.length - (j + 1)) * 6) = cellsOf eCells (qs.drop (j + 1)) := by
  have h1 := cells_drop (qs.drop j) 1
  rw [List.drop_drop, ← h, List.drop_take, List.drop_drop] at h1
  rw [← h1]
  congr 1
  · omega
  · congr 1
    omega
theorem spl_take (L : List Value) (o : Nat) (cs : List Value) (ho : o ≤ L.length) (m : Nat) (hm : m = o + cs.length) : (spl L o cs).take m = L.take o ++ cs := by
  subst hm
  unfold spl
  rw [← List.append_assoc, List.take_left' (by rw [List.length_append, List.length_take]; omega)]
theorem spl_drop (L : List Value) (o : Nat) (cs : List Value) (ho : o ≤ L.length) (m : Nat) (hm : o + cs.length ≤ m) : (spl L o cs).drop m = L.drop m := by
  unfold spl
  rw [← List.append_assoc, List.drop_append, List.drop_eq_nil_of_le (by rw [List.length_append, List.length_take]; omega), List.nil_append, List.drop_drop]
  congr 1
  rw [List.length_append, List.length_take]
  omega
set_option maxRecDepth 100000 in
set_option maxHeartbeats 4000000 in
theorem delete_any {w0 w : World} {L : List Asr} {v : Value} {n : Nat} {qs : List Ent} (H : SH (fun _ => False) w0 w (ownA 39 6 v n (cellsOf eCells qs) :: L)) (hql : n = qs.length) (hn : n ≤ 1000) (g : Nat) (lb : Array Value) (pr : Ent → Bool)
    (eg : ∀ args w, (callFunc g args).run Tryz.prog w = .ok (.enter g args) w) (hcl : FnG w0 L g lb pr) :
    Calls Tryz.prog 49 #[v, .func (.func g) #[] lb] w (DelRel w0 L (kept pr qs n)) := by
  have hrd := RdS.own eLen hql (H.get 0 rfl)
  have hcl0 : FnGivesE g lb pr qs w := fun W p _ hE => hcl W p ((H.drop (List.sublist_cons_self _ _)).calls hE)
  have hix := indexFuncE_any g lb pr eg v qs w hrd (by omega) hcl0
  subst hql
  obtain ⟨A, c, rfl⟩ := own_slice (H.get 0 rfl)
  rcases idxE_cases pr qs with hf | ⟨k, hf, hk⟩
  · have hnone := idxE_spec_none hf
    have hkept : kept pr qs qs.length = qs := by
      unfold kept
      rw [List.take_length, List.filter_eq_self]
      intro q hq
      obtain ⟨m, hm, rfl⟩ := List.mem_iff_getElem.1 hq
      have := hnone m hm
      rw [this]; rfl
    rw [hf] at hix
    have HK := Lib.hid hkept
    clear hf hnone hkept hrd hcl0
    go_enter Tryz.func49, Tryz.ntmps49
    go_wp2_with (go_at_call 43; refine hix.mono ?_; rintro e w2 ⟨rfl, hE⟩; replace H := H.calls hE; clear hE)
    go_ret
    refine ⟨_, qs.length, rfl, by rw [HK.out], ?_⟩
    rw [HK.out]
    exact H
  · obtain ⟨hk1, hk2, hk3⟩ := idxE_spec hf
    have hk3' : ∀ m (hm : m < k), pr (qs[m]'(by omega)) = false := fun m hm => hk3 m hm
    have hkf := kept_first hk hk3'
    have hks : kept pr qs (k + 1) = qs.take k := by rw [kept_succ pr qs k hk, hk2, if_pos rfl, hkf]
    have hkl : (kept pr qs (k + 1)).length = k := by rw [hks, List.length_take]; omega
    rw [hf] at hix
    obtain ⟨gb, cb, hv⟩ := own_form (H.get 0 rfl) (by omega)
    simp only [Value.slice.injEq] at hv
    obtain ⟨rfl, _, rfl⟩ := hv
    obtain ⟨cur0, H0, hcc, hcm, hcs, hrow0⟩ := H.unOwn
    have hinit : cur0.size = c * 6 ∧ cur0.toList.take (k * 6) = cellsOf eCells (kept pr qs (k + 1)) ∧ k = (kept pr qs (k + 1)).length ∧ (cur0.toList.drop ((k + 1) * 6)).take ((qs.length - (k + 1)) * 6) = cellsOf eCells (qs.drop (k + 1)) := by
      refine ⟨hcs, ?_, hkl.symm, ?_⟩
      · rw [hks, ← cells_take, ← hrow0, List.take_take, Nat.min_eq_left (by omega)]
      · rw [← cells_drop, ← hrow0, List.drop_take]
        congr 1
        omega
    have HI := Lib.hid hinit
    have hkm : ((k : Int) == -1) = false := by first | (simp; done) | (simp; omega)
    have HCC := Lib.hid (And.intro hcc hcm)
    clear hinit hks hkl hkf hk3 hk3' hk2 hk1 hf hrow0 hcs hrd hcl0
    go_enter Tryz.func49, Tryz.ntmps49
    go_wp2_with (go_at_call 43; refine hix.mono ?_; rintro e w2 ⟨rfl, hE⟩; replace H0 := H0.calls hE; clear hE)
    clear H hix
    have hkw : IntKind.i64.wrap ((k : Int) + 1) = ((k + 1 : Nat) : Int) := by rw [IntKind.wrap_i64]; omega
    go_loopw [5, 6] (fun s5 s6 wr => DLoop w0 L pr qs gb c s5 s6 wr) (fun _ s6 _ => qs.length - (intOf s6).toNat)
    case atStart => exact ⟨k, k + 1, cur0, rfl, by go_num, by omega, by omega, H0, HI⟩
    case round =>
      clear H0 hk hkw HI hcm
      obtain ⟨i, j, cur, rfl, rfl, hij, hj, H, HL⟩ := hrel
      by_cases hjn : j < qs.length
      · have hji : (j : Int) < (qs.length : Int) := by omega
        obtain ⟨p, hp⟩ : ∃ p, qs[j] = p := ⟨_, rfl⟩
        have hmid := fun i hi => mid_cells HL.out.2.2.2 hjn i hi
        rw [hp] at hmid
        have hks := kept_succ pr qs j hjn
        rw [hp] at hks
        obtain ⟨p, mode, time, block, at_, size⟩ := p
        have hm6 : ∀ i, i < 6 → cur[j * 6 + i]? = [Value.string p, .int .i64 mode, .int .i64 time, .int .i64 block, .int .i64 at_, .int .i64 size][i]? := fun i hi => by rw [← Array.getElem?_toList]; exact hmid i hi
        have HP := Lib.hid (And.intro hp hks)
        clear hmid hp hks
        go_upto_region 8 with (first
          | (refine L_loadmidp rfl rfl H 0 rfl rfl Tryz.underlying39 rfl info39 [Value.string p, .int .i64 mode, .int .i64 time, .int .i64 block, .int .i64 at_, .int .i64 size] rfl hm6 ?_; (try simp only [Act.put, List.setIfInBounds_toArray, List.set_cons_succ, List.set_cons_zero, List.getElem_toArray, List.getElem_cons_succ, List.getElem_cons_zero]))
          | fail)
        clear hm6
        replace H := H.alloc (.cells #[.string p, .int .i64 mode, .int .i64 time, .int .i64 block, .int .i64 at_, .int .i64 size] 39)
        generalize wr.heap.size = g7 at *
        generalize wr.alloc (.cells #[.string p, .int .i64 mode, .int .i64 time, .int .i64 block, .int .i64 at_, .int .i64 size] 39) = wA at *
        have hcl2 := fun {W : World} (h : SH (fun _ => False) w0 W L) => hcl W ⟨p, mode, time, block, at_, size⟩ h
        simp only [entV] at hcl2
        have hdr := drop_step HL.out.2.2.2 hjn
        have HDR := Lib.hid hdr
        clear hdr
        cases hq : pr ⟨p, mode, time, block, at_, size⟩
        · rw [hq] at hcl2
          have hkp : kept pr qs (j + 1) = kept pr qs j ++ [⟨p, mode, time, block, at_, size⟩] := by rw [HP.out.2]; (try simp only); rw [hq]; rfl
          obtain ⟨cur2, hcur2⟩ : ∃ cur2, (spl cur.toList (i * 6) (eCells ⟨p, mode, time, block, at_, size⟩)).toArray = cur2 := ⟨_, rfl⟩
          have hcl3 : cur.toList.length = cur.size := Array.length_toList
          have hnc := HCC.out.1
          have hsz := HL.out.1
          have hthere := fun {W : World} (h : W.heap[gb]? = some (.cells cur 39 (0, 0))) => setCells_row (w := W) h (i * 6) (eCells ⟨p, mode, time, block, at_, size⟩) (by rw [eLen]; omega) (eOne _)
          rw [hcur2] at hthere
          have hnew : cur2.size = c * 6 ∧ cur2.toList.take ((i + 1) * 6) = cellsOf eCells (kept pr qs (j + 1)) ∧ i + 1 = (kept pr qs (j + 1)).length ∧ (cur2.toList.drop ((j + 1) * 6)).take ((qs.length - (j + 1)) * 6) = cellsOf eCells (qs.drop (j + 1)) := by
            rw [← hcur2]
            refine ⟨?_, ?_, ?_, ?_⟩
            · simp only [spl, List.size_toArray, List.length_append, List.length_take, List.length_drop, eLen]
              omega
            · show (spl cur.toList (i * 6) (eCells ⟨p, mode, time, block, at_, size⟩)).take ((i + 1) * 6) = _
              rw [spl_take _ _ _ (by omega) ((i + 1) * 6) (by rw [eLen]; omega), HL.out.2.1, hkp, cellsOf_append]
              rfl
            · rw [hkp, List.length_append]
              have := HL.out.2.2.1
              simp only [List.length_cons, List.length_nil]
              omega
            · show ((spl cur.toList (i * 6) (eCells ⟨p, mode, time, block, at_, size⟩)).drop ((j + 1) * 6)).take _ = _
              rw [spl_drop _ _ _ (by omega) ((j + 1) * 6) (by rw [eLen]; omega)]
              exact HDR.out
          have HN := Lib.hid hnew
          have hif : i * 6 + 6 ≤ cur.size := by omega
          have hini : (i : Int) < (qs.length : Int) := by omega
          have hiw : IntKind.i64.wrap ((i : Int) + 1) = ((i + 1 : Nat) : Int) := by rw [IntKind.wrap_i64]; omega
          have HQ := Lib.hid hq
          clear hnew hcl3 hkp hcur2 hsz hnc hq
          go_wp2_with (first
            | (refine L_loadrow rfl rfl H 0 rfl rfl Tryz.underlying39 rfl info39 rfl ?_; (try simp only [Act.put, List.setIfInBounds_toArray, List.set_cons_succ, List.set_cons_zero, List.getElem_toArray, List.getElem_cons_succ, List.getElem_cons_zero]))
            | (go_at_fn g; refine (hcl2 (H.drop (List.Sublist.cons _ (List.Sublist.cons _ (List.Sublist.refl _))))).mono ?_; clear hcl2; rintro e w' ⟨rfl, hE2⟩; replace H := H.calls hE2; clear hE2)
            | (refine wpList_store_mid rfl 39 _ _ rfl gb (i * 6) #[.string p, .int .i64 mode, .int .i64 time, .int .i64 block, .int .i64 at_, .int .i64 size] rfl rfl (H.there 1 rfl (i * 6) 6 hif) info39 (by simp [Value.oneCell']) ?_; have hrw := hthere (H.at_ 1 rfl); have H4 := H.setRow (cs := cur2) 1 rfl; simp only [List.set_cons_zero, List.set_cons_succ] at H4; change wpList _ _ _ _ _ (World.setCells _ gb (i * 6) (eCells ⟨p, mode, time, block, at_, size⟩)); rw [hrw]; clear H hthere hrw; generalize World.setRow _ gb cur2 = wB at *))
          go_roundw
          case rel => exact ⟨i + 1, j + 1, cur2, by go_num, by go_num, by omega, by omega, H4.drop (List.sublist_cons_self _ _), HN⟩
          case measure => simp [intOf]; omega
        · rw [hq] at hcl2
          have hkp : kept pr qs (j + 1) = kept pr qs j := by rw [HP.out.2]; (try simp only); rw [hq]; rfl
          have HKP := Lib.hid hkp
          clear hkp hq
          go_wp2_with (first
            | (refine L_loadrow rfl rfl H 0 rfl rfl Tryz.underlying39 rfl info39 rfl ?_; (try simp only [Act.put, List.setIfInBounds_toArray, List.set_cons_succ, List.set_cons_zero, List.getElem_toArray, List.getElem_cons_succ, List.getElem_cons_zero]))
            | (go_at_fn g; refine (hcl2 (H.drop (List.Sublist.cons _ (List.Sublist.cons _ (List.Sublist.refl _))))).mono ?_; clear hcl2; rintro e w' ⟨rfl, hE2⟩; replace H := H.calls hE2; clear hE2))
          go_roundw
          case rel => exact ⟨i, j + 1, cur, rfl, by go_num, by omega, by omega, H.drop (List.sublist_cons_self _ _), Lib.hid (by rw [HKP.out]; exact ⟨HL.out.1, HL.out.2.1, HL.out.2.2.1, HDR.out⟩)⟩
          case measure => simp [intOf]; omega
      · obtain rfl : j = qs.length := by omega
        have hjn2 : ¬ ((qs.length : Int) < (qs.length : Int)) := by omega
        have hnc := HCC.out.1
        have hic : ¬ (c = i) := by omega
        have hici : (i : Int) ≤ (qs.length : Int) := by omega
        have hicc : (i : Int) ≤ (c : Int) := by omega
        obtain ⟨zs, hz0, hzs, hzt⟩ := clearK_run (c := c - i) (o := i * 6) (m := qs.length - i) (H.at_ 0 rfl) (by have := HL.out.1; omega) (by omega) 0
        have hz : ∀ ty, (Builtin.clear_ #[22] ty #[.slice (some ⟨gb, i * 6, none⟩) (qs.length - i) (c - i)]).run Tryz.prog wr = .ok (.tuple #[]) (wr.setRow gb zs) := fun ty => hz0
        have H3 := H.setRow (cs := zs) 0 rfl
        simp only [List.set_cons_zero] at H3
        have HO := H3.toOwn 0 rfl 6 i c (by omega) HCC.out.2 (by rw [hzs]; exact HL.out.1) _ (hzt.trans HL.out.2.1)
        simp only [List.set_cons_zero] at HO
        have HH := Lib.hid HO
        have HLI := Lib.hid HL.out.2.2.1
        clear H H3 HO hz0 hzs hzt HL
        go_wp2
        go_ret
        exact ⟨_, i, rfl, HLI.out, HH.out⟩
end Go.Proofs.YtmfcccflohpjiaaGreatDoor
