/- Tables: DeleteFunc; Without, of any table. -/
import Derived.Test.YtoaieodcdbbndaaTabWi
namespace Go.Proofs.Ytoaieodcdbbndaa
set_option linter.unusedVariables false
set_option linter.unusedSimpArgs false
open Go.RowKit

def kept (pr : Blk → Bool) (qs : List BV) (j : Nat) : List BV := (qs.take j).filter fun q => !pr q.2
theorem kept_succ (pr : Blk → Bool) (qs : List BV) (j : Nat) (hj : j < qs.length) : kept pr qs (j + 1) = if pr qs[j].2 then kept pr qs j else kept pr qs j ++ [qs[j]] := by
  unfold kept
  rw [List.take_add_one, List.getElem?_eq_getElem hj, Option.toList_some, List.filter_append]
  cases hq : pr qs[j].2 <;> simp [hq]
theorem kept_len (pr : Blk → Bool) (qs : List BV) (j : Nat) : (kept pr qs j).length ≤ j := by
  unfold kept
  refine Nat.le_trans (List.length_filter_le _ _) ?_
  rw [List.length_take]
  omega
theorem idxF_spec {pr : Blk → Bool} {bs : List Blk} {k : Nat} (h : idxF pr bs = (k : Int)) : ∃ hk : k < bs.length, pr bs[k] = true ∧ ∀ m (hm : m < k), pr (bs[m]'(by omega)) = false := by
  unfold idxF at h
  cases hf : bs.findIdx? pr with
  | none => rw [hf] at h; simp only at h; omega
  | some i =>
    rw [hf] at h
    simp only at h
    obtain rfl : i = k := by omega
    obtain ⟨h1, h2, h3⟩ := List.findIdx?_eq_some_iff_getElem.1 hf
    exact ⟨h1, h2, fun m hm => by simpa using h3 m hm⟩
theorem idxF_spec_none {pr : Blk → Bool} {bs : List Blk} (h : idxF pr bs = -1) : ∀ m (hm : m < bs.length), pr bs[m] = false := by
  unfold idxF at h
  cases hf : bs.findIdx? pr with
  | none => intro m hm; rw [List.findIdx?_eq_none_iff] at hf; simpa using hf _ (List.getElem_mem hm)
  | some i => rw [hf] at h; simp only at h; omega
theorem kept_first {pr : Blk → Bool} {qs : List BV} {k : Nat} (hk : k < qs.length) (hb : ∀ m (hm : m < k), pr (qs[m]'(by omega)).2 = false) : kept pr qs k = qs.take k := by
  unfold kept
  rw [List.filter_eq_self]
  intro q hq
  obtain ⟨m, hm, rfl⟩ := List.mem_iff_getElem.1 hq
  rw [List.length_take] at hm
  rw [List.getElem_take, hb m (by omega)]
  rfl
/-- A closure as it answers wherever these assertions hold. -/
def FnG (w0 : World) (L : List Asr) (g : Nat) (lb : Array Value) (pr : Blk → Bool) : Prop :=
  ∀ (W : World) (p : BV), SH (fun _ => False) w0 W L → Calls Try.prog g (#[blkV p] ++ lb) W fun e w' => e = .returned (.bool (pr p.2)) ∧ Ext0 W w'
def DelRel (w0 : World) (L : List Asr) (qs' : List BV) (e : Ending) (w' : World) : Prop := ∃ v' n', e = .returned v' ∧ n' = qs'.length ∧ SH (fun _ => False) w0 w' (ownA 45 6 v' n' (cellsOf bvCells qs') :: L)
def DLoop (w0 : World) (L : List Asr) (pr : Blk → Bool) (qs : List BV) (gb c : Nat) (s5 s6 : Value) (wr : World) : Prop :=
  ∃ (i j : Nat) (cur : Array Value), s5 = .int .i64 (i : Int) ∧ s6 = .int .i64 (j : Int) ∧ i < j ∧ j ≤ qs.length ∧ SH (fun _ => False) w0 wr (pt gb (.cells cur 45 (0, 0)) :: L) ∧
    Hid (cur.size = c * 6 ∧ cur.toList.take (i * 6) = cellsOf bvCells (kept pr qs j) ∧ i = (kept pr qs j).length ∧ (cur.toList.drop (j * 6)).take ((qs.length - j) * 6) = cellsOf bvCells (qs.drop j))
theorem mid_cells {C : List Value} {qs : List BV} {j m : Nat} (h : (C.drop (j * 6)).take m = cellsOf bvCells (qs.drop j)) (hj : j < qs.length) (i : Nat) (hi : i < 6) : C[j * 6 + i]? = (bvCells qs[j])[i]? := by
  have h1 := cellsOf_at bvLen (qs.drop j) 0 (by rw [List.length_drop]; omega) i hi
  rw [Nat.zero_mul, Nat.zero_add, ← h, List.getElem?_take] at h1
  split at h1
  · rw [List.getElem?_drop] at h1
    rw [h1]
    simp
  · exfalso
    rw [List.getElem_drop] at h1
    have : i < (bvCells qs[j + 0]).length := by rw [bvLen]; exact hi
    rw [List.getElem?_eq_getElem this] at h1
    cases h1
theorem L_loadmidp {P : Program} {ops : Array Oper} {Q : Exit → Act → World → Prop} {a : Act} {w w0 : World} {M : Nat → Prop} {L : List Asr} {rest : List Oper} {o : Oper} (hgd : o.guard = none) {ty : TypeId} {x : Operand} (ho : o.op = .load ty x) (H : SH M w0 w L) (i : Nat) {b off : Nat} {cs : Array Value} {T : TypeId} {fr : Nat × Nat} {d : TypeDesc}
    (hx : a.eval x = .pointer (some ⟨b, off, none⟩)) (hA : L[i]? = some (pt b (.cells cs T fr))) (hu : P.underlying ty = some d) (hd : d.isRow = true) {n : Nat} (hi : (P.info? ty).map (·.size) = some n) (vs : List Value) (hn : vs.length = n)
    (hv : ∀ j, j < n → cs[off + j]? = vs[j]?) (k : wpList P ops Q rest (a.put o.dst (.agg vs.toArray)) w) : wpList P ops Q (o :: rest) a w :=
  wpList_load_mid hgd ty x ho b off hx vs d (fun j u hu' => by
    rw [cell_of_row w b _ cs T fr (H.at_ i hA), hv j (by have := (List.getElem?_eq_some_iff.1 hu').1; omega)]; exact hu') hu hd (by rw [hi, hn]) k
theorem clearK_run {w : World} {g c o m : Nat} {cur : Array Value} {T : TypeId} (hg : w.heap[g]? = some (.cells cur T (0, 0))) (hs : o + m * 6 ≤ cur.size) (hm : 0 < m) (ty : TypeId) :
    ∃ cs : Array Value, (Builtin.clear_ #[22] ty #[.slice (some ⟨g, o, none⟩) m c]).run Try.prog w = .ok (.tuple #[]) (w.setRow g cs) ∧ cs.size = cur.size ∧ cs.toList.take o = cur.toList.take o := by
  obtain ⟨Z, hZ⟩ : ∃ Z, (Builtin.zeroCells (Value.agg #[.int .i64 0, .int .i64 0, .int .i64 0, .int .i64 0, .int .i64 0, .slice none 0 0]).cells m).toList = Z := ⟨_, rfl⟩
  have hZl : Z.length = m * 6 := by rw [← hZ]; simp [Builtin.zeroCells, Value.cells]
  have hZ1 : ∀ v ∈ Z, v.oneCell' = true := by
    intro v hv
    rw [← hZ] at hv
    simp only [Builtin.zeroCells, Value.cells] at hv
    simp at hv
    obtain ⟨a, _, rfl⟩ := hv
    have : a % 6 < 6 := Nat.mod_lt _ (by omega)
    match h : a % 6, this with
    | 0, _ => simp [h]; rfl
    | 1, _ => simp [h]; rfl
    | 2, _ => simp [h]; rfl
    | 3, _ => simp [h]; rfl
    | 4, _ => simp [h]; rfl
    | 5, _ => simp [h]; rfl
  have h := run_storeCells_at Try.prog g o T Z 0 cur w hg (by rw [hZl]; simpa using hs) hZ1
  refine ⟨(cur.toList.take (o + 0) ++ Z ++ cur.toList.drop (o + 0 + Z.length)).toArray, ?_, ?_, ?_⟩
  · obtain ⟨m', rfl⟩ : ∃ m', m = m' + 1 := ⟨m - 1, by omega⟩
    simp [Builtin.clear_, run_underlying Try.underlying22, Try.zeroValue45, hZ, h]
  · simp only [List.size_toArray, List.length_append, List.length_take, List.length_drop, Array.length_toList, hZl]
    omega
  · simp only [Nat.add_zero]
    rw [List.append_assoc, List.take_left' (by rw [List.length_take, Array.length_toList]; omega)]
theorem drop_step {C : List Value} {qs : List BV} {j : Nat} (h : (C.drop (j * 6)).take ((qs.length - j) * 6) = cellsOf bvCells (qs.drop j)) (hj : j < qs.length) : (C.drop ((j + 1) * 6)).take ((qs.length - (j + 1)) * 6) = cellsOf bvCells (qs.drop (j + 1)) := by
  have h1 := cells_drop (qs.drop j) 1
  rw [List.drop_drop, ← h, List.drop_take, List.drop_drop] at h1
  rw [← h1]
  congr 1
  · omega
  · congr 1
    omega
theorem spl_take (L : List Value) (o : Nat) (cs : List Value) (ho : o ≤ L.length) (m : Nat) (hm : m = o + cs.length) : (spl L o cs).take m = L.take o ++ cs := by
  subst hm
  unfold spl
  rw [← List.append_assoc, List.take_left' (by rw [List.length_append, List.length_take]; omega)]
theorem spl_drop (L : List Value) (o : Nat) (cs : List Value) (ho : o ≤ L.length) (m : Nat) (hm : o + cs.length ≤ m) : (spl L o cs).drop m = L.drop m := by
  unfold spl
  rw [← List.append_assoc, List.drop_append, List.drop_eq_nil_of_le (by rw [List.length_append, List.length_take]; omega), List.nil_append, List.drop_drop]
  congr 1
  rw [List.length_append, List.length_take]
  omega
set_option maxRecDepth 100000 in
set_option maxHeartbeats 4000000 in
theorem delete_any {w0 w : World} {L : List Asr} {v : Value} {n : Nat} {qs : List BV} (H : SH (fun _ => False) w0 w (ownA 45 6 v n (cellsOf bvCells qs) :: L)) (hql : n = qs.length) (hn : n ≤ 1000) (g : Nat) (lb : Array Value) (pr : Blk → Bool)
    (eg : ∀ args w, (callFunc g args).run Try.prog w = .ok (.enter g args) w) (hcl : FnG w0 L g lb pr) :
    Calls Try.prog 53 #[v, .func (.func g) #[] lb] w (DelRel w0 L (kept pr qs n)) := by
  have hrd := RdS.own bvLen hql (H.get 0 rfl)
  have hcl0 : FnGives' g lb pr w := fun W p hE => hcl W p ((H.drop (List.sublist_cons_self _ _)).calls hE)
  have hix := indexFunc_any g lb pr eg v qs w hrd (by omega) hcl0
  subst hql
  obtain ⟨A, c, rfl⟩ := own_slice (H.get 0 rfl)
  rcases idxF_cases pr (qs.map (·.2)) with hf | ⟨k, hf, hk⟩
  · have hnone := idxF_spec_none hf
    have hkept : kept pr qs qs.length = qs := by
      unfold kept
      rw [List.take_length, List.filter_eq_self]
      intro q hq
      obtain ⟨m, hm, rfl⟩ := List.mem_iff_getElem.1 hq
      have := hnone m (by rw [List.length_map]; exact hm)
      rw [List.getElem_map] at this
      rw [this]; rfl
    rw [hf] at hix
    have HK := Lib.hid hkept
    clear hf hnone hkept hrd hcl0
    go_enter Try.func53, Try.ntmps53
    go_wp2_with (go_at_call 47; refine hix.mono ?_; rintro e w2 ⟨rfl, hE⟩; replace H := H.calls hE; clear hE)
    go_ret
    refine ⟨_, qs.length, rfl, by rw [HK.out], ?_⟩
    rw [HK.out]
    exact H
  · obtain ⟨hk1, hk2, hk3⟩ := idxF_spec hf
    rw [List.length_map] at hk
    rw [List.getElem_map] at hk2
    have hk3' : ∀ m (hm : m < k), pr (qs[m]'(by omega)).2 = false := fun m hm => by have := hk3 m hm; rw [List.getElem_map] at this; exact this
    have hkf := kept_first hk hk3'
    have hks : kept pr qs (k + 1) = qs.take k := by rw [kept_succ pr qs k hk, hk2, if_pos rfl, hkf]
    have hkl : (kept pr qs (k + 1)).length = k := by rw [hks, List.length_take]; omega
    rw [hf] at hix
    obtain ⟨gb, cb, hv⟩ := own_form (H.get 0 rfl) (by omega)
    simp only [Value.slice.injEq] at hv
    obtain ⟨rfl, _, rfl⟩ := hv
    obtain ⟨cur0, H0, hcc, hcm, hcs, hrow0⟩ := H.unOwn
    have hinit : cur0.size = c * 6 ∧ cur0.toList.take (k * 6) = cellsOf bvCells (kept pr qs (k + 1)) ∧ k = (kept pr qs (k + 1)).length ∧ (cur0.toList.drop ((k + 1) * 6)).take ((qs.length - (k + 1)) * 6) = cellsOf bvCells (qs.drop (k + 1)) := by
      refine ⟨hcs, ?_, hkl.symm, ?_⟩
      · rw [hks, ← cells_take, ← hrow0, List.take_take, Nat.min_eq_left (by omega)]
      · rw [← cells_drop, ← hrow0, List.drop_take]
        congr 1
        omega
    have HI := Lib.hid hinit
    have hkm : ((k : Int) == -1) = false := by first | (simp; done) | (simp; omega)
    have HCC := Lib.hid (And.intro hcc hcm)
    clear hinit hks hkl hkf hk3 hk3' hk2 hk1 hf hrow0 hcs hrd hcl0
    go_enter Try.func53, Try.ntmps53
    go_wp2_with (go_at_call 47; refine hix.mono ?_; rintro e w2 ⟨rfl, hE⟩; replace H0 := H0.calls hE; clear hE)
    clear H hix
    have hkw : IntKind.i64.wrap ((k : Int) + 1) = ((k + 1 : Nat) : Int) := by rw [IntKind.wrap_i64]; omega
    go_loopw [5, 6] (fun s5 s6 wr => DLoop w0 L pr qs gb c s5 s6 wr) (fun _ s6 _ => qs.length - (intOf s6).toNat)
    case atStart => exact ⟨k, k + 1, cur0, rfl, by go_num, by omega, by omega, H0, HI⟩
    case round =>
      clear H0 hk hkw HI hcm
      obtain ⟨i, j, cur, rfl, rfl, hij, hj, H, HL⟩ := hrel
      by_cases hjn : j < qs.length
      · have hji : (j : Int) < (qs.length : Int) := by omega
        obtain ⟨p, hp⟩ : ∃ p, qs[j] = p := ⟨_, rfl⟩
        have hmid := fun i hi => mid_cells HL.out.2.2.2 hjn i hi
        rw [hp] at hmid
        have hks := kept_succ pr qs j hjn
        rw [hp] at hks
        obtain ⟨⟨WA, wc9⟩, b1, b2, b3, b4, b5, f⟩ := p
        have hm6 : ∀ i, i < 6 → cur[j * 6 + i]? = [Value.int .i64 b1, .int .i64 b2, .int .i64 b3, .int .i64 b4, .int .i64 b5, .slice WA f.length wc9][i]? := fun i hi => by rw [← Array.getElem?_toList]; exact hmid i hi
        have HP := Lib.hid (And.intro hp hks)
        clear hmid hp hks
        go_upto_region 8 with (first
          | (refine L_loadmidp rfl rfl H 0 rfl rfl Try.underlying45 rfl info45 [Value.int .i64 b1, .int .i64 b2, .int .i64 b3, .int .i64 b4, .int .i64 b5, .slice WA f.length wc9] rfl hm6 ?_; (try simp only [Act.put, List.setIfInBounds_toArray, List.set_cons_succ, List.set_cons_zero, List.getElem_toArray, List.getElem_cons_succ, List.getElem_cons_zero]))
          | fail)
        clear hm6
        replace H := H.alloc (.cells #[.int .i64 b1, .int .i64 b2, .int .i64 b3, .int .i64 b4, .int .i64 b5, .slice WA f.length wc9] 45)
        generalize wr.heap.size = g7 at *
        generalize wr.alloc (.cells #[.int .i64 b1, .int .i64 b2, .int .i64 b3, .int .i64 b4, .int .i64 b5, .slice WA f.length wc9] 45) = wA at *
        have hcl2 := fun {W : World} (h : SH (fun _ => False) w0 W L) => hcl W ((WA, wc9), ⟨b1, b2, b3, b4, b5, f⟩) h
        simp only [blkV, BV.wv] at hcl2
        have hdr := drop_step HL.out.2.2.2 hjn
        have HDR := Lib.hid hdr
        clear hdr
        cases hq : pr ⟨b1, b2, b3, b4, b5, f⟩
        · rw [hq] at hcl2
          have hkp : kept pr qs (j + 1) = kept pr qs j ++ [((WA, wc9), ⟨b1, b2, b3, b4, b5, f⟩)] := by rw [HP.out.2]; simp only; rw [hq]; rfl
          obtain ⟨cur2, hcur2⟩ : ∃ cur2, (spl cur.toList (i * 6) (bvCells ((WA, wc9), ⟨b1, b2, b3, b4, b5, f⟩))).toArray = cur2 := ⟨_, rfl⟩
          have hcl3 : cur.toList.length = cur.size := Array.length_toList
          have hnc := HCC.out.1
          have hsz := HL.out.1
          have hthere := fun {W : World} (h : W.heap[gb]? = some (.cells cur 45 (0, 0))) => setCells_row (w := W) h (i * 6) (bvCells ((WA, wc9), ⟨b1, b2, b3, b4, b5, f⟩)) (by rw [bvLen]; omega) (bvOne _)
          rw [hcur2] at hthere
          have hnew : cur2.size = c * 6 ∧ cur2.toList.take ((i + 1) * 6) = cellsOf bvCells (kept pr qs (j + 1)) ∧ i + 1 = (kept pr qs (j + 1)).length ∧ (cur2.toList.drop ((j + 1) * 6)).take ((qs.length - (j + 1)) * 6) = cellsOf bvCells (qs.drop (j + 1)) := by
            rw [← hcur2]
            refine ⟨?_, ?_, ?_, ?_⟩
            · simp only [spl, List.size_toArray, List.length_append, List.length_take, List.length_drop, bvLen]
              omega
            · show (spl cur.toList (i * 6) (bvCells ((WA, wc9), ⟨b1, b2, b3, b4, b5, f⟩))).take ((i + 1) * 6) = _
              rw [spl_take _ _ _ (by omega) ((i + 1) * 6) (by rw [bvLen]; omega), HL.out.2.1, hkp, cellsOf_append]
              rfl
            · rw [hkp, List.length_append]
              have := HL.out.2.2.1
              simp only [List.length_cons, List.length_nil]
              omega
            · show ((spl cur.toList (i * 6) (bvCells ((WA, wc9), ⟨b1, b2, b3, b4, b5, f⟩))).drop ((j + 1) * 6)).take _ = _
              rw [spl_drop _ _ _ (by omega) ((j + 1) * 6) (by rw [bvLen]; omega)]
              exact HDR.out
          have HN := Lib.hid hnew
          have hif : i * 6 + 6 ≤ cur.size := by omega
          have hini : (i : Int) < (qs.length : Int) := by omega
          have hiw : IntKind.i64.wrap ((i : Int) + 1) = ((i + 1 : Nat) : Int) := by rw [IntKind.wrap_i64]; omega
          have HQ := Lib.hid hq
          clear hnew hcl3 hkp hcur2 hsz hnc hq
          go_wp2_with (first
            | (refine L_loadrow rfl rfl H 0 rfl rfl Try.underlying45 rfl info45 rfl ?_; (try simp only [Act.put, List.setIfInBounds_toArray, List.set_cons_succ, List.set_cons_zero, List.getElem_toArray, List.getElem_cons_succ, List.getElem_cons_zero]))
            | (go_at_fn g; refine (hcl2 (H.drop (List.Sublist.cons _ (List.Sublist.cons _ (List.Sublist.refl _))))).mono ?_; clear hcl2; rintro e w' ⟨rfl, hE2⟩; replace H := H.calls hE2; clear hE2)
            | (refine wpList_store_mid rfl 45 _ _ rfl gb (i * 6) #[.int .i64 b1, .int .i64 b2, .int .i64 b3, .int .i64 b4, .int .i64 b5, .slice WA f.length wc9] rfl rfl (H.there 1 rfl (i * 6) 6 hif) info45 (by simp [Value.oneCell']) ?_; have hrw := hthere (H.at_ 1 rfl); have H4 := H.setRow (cs := cur2) 1 rfl; simp only [List.set_cons_zero, List.set_cons_succ] at H4; change wpList _ _ _ _ _ (World.setCells _ gb (i * 6) (bvCells ((WA, wc9), ⟨b1, b2, b3, b4, b5, f⟩))); rw [hrw]; clear H hthere hrw; generalize World.setRow _ gb cur2 = wB at *))
          go_roundw
          case rel => exact ⟨i + 1, j + 1, cur2, by go_num, by go_num, by omega, by omega, H4.drop (List.sublist_cons_self _ _), HN⟩
          case measure => simp [intOf]; omega
        · rw [hq] at hcl2
          have hkp : kept pr qs (j + 1) = kept pr qs j := by rw [HP.out.2]; simp only; rw [hq]; rfl
          have HKP := Lib.hid hkp
          clear hkp hq
          go_wp2_with (first
            | (refine L_loadrow rfl rfl H 0 rfl rfl Try.underlying45 rfl info45 rfl ?_; (try simp only [Act.put, List.setIfInBounds_toArray, List.set_cons_succ, List.set_cons_zero, List.getElem_toArray, List.getElem_cons_succ, List.getElem_cons_zero]))
            | (go_at_fn g; refine (hcl2 (H.drop (List.Sublist.cons _ (List.Sublist.cons _ (List.Sublist.refl _))))).mono ?_; clear hcl2; rintro e w' ⟨rfl, hE2⟩; replace H := H.calls hE2; clear hE2))
          go_roundw
          case rel => exact ⟨i, j + 1, cur, rfl, by go_num, by omega, by omega, H.drop (List.sublist_cons_self _ _), Lib.hid (by rw [HKP.out]; exact ⟨HL.out.1, HL.out.2.1, HL.out.2.2.1, HDR.out⟩)⟩
          case measure => simp [intOf]; omega
      · obtain rfl : j = qs.length := by omega
        have hjn2 : ¬ ((qs.length : Int) < (qs.length : Int)) := by omega
        have hnc := HCC.out.1
        have hic : ¬ (c = i) := by omega
        have hici : (i : Int) ≤ (qs.length : Int) := by omega
        have hicc : (i : Int) ≤ (c : Int) := by omega
        obtain ⟨zs, hz0, hzs, hzt⟩ := clearK_run (c := c - i) (o := i * 6) (m := qs.length - i) (H.at_ 0 rfl) (by have := HL.out.1; omega) (by omega) 0
        have hz : ∀ ty, (Builtin.clear_ #[22] ty #[.slice (some ⟨gb, i * 6, none⟩) (qs.length - i) (c - i)]).run Try.prog wr = .ok (.tuple #[]) (wr.setRow gb zs) := fun ty => hz0
        have H3 := H.setRow (cs := zs) 0 rfl
        simp only [List.set_cons_zero] at H3
        have HO := H3.toOwn 0 rfl 6 i c (by omega) HCC.out.2 (by rw [hzs]; exact HL.out.1) _ (hzt.trans HL.out.2.1)
        simp only [List.set_cons_zero] at HO
        have HH := Lib.hid HO
        have HLI := Lib.hid HL.out.2.2.1
        clear H H3 HO hz0 hzs hzt HL
        go_wp2
        go_ret
        exact ⟨_, i, rfl, HLI.out, HH.out⟩
def outL (bs : List Blk) (ids : List Int) : List Blk := bs.filter fun b => !decide (b.id ∈ ids)
theorem kept_map (qs : List BV) (ids : List Int) : (kept (fun b => decide (b.id ∈ ids)) qs qs.length).map (·.2) = outL (qs.map (·.2)) ids := by
  unfold kept outL
  rw [List.take_length, List.filter_map]
  rfl
theorem kept_mem {pr : Blk → Bool} {qs : List BV} {n : Nat} {q : BV} (h : q ∈ kept pr qs n) : q ∈ qs := by
  unfold kept at h
  exact List.mem_of_mem_take (List.mem_filter.1 h).1
theorem own_cap {w : World} {T : TypeId} {A : Option Addr} {c n : Nat} {qs : List BV} (hn : n = qs.length) (h : w.ownsRow 0 T 6 (.slice A n c) n (cellsOf bvCells qs)) : n ≤ c := by
  obtain ⟨_, c', he, hc⟩ := (RdS.own bvLen hn h).len
  simp only [Value.slice.injEq] at he
  omega
theorem clip_own {w : World} {A : Option Addr} {c n : Nat} {qs : List BV} (hn : n = qs.length) (h : RdS bvCells 6 w (.slice A n c) qs) : RdS bvCells 6 w (.slice A n n) qs := by
  subst hn
  exact h.clip
set_option maxRecDepth 100000 in
set_option maxHeartbeats 2000000 in
/-- Without, of any table. -/
theorem without_any (t : Tab) (bv iv : Value) (ps : List BV) (ids : List Int) (w : World) (hps : ps.map (·.2) = t.bs) (hb : BsR w bv ps) (hn : ps.length ≤ 1000) (hwl : ∀ p ∈ ps, p.2.wrap.length ≤ 140737488355000) (hr : RdS (encInt .i64) 1 w iv ids) (hi : ids.length ≤ 9223372036854775807) :
    Calls Try.prog 26 #[tabV t bv, iv] w (GivesTab w { t with bs := outL t.bs ids }) := by
  have eg : ∀ args w, (callFunc 54 args).run Try.prog w = .ok (.enter 54 args) w := enters_of Try.func54 (by kernel_rfl) rfl
  have hcop := fun {W : World} (h : Ext0 w W) => copied_any bv ps W (hb.keep h) (by omega) hwl
  obtain ⟨A, cap, rfl, _⟩ := hb.row.len
  obtain ⟨B, cap2, rfl, _⟩ := hr.len
  obtain ⟨epoch, old, phase, mode, next, gen, bs⟩ := t
  have H : SH (fun _ => False) w w [] := SH.nil _ _
  have HR := Lib.hid hr
  simp only [tabV] at hps ⊢
  subst hps
  clear hb hr
  go_enter Try.func26, Try.ntmps26
  go_upto_region 1 with (first
    | (refine L_box rfl rfl H rfl rfl ?_; clear H; intro g w H; (try simp only [Act.eval, Array.getD_eq_getD_getElem?, List.getElem?_toArray, List.getElem?_cons_succ, List.getElem?_cons_zero, Option.getD_some, Value.cells] at H); (try simp only [Act.put, List.setIfInBounds_toArray, List.set_cons_succ, List.set_cons_zero, List.getElem_toArray, List.getElem_cons_succ, List.getElem_cons_zero]))
    | (refine L_alloc rfl rfl H Try.zeroValue24 ?_; clear H; intro g4 w H; simp only [Value.cells] at H; (try simp only [Act.put, List.setIfInBounds_toArray, List.set_cons_succ, List.set_cons_zero, List.getElem_toArray, List.getElem_cons_succ, List.getElem_cons_zero])))
  go_upto_region 2 with (first
    | (refine L_load1 rfl rfl H 2 rfl rfl rfl Try.isAgg22 ?_; (try simp only [Act.put, List.setIfInBounds_toArray, List.set_cons_succ, List.set_cons_zero, List.getElem_toArray, List.getElem_cons_succ, List.getElem_cons_zero]))
    | (go_at_call 49; refine (hcop H.ext).mono ?_; rintro e w2 ⟨vl, qs, by_, rfl, h, hqm, hqb⟩; replace H := H.cat h; simp only [List.cons_append, List.nil_append] at H; clear h)
    | (go_at_call 53; have hql := congrArg List.length hqm; rw [List.length_map, List.length_map] at hql; refine (delete_any H hql.symm (by omega) 54 #[.pointer (some ⟨g, 0, none⟩)] (fun b => decide (b.id ∈ ids)) eg (fun W p hW => without_closure _ ids g W (cell_of_row W g 0 _ _ _ (hW.at_ 2 rfl)) (HR.out.keep hW.ext) hi W p (Ext.refl _ _))).mono ?_; clear H; rintro e w3 ⟨v3, n3, rfl, hn3, H⟩; obtain ⟨A3, c3, rfl⟩ := own_slice (H.get 0 rfl); have hcc := own_cap hn3 (H.get 0 rfl); have hn31 : n3 ≤ 1000 := Nat.le_trans (by rw [hn3]; exact kept_len _ _ _) hn; have HN3 := Lib.hid (And.intro hn3 (And.intro hqm (And.intro hqb hql))); clear hn3 hqm hqb hql)
    | (go_at_call 44; refine (clipBs_any A3 n3 c3 _ hcc (by omega)).mono ?_; rintro e w3 ⟨rfl, rfl⟩)
    | (refine L_store1 rfl rfl H 4 rfl rfl rfl rfl rfl (Nat.le_of_ble_eq_true rfl) Try.sizeOf22 ?_; clear H; intro w H; simp only [List.set_cons_zero, List.set_cons_succ, List.setIfInBounds_toArray, Act.eval, Array.getD_eq_getD_getElem?, List.getElem?_toArray, List.getElem?_cons_succ, List.getElem?_cons_zero, Option.getD_some] at H; (try simp only [Act.put, List.setIfInBounds_toArray, List.set_cons_succ, List.set_cons_zero, List.getElem_toArray, List.getElem_cons_succ, List.getElem_cons_zero])))
  go_wp2_with (first
    | (refine L_loadrow rfl rfl H 4 rfl rfl Try.underlying24 rfl info24 rfl ?_; (try simp only [Act.put, List.setIfInBounds_toArray, List.set_cons_succ, List.set_cons_zero, List.getElem_toArray, List.getElem_cons_succ, List.getElem_cons_zero]))
    | (refine L_storerow rfl rfl H 2 rfl rfl rfl info24 rfl rfl (one7s _ _ _ _ _ _ _ _ _) ?_; clear H; intro w H; simp only [List.set_cons_zero, List.set_cons_succ, List.setIfInBounds_toArray, Act.eval, Array.getD_eq_getD_getElem?, List.getElem?_toArray, List.getElem?_cons_succ, List.getElem?_cons_zero, Option.getD_some] at H; (try simp only [Act.put, List.setIfInBounds_toArray, List.set_cons_succ, List.set_cons_zero, List.getElem_toArray, List.getElem_cons_succ, List.getElem_cons_zero])))
  (try simp only [Exit.inBlock, Exit.then])
  refine L_retrow rfl H 2 rfl rfl Try.underlying24 rfl info24 rfl rfl ?_
  have hm : (kept (fun b => decide (b.id ∈ ids)) qs ps.length).map (·.2) = outL (ps.map (·.2)) ids := by
    rw [← HN3.out.2.2.2, kept_map, HN3.out.2.1]
  have hrow := RdS.own bvLen HN3.out.1 (H.get 0 rfl)
  have hby := H.get 1 (A := bytesA by_) rfl
  exact ⟨.slice A3 n3 n3, _, rfl, hm, ⟨clip_own HN3.out.1 hrow, fun q hq => hby _ (HN3.out.2.2.1 q (kept_mem hq))⟩, H.ext⟩
end Go.Proofs.Ytoaieodcdbbndaa
