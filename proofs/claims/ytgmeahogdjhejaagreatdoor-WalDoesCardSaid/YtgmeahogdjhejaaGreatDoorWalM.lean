/- extent.write: sectors on a disk. -/
import Derived.Test.YtgmeahogdjhejaaGreatDoorWalL
namespace Go.Proofs.YtgmeahogdjhejaaGreatDoor
set_option linter.unusedVariables false
set_option linter.unusedSimpArgs false
open Go.RowKit Go.Shelf
attribute [local go_sem] Oper.semAt_some

def extV (b : Nat) (f t : Int) : Value := .agg #[.pointer (some ⟨b, 0, none⟩), .int .i64 f, .int .i64 t]
/-- The pieces of these numbers. -/
def pieces (s : List Int) (pre : List Nat) : List Int := pre.flatMap fun y => (s.drop (y * 32)).take 32
theorem pieces_snoc (s : List Int) (pre : List Nat) (y : Nat) : pieces s (pre ++ [y]) = pieces s pre ++ (s.drop (y * 32)).take 32 := by simp [pieces]
theorem pieces_len (s : List Int) {n : Nat} (hs : s.length = 32 * n) : ∀ pre : List Nat, (∀ y ∈ pre, y < n) → (pieces s pre).length = 32 * pre.length
  | [], _ => rfl
  | y :: pre, h => by
    have ih := pieces_len s hs pre (fun z hz => h z (List.mem_cons_of_mem _ hz))
    have hy := h y List.mem_cons_self
    unfold pieces at ih ⊢
    rw [List.flatMap_cons, List.length_append, ih, List.length_take, List.length_drop, List.length_cons]
    omega
theorem pieces_range (s : List Int) : ∀ n, pieces s (List.range n) = s.take (32 * n)
  | 0 => by simp [pieces]
  | n + 1 => by
    rw [List.range_succ, pieces_snoc, pieces_range s n, Nat.mul_comm n 32, Nat.mul_succ, List.take_add]
theorem DS.lay_snoc : ∀ (k : Nat) (d : DS) (a : Nat) (s t : List Int), s.length = 32 * k → t.length = 32 → (d.lay a k s).2 = 0 → d.lay a (k + 1) (s ++ t) = (d.lay a k s).1.writeR ((a + k : Nat) : Int) t
  | 0, d, a, s, t, hs, ht, _ => by
    have h0 : s = [] := List.eq_nil_of_length_eq_zero (by omega)
    subst h0
    unfold DS.lay
    rw [List.nil_append, List.take_of_length_le (by omega)]
    split
    · rename_i h
      show ((d.writeR a t).1, 0) = d.writeR ((a + 0 : Nat) : Int) t
      exact Prod.ext rfl h.symm
    · rfl
  | k + 1, d, a, s, t, hs, ht, h0 => by
    have e1 : (s ++ t).take 32 = s.take 32 := List.take_append_of_le_length (by omega)
    have e2 : (s ++ t).drop 32 = s.drop 32 ++ t := List.drop_append_of_le_length (by omega)
    have hl : d.lay a (k + 1) s = if (d.writeR a (s.take 32)).2 = 0 then DS.lay (d.writeR a (s.take 32)).1 (a + 1) k (s.drop 32) else d.writeR a (s.take 32) := rfl
    have hr : d.lay a (k + 1 + 1) (s ++ t) = if (d.writeR a ((s ++ t).take 32)).2 = 0 then DS.lay (d.writeR a ((s ++ t).take 32)).1 (a + 1) (k + 1) ((s ++ t).drop 32) else d.writeR a ((s ++ t).take 32) := rfl
    rw [hl] at h0 ⊢
    rw [hr, e1, e2]
    by_cases hw : (d.writeR a (s.take 32)).2 = 0
    · rw [if_pos hw] at h0 ⊢
      rw [if_pos hw, DS.lay_snoc k _ (a + 1) (s.drop 32) t (by rw [List.length_drop]; omega) ht h0, show a + 1 + k = a + (k + 1) by omega]
    · rw [if_neg hw] at h0
      exact absurd h0 hw
theorem DS.lay_more : ∀ (k m : Nat) (d : DS) (a : Nat) (s t : List Int), s.length = 32 * k → (d.lay a k s).2 ≠ 0 → d.lay a (k + m) (s ++ t) = d.lay a k s
  | 0, m, d, a, s, t, hs, h => absurd rfl h
  | k + 1, m, d, a, s, t, hs, h => by
    have e1 : (s ++ t).take 32 = s.take 32 := List.take_append_of_le_length (by omega)
    have e2 : (s ++ t).drop 32 = s.drop 32 ++ t := List.drop_append_of_le_length (by omega)
    have hl : d.lay a (k + 1) s = if (d.writeR a (s.take 32)).2 = 0 then DS.lay (d.writeR a (s.take 32)).1 (a + 1) k (s.drop 32) else d.writeR a (s.take 32) := rfl
    have hr : d.lay a (k + m + 1) (s ++ t) = if (d.writeR a ((s ++ t).take 32)).2 = 0 then DS.lay (d.writeR a ((s ++ t).take 32)).1 (a + 1) (k + m) ((s ++ t).drop 32) else d.writeR a ((s ++ t).take 32) := rfl
    rw [hl] at h ⊢
    rw [show k + 1 + m = k + m + 1 by omega, hr, e1, e2]
    by_cases hw : (d.writeR a (s.take 32)).2 = 0
    · rw [if_pos hw] at h ⊢
      rw [if_pos hw, DS.lay_more k m _ (a + 1) (s.drop 32) t (by rw [List.length_drop]; omega) h]
    · rw [if_neg hw, if_neg hw]
theorem DS.Fine.lay : ∀ (n : Nat) {d : DS} {W : Int} (_ : d.Fine W) (a : Nat) {s : List Int} (_ : ∀ x ∈ s, 0 ≤ x ∧ x ≤ 255), (d.lay a n s).1.Fine (W + n)
  | 0, d, W, h, a, s, hb => h.mono (by omega)
  | n + 1, d, W, h, a, s, hb => by
    have h1 := h.writeR (i := (a : Int)) (xs := s.take 32) (fun x hx => hb x (List.mem_of_mem_take hx))
    have hl : d.lay a (n + 1) s = if (d.writeR a (s.take 32)).2 = 0 then DS.lay (d.writeR a (s.take 32)).1 (a + 1) n (s.drop 32) else d.writeR a (s.take 32) := rfl
    rw [hl]
    split
    · exact (DS.Fine.lay n h1 (a + 1) (fun x hx => hb x (List.mem_of_mem_drop hx))).mono (by omega)
    · exact h1.mono (by omega)
theorem RdS.keepM {α : Type} {enc : α → List Value} {k : Nat} {M : Nat → Prop} {w w' : World} {v : Value} {xs : List α} (h : RdS enc k w v xs) (e : Ext M w w') (hM : ∀ j, v.ownBlock = some j → ¬ M j) : RdS enc k w' v xs := by
  obtain ⟨A, cap, rfl, hc, h | ⟨b, off, cs, T, fr, rfl, hb, hcs⟩⟩ := h
  · exact ⟨A, cap, rfl, hc, .inl h⟩
  · exact ⟨_, cap, rfl, hc, .inr ⟨b, off, cs, T, fr, rfl, e.keep hb (hM b rfl), hcs⟩⟩
theorem ext_putObjM {M : Nat → Prop} {w0 w : World} (h : Ext M w0 w) {D : Nat} (hD : w0.heap.size ≤ D) (o' : Obj) : Ext M w0 (w.putObj D o') :=
  h.trans (Ext.of_grown (grownBy_putObj' w D o')) (fun i hi e => by cases e; omega)
theorem results_cell1 {P : Program} {fn : Func} {p : Tmp} {ty : TypeId} (h : fn.results = #[.cell p ty]) (tmps : Array Value) (w : World) (g : Nat) (t : TypeId) (v : Value) (fr : Nat × Nat)
    (hp : tmps.getD p undef = .pointer (some ⟨g, 0, none⟩)) (hg : w.heap[g]? = some (.cells #[v] t fr)) (hag : ∀ w, (isAgg ty).run P w = .ok false w) :
    (results fn tmps).run P w = .ok v w := by
  have hp' : tmps[p]?.getD undef = .pointer (some ⟨g, 0, none⟩) := by simpa using hp
  have hc : w.cell? ⟨g, 0, none⟩ = some v := by rw [cell_of_row w g 0 #[v] t fr hg]; rfl
  simp [results, h, hp', asAddr, loadVar, hag, hc]
/-- What lies apart while the pieces come. -/
def wrL (b bs bm : Nat) (d : DS) (s : List Int) (a n : Nat) (tt : Int) (bb off cap g2 g4 g5 Bs Bn : Nat) (pre : List Nat) : List Asr :=
  [pt Bn (.cells #[.int .i64 32] 3 (0, 0)), pt Bs (.cells #[.slice (some ⟨bb, off, none⟩) (32 * n) cap] 22 (0, 0)), pt g5 (.cells #[.int .i64 ((a + pre.length : Nat) : Int)] 3 (0, 0)), pt g4 (.cells #[.int .i64 0] 28 (0, 0)),
    pt g2 (.cells #[.pointer (some ⟨b, 0, none⟩), .int .i64 (a : Int), .int .i64 tt] 68 (0, 0)), DiskA b bs bm (d.lay a pre.length (pieces s (pre.map (within n)))).1]
def WriteE (b bs bm : Nat) (d : DS) (a n : Nat) (s : List Int) (w : World) (e : Ending) (w' : World) : Prop :=
  e = .returned (.int .i64 (d.lay a n s).2) ∧ Ext (DiskA b bs bm d).fp w w' ∧ (DiskA b bs bm (d.lay a n s).1).says w'
set_option maxRecDepth 100000 in
set_option maxHeartbeats 4000000 in
theorem ewrite_any {b bs bm : Nat} {d : DS} {W0 : Int} (w0 : World) (h : (DiskA b bs bm d).says w0) (hf : d.Fine W0) (hW : W0 ≤ 1000000000) (a n : Nat) (tt : Int) {v : Value} {s : List Int} (hr : RdS (encInt .u8) 1 w0 v s) (hb : ∀ x ∈ s, 0 ≤ x ∧ x ≤ 255)
    (hs : s.length = 32 * n) (hn : 1 ≤ n ∧ n ≤ 10000) (ha : a ≤ 1000000) (hap : ∀ j, v.ownBlock = some j → ¬ (DiskA b bs bm d).fp j) :
    Calls Tryz.prog 30 #[extV b a tt, v] w0 (WriteE b bs bm d a n s w0) := by
  obtain ⟨A, cap, rfl, hcap⟩ := hr.len
  obtain ⟨bb, off, rfl, _⟩ := byte_cell hr (j := 0) (by omega)
  rw [hs] at hcap ⊢
  have H0 : SH (DiskA b bs bm d).fp w0 w0 [DiskA b bs bm d] := ⟨Ext.refl _ _, by simpa using h, fun A hA i hi => by rw [List.mem_singleton.1 hA] at hi; exact DiskA.fp_lt h hi, fun A hA i hi => .inl (by rw [List.mem_singleton.1 hA] at hi; exact hi), by simp⟩
  have HR := Lib.hid (And.intro hr (And.intro hb (And.intro hap (And.intro hf hs))))
  clear hr hb hap hf h
  refine callsIn_wide.1 (callsIn_of_wp_marks (F := Fence.wide) (n := 3) Tryz.func30 rfl trivial (wpIn_wide.2 ?_) rfl)
  unfold extV
  simp only [Tryz.ntmps30, List.size_toArray, List.length_cons, List.length_nil, Nat.reduceAdd, Nat.reduceSub, Array.replicate_succ, Array.replicate_zero, List.push_toArray, List.append_toArray, List.nil_append, List.cons_append]
  go_upto_region 1 with (first
    | (refine L_box rfl rfl H0 rfl rfl ?_; clear H0; intro g2 w H; (try simp only [Act.eval, Array.getD_eq_getD_getElem?, List.getElem?_toArray, List.getElem?_cons_succ, List.getElem?_cons_zero, Option.getD_some, Value.cells] at H); (try simp only [Act.put, List.setIfInBounds_toArray, List.set_cons_succ, List.set_cons_zero, List.getElem_toArray, List.getElem_cons_succ, List.getElem_cons_zero]))
    | (refine L_alloc rfl rfl H Tryz.zeroValue28 ?_; clear H; intro g4 w H; simp only [Value.cells] at H; (try simp only [Act.put, List.setIfInBounds_toArray, List.set_cons_succ, List.set_cons_zero, List.getElem_toArray, List.getElem_cons_succ, List.getElem_cons_zero])))
  go_wp2_with (first
    | (refine L_load1 rfl rfl H 1 rfl rfl rfl Tryz.isAgg3 ?_; (try simp only [Act.put, List.setIfInBounds_toArray, List.set_cons_succ, List.set_cons_zero, List.getElem_toArray, List.getElem_cons_succ, List.getElem_cons_zero]))
    | (refine L_alloc rfl rfl H Tryz.zeroValue3 ?_; clear H; intro g5 w H; simp only [Value.cells] at H; (try simp only [Act.put, List.setIfInBounds_toArray, List.set_cons_succ, List.set_cons_zero, List.getElem_toArray, List.getElem_cons_succ, List.getElem_cons_zero]))
    | (refine L_store1 rfl rfl H 0 rfl rfl rfl rfl rfl (Nat.le_of_ble_eq_true rfl) Tryz.sizeOf3 ?_; clear H; intro w H; simp only [List.set_cons_zero, List.set_cons_succ, List.setIfInBounds_toArray, Act.eval, Array.getD_eq_getD_getElem?, List.getElem?_toArray, List.getElem?_cons_succ, List.getElem?_cons_zero, Option.getD_some] at H; (try simp only [Act.put, List.setIfInBounds_toArray, List.set_cons_succ, List.set_cons_zero, List.getElem_toArray, List.getElem_cons_succ, List.getElem_cons_zero]))
    | (go_at_call 60; refine (chunk_any _ _ _ 32 (by decide) _).mono ?_; rintro e1 w9 ⟨Bs, Bn, rfl, h⟩; replace H := H.cat h; clear h; simp only [List.cons_append, List.nil_append] at H))
  have hsz9 : w0.heap.size ≤ w9.heap.size := H.ext.size
  have hdl : ∀ i, (DiskA b bs bm d).fp i → i < w9.heap.size := fun i hi => DiskA.fp_lt (H.get 5 rfl) hi
  have hlow : ∀ pre, Low w9.heap.size (wrL b bs bm d s a n tt bb off cap g2 g4 g5 Bs Bn pre) := fun pre A hA => by
    simp only [wrL, List.mem_cons, List.not_mem_nil, or_false] at hA
    rcases hA with rfl | rfl | rfl | rfl | rfl | rfl <;> first | exact .inl (cellsA_pt _ _ _ _) | exact .inr hdl
  have hn0 : 0 < n := hn.1
  refine (wpIn_wide (n := 3)).1 ?_
  apply wpIn_rangeFunc_ownG (F := Fence.wide) (n := 3) (gf := 79) (lb := #[.pointer (some ⟨Bs, 0, none⟩), .pointer (some ⟨Bn, 0, none⟩)]) rfl (by decide) rfl trivial (enters_of Tryz.func79 (by kernel_rfl) rfl)
    (chunk32_stops Fence.wide (3 - 1) trivial rfl (by decide) Bs Bn bb off (32 * n) cap n (by omega) (by omega) (by omega) w9 (H.at_ 1 rfl) (H.at_ 0 rfl))
    (fun h k => kpB_t h k) (kpB_b (blk_lt' (H.at_ 1 rfl)) (blk_lt' (H.at_ 0 rfl))) (Below.refl _ _) (fun _ => rfl)
    (fun pre W => SH (DiskA b bs bm d).fp w0 W (wrL b bs bm d s a n tt bb off cap g2 g4 g5 Bs Bn pre) ∧ (d.lay a pre.length (pieces s (pre.map (within n)))).2 = 0)
    (fun c pre W => c = .ret ∧ ∃ p x, pre = p ++ [x] ∧ (d.lay a p.length (pieces s (p.map (within n)))).2 = 0 ∧ (d.lay a pre.length (pieces s (pre.map (within n)))).2 ≠ 0 ∧
      SH (DiskA b bs bm d).fp w0 W [pt g4 (.cells #[.int .i64 (d.lay a pre.length (pieces s (pre.map (within n)))).2] 28 (0, 0)), DiskA b bs bm (d.lay a pre.length (pieces s (pre.map (within n)))).1])
    (fun pre W W' row ⟨hs, h9⟩ hg hr => ⟨hs.walked (hlow pre) hsz9 hg hr, h9⟩)
    (fun c pre W W' row ⟨h1, p, x, h2, h3, h4, h5⟩ hg hr => ⟨h1, p, x, h2, h3, h4, h5.walked (B := w9.heap.size) (fun A hA => by
      simp only [List.mem_cons, List.not_mem_nil, or_false] at hA
      rcases hA with rfl | rfl <;> first | exact .inl (cellsA_pt _ _ _ _) | exact .inr hdl) hsz9 hg hr⟩) ⟨H, rfl⟩
  case hassign =>
    intro l x W K hK
    gi_wp2
    exact hK
  case hbody =>
    rintro l pre x W ⟨hs, h0⟩ hpre
    have K := hs.inner
    have h1n : 1 ≤ 3 - 1 - 1 := by decide
    obtain ⟨y, hy⟩ : ∃ y, within n x = y := ⟨_, rfl⟩
    have hyn : y < n := by rw [← hy]; exact within_lt hn0 x
    have hpx : piece32 bb off (32 * n) y = .slice (some ⟨bb, off + y * 32, none⟩) 32 32 := by
      unfold piece32
      rw [show min 32 (32 * n - y * 32) = 32 by omega]
    obtain ⟨ys, hys⟩ : ∃ ys, (s.drop (y * 32)).take 32 = ys := ⟨_, rfl⟩
    have hyl : ys.length = 32 := by rw [← hys, List.length_take, List.length_drop, HR.out.2.2.2.2]; omega
    rw [hy, hpx]
    obtain ⟨d1, hd1⟩ : ∃ d1, d.lay a pre.length (pieces s (pre.map (within n))) = d1 := ⟨_, rfl⟩
    have hml : ∀ z ∈ pre.map (within n), z < n := fun z hz => by
      obtain ⟨q, _, rfl⟩ := List.mem_map.1 hz
      exact within_lt hn0 q
    have hpl : (pieces s (pre.map (within n))).length = 32 * pre.length := by rw [pieces_len s HR.out.2.2.2.2 _ hml, List.length_map]
    have hpb : ∀ z ∈ pieces s (pre.map (within n)), 0 ≤ z ∧ z ≤ 255 := fun z hz => by
      obtain ⟨q, _, hq⟩ := List.mem_flatMap.1 hz
      exact HR.out.2.1 z (List.mem_of_mem_drop (List.mem_of_mem_take hq))
    have hyb : ∀ z ∈ ys, 0 ≤ z ∧ z ≤ 255 := fun z hz => by
      rw [← hys] at hz
      exact HR.out.2.1 z (List.mem_of_mem_drop (List.mem_of_mem_take hz))
    have hdf : d1.1.Fine (W0 + pre.length) := by
      rw [← hd1]
      exact HR.out.2.2.2.1.lay _ _ hpb
    have hsn : d.lay a (pre ++ [x]).length (pieces s ((pre ++ [x]).map (within n))) = d1.1.writeR ((a + pre.length : Nat) : Int) ys := by
      rw [List.length_append, List.length_singleton, List.map_append, List.map_singleton, pieces_snoc, hy, hys, ← hd1]
      exact DS.lay_snoc _ _ _ _ _ hpl hyl h0
    have hprF : ∀ {w' : World} {L' : List Asr}, SH (fps (wrL b bs bm d s a n tt bb off cap g2 g4 g5 Bs Bn pre)) W w' L' → RdS (encInt .u8) 1 w' (.slice (some ⟨bb, off + y * 32, none⟩) 32 32) ys := fun {w' L'} h => by
      have h1 := RdS.keepM (sub_rd HR.out.1 (y * 32) 32 32 (by rw [HR.out.2.2.2.2]; omega) (by omega)) (hs.outer h).ext (fun j hj => HR.out.2.2.1 j hj)
      rw [← hys]
      exact h1
    rw [hd1] at h0
    obtain ⟨d2, hd2⟩ : ∃ d2, d1.1.writeR ((a + pre.length : Nat) : Int) ys = d2 := ⟨_, rfl⟩
    have hwr := fun {w' : World} {L' : List Asr} (hS : SH (fps (wrL b bs bm d s a n tt bb off cap g2 g4 g5 Bs Bn pre)) W w' L') (hD : (DiskA b bs bm d1.1).says w') => dwrite hD hdf (by omega) ((a + pre.length : Nat) : Int) (hprF hS) (fun j hj => HR.out.2.2.1 j hj)
    rw [hd2] at hwr hsn
    obtain ⟨p, hp⟩ : ∃ p : Int, ((a + pre.length : Nat) : Int) = p := ⟨_, rfl⟩
    rw [hp] at hwr
    have hpn : ((a + (pre ++ [x]).length : Nat) : Int) = p + 1 := by rw [List.length_append, List.length_singleton]; omega
    have hwp : IntKind.i64.wrap (p + 1) = p + 1 := by rw [IntKind.wrap_i64]; omega
    have HP := Lib.hid hpn
    generalize hM : fps (wrL b bs bm d s a n tt bb off cap g2 g4 g5 Bs Bn pre) = M0 at K hprF hwr
    unfold wrL at K
    rw [hd1, hp] at K
    clear hpn hp
    have HM0 := Lib.hid (And.intro hM (And.intro hsn (And.intro hd1 h0)))
    clear hM hsn hd1 h0 hpx hys hy hpl hml hpb hyb hdf hd2
    by_cases he : d2.2 = 0
    · have HE := Lib.hid he
      rw [he] at hwr
      clear he
      gi_wp2_with (first
        | (refine IL_load1 rfl (by intro c h; cases h) (fun _ => rfl) rfl K 4 rfl rfl rfl Tryz.isAgg24 ?_; (try simp only [Act.put, List.setIfInBounds_toArray, List.set_cons_succ, List.set_cons_zero, List.getElem_toArray, List.getElem_cons_succ, List.getElem_cons_zero]))
        | (refine IL_load1 rfl (by intro c h; cases h) (fun _ => rfl) rfl K 2 rfl rfl rfl Tryz.isAgg3 ?_; (try simp only [Act.put, List.setIfInBounds_toArray, List.set_cons_succ, List.set_cons_zero, List.getElem_toArray, List.getElem_cons_succ, List.getElem_cons_zero]))
        | (refine ⟨trivial, ?_⟩; gi_at_call 61; refine (CallsIn.inRound l (callsIn_wide.2 (hwr K (K.get 5 rfl)))).mono ?_; rintro e1 w1 ⟨rfl, hE, hsay⟩; replace K := K.disk 5 rfl hE hsay; simp only [List.set_cons_zero, List.set_cons_succ] at K; clear hE hsay)
        | (refine IL_store1 rfl (by intro c h; cases h) (fun _ => rfl) rfl K 2 rfl rfl rfl rfl rfl (Nat.le_of_ble_eq_true rfl) Tryz.sizeOf3 ?_; clear K; intro w1 K; simp only [List.set_cons_zero, List.set_cons_succ, List.setIfInBounds_toArray, Act.eval, Array.getD_eq_getD_getElem?, List.getElem?_toArray, List.getElem?_cons_succ, List.getElem?_cons_zero, Option.getD_some] at K; (try simp only [Act.put, List.setIfInBounds_toArray, List.set_cons_succ, List.set_cons_zero, List.getElem_toArray, List.getElem_cons_succ, List.getElem_cons_zero])))
      have hM := HM0.out.1
      subst hM
      have hO := hs.outer K
      refine ⟨(hlow pre).keeps hs K, kpB_of (hs.at_ 1 rfl) (hs.at_ 0 rfl) (K.at_ 1 rfl) (K.at_ 0 rfl), ?_, by rw [HM0.out.2.1]; exact HE.out⟩
      unfold wrL
      rw [HM0.out.2.1, HP.out]
      exact hO
    · have HE := Lib.hid he
      obtain ⟨ev, hev⟩ : ∃ ev, d2.2 = ev := ⟨_, rfl⟩
      rw [hev] at hwr he
      have HEV := Lib.hid hev
      clear hev
      gi_wp2_with (first
        | (refine IL_load1 rfl (by intro c h; cases h) (fun _ => rfl) rfl K 4 rfl rfl rfl Tryz.isAgg24 ?_; (try simp only [Act.put, List.setIfInBounds_toArray, List.set_cons_succ, List.set_cons_zero, List.getElem_toArray, List.getElem_cons_succ, List.getElem_cons_zero]))
        | (refine IL_load1 rfl (by intro c h; cases h) (fun _ => rfl) rfl K 2 rfl rfl rfl Tryz.isAgg3 ?_; (try simp only [Act.put, List.setIfInBounds_toArray, List.set_cons_succ, List.set_cons_zero, List.getElem_toArray, List.getElem_cons_succ, List.getElem_cons_zero]))
        | (refine ⟨trivial, ?_⟩; gi_at_call 61; refine (CallsIn.inRound l (callsIn_wide.2 (hwr K (K.get 5 rfl)))).mono ?_; rintro e1 w1 ⟨rfl, hE, hsay⟩; replace K := K.disk 5 rfl hE hsay; simp only [List.set_cons_zero, List.set_cons_succ] at K; clear hE hsay)
        | (refine IL_store1 rfl (by intro c h; cases h) (fun _ => rfl) rfl K 3 rfl rfl rfl rfl rfl (Nat.le_of_ble_eq_true rfl) Tryz.sizeOf28 ?_; clear K; intro w1 K; simp only [List.set_cons_zero, List.set_cons_succ, List.setIfInBounds_toArray, Act.eval, Array.getD_eq_getD_getElem?, List.getElem?_toArray, List.getElem?_cons_succ, List.getElem?_cons_zero, Option.getD_some] at K; (try simp only [Act.put, List.setIfInBounds_toArray, List.set_cons_succ, List.set_cons_zero, List.getElem_toArray, List.getElem_cons_succ, List.getElem_cons_zero])))
      have hM := HM0.out.1
      subst hM
      have hO := hs.outer K
      refine ⟨(hlow pre).keeps hs K, rfl, pre, x, rfl, by rw [HM0.out.2.2.1]; exact HM0.out.2.2.2, by rw [HM0.out.2.1]; exact HE.out, ?_⟩
      rw [HM0.out.2.1, HEV.out]
      exact hO.drop (.cons _ (.cons _ (.cons _ (.cons_cons _ (.cons _ (.cons_cons _ .slnil))))))
  case hdone =>
    rintro D ps W hD rfl ⟨hs, h0⟩ hK
    have hnot := (hlow _).not hs hD hK rfl
    have K := hs.inner
    have hps : pieces s ((List.range n).map (within n)) = s := by rw [within_range, pieces_range, List.take_of_length_le (by rw [HR.out.2.2.2.2]; omega)]
    generalize hM : fps (wrL b bs bm d s a n tt bb off cap g2 g4 g5 Bs Bn (List.range n)) = M0 at K
    unfold wrL at K
    go_wp2_with (first
      | (refine L_store1 rfl rfl K 3 rfl rfl rfl rfl rfl (Nat.le_of_ble_eq_true rfl) Tryz.sizeOf28 ?_; clear K; intro w1 K; simp only [List.set_cons_zero, List.set_cons_succ, List.setIfInBounds_toArray, Act.eval, Array.getD_eq_getD_getElem?, List.getElem?_toArray, List.getElem?_cons_succ, List.getElem?_cons_zero, Option.getD_some] at K; (try simp only [Act.put, List.setIfInBounds_toArray, List.set_cons_succ, List.set_cons_zero, List.getElem_toArray, List.getElem_cons_succ, List.getElem_cons_zero])))
    subst hM
    have hO := hs.outer K
    have hK1 : w1.heap[D]? = some (.deferred (some [])) := K.ext.keep hK (fun ⟨A, hA, hf⟩ => hnot A hA hf)
    rw [List.length_range, hps] at hO h0
    refine ⟨by simp, .inl ⟨_, _, rfl, run_takeDeferred hK1, ?_⟩⟩
    refine ⟨_, results_cell1 rfl _ _ g4 _ _ _ rfl ((World.putObj_heap_other (fun e => by have h9 := hO.at_ 3 rfl; rw [e, hK1] at h9; cases h9)).trans (hO.at_ 3 rfl)) Tryz.isAgg28, ?_, ext_putObjM hO.ext (Nat.le_trans hsz9 hD) _, ?_⟩
    · rw [h0]
    · exact (DiskA b bs bm _).keep w1 _ (fun i hi => World.putObj_heap_other (fun e => by have := hdl i hi; omega)) (hO.get 5 rfl)
  case hstop =>
    rintro D c pre W hD hpre ⟨rfl, p, x, hpx, h1, h2, hs⟩ hK
    have hk : pre = List.range pre.length := by
      have h3 := List.prefix_iff_eq_take.1 hpre
      have h4 := hpre.length_le
      rw [List.length_range] at h4
      rw [List.take_range, Nat.min_eq_left h4] at h3
      exact h3
    have h4 := hpre.length_le
    rw [List.length_range] at h4
    obtain ⟨k, hkl⟩ : ∃ k, pre.length = k := ⟨_, rfl⟩
    rw [hkl] at hk h4
    have hpp : pieces s (pre.map (within n)) = s.take (32 * k) := by
      rw [hk, show (List.range k).map (within n) = List.range k from ?_, pieces_range]
      conv => rhs; rw [← List.map_id (List.range k)]
      refine List.map_congr_left fun z hz => ?_
      unfold within
      rw [if_pos (Nat.lt_of_lt_of_le (List.mem_range.1 hz) h4)]
      rfl
    rw [hkl, hpp] at h2 hs
    have hlm := DS.lay_more k (n - k) d a (s.take (32 * k)) (s.drop (32 * k)) (by rw [List.length_take, HR.out.2.2.2.2]; omega) h2
    rw [show k + (n - k) = n by omega, List.take_append_drop] at hlm
    rw [← hlm] at hs
    refine wpIn_ret ?_
    refine ⟨by simp, .inl ⟨_, _, rfl, run_takeDeferred hK, ?_⟩⟩
    refine ⟨_, results_cell1 rfl _ _ g4 _ _ _ rfl ((World.putObj_heap_other (fun e => by have h9 := hs.at_ 0 rfl; rw [e, hK] at h9; cases h9)).trans (hs.at_ 0 rfl)) Tryz.isAgg28, rfl, ext_putObjM hs.ext (Nat.le_trans hsz9 hD) _, ?_⟩
    exact (DiskA b bs bm _).keep W _ (fun i hi => World.putObj_heap_other (fun e => by have := hdl i hi; omega)) (hs.get 1 rfl)
end Go.Proofs.YtgmeahogdjhejaaGreatDoor
