/- layout.top: the greatest epoch of all marks. -/
import Derived.Test.YtgmeahogdjhejaaDoorWalN
namespace Go.Proofs.YtgmeahogdjhejaaDoor
set_option linter.unusedVariables false
set_option linter.unusedSimpArgs false
open Go.RowKit Go.Shelf
attribute [local go_sem] Oper.semAt_some

def layV (b : Nat) (slot log : Int) : Value := .agg #[.pointer (some ⟨b, 0, none⟩), .int .i64 slot, .int .i64 log]
theorem DS.sec_len {d : DS} {W : Int} (hf : d.Fine W) {i : Nat} (hi : i < d.sure.length) : (d.sec i).length = 32 :=
  (DS.is_ok hf.sure (fun p hp => (hf.pend p hp).1) (i := (i : Int)) (by omega) (by omega)).1
theorem DS.sec_bytes {d : DS} {W : Int} (hf : d.Fine W) {i : Nat} (hi : i < d.sure.length) : ∀ x ∈ d.sec i, 0 ≤ x ∧ x ≤ 255 :=
  (DS.is_ok hf.sure (fun p hp => (hf.pend p hp).1) (i := (i : Int)) (by omega) (by omega)).2
theorem DS.between_len {d : DS} {W : Int} (hf : d.Fine W) (a : Nat) : ∀ n, a + n ≤ d.sure.length → (d.between a n).length = 32 * n
  | 0, _ => rfl
  | n + 1, h => by rw [DS.between_snoc, List.length_append, DS.between_len hf a n (by omega), DS.sec_len hf (by omega)]; omega
theorem DS.between_bytes {d : DS} {W : Int} (hf : d.Fine W) (a n : Nat) (h : a + n ≤ d.sure.length) : ∀ x ∈ d.between a n, 0 ≤ x ∧ x ≤ 255 := by
  intro x hx
  obtain ⟨i, hi, hx⟩ := List.mem_flatMap.1 hx
  exact DS.sec_bytes hf (by have := List.mem_range.1 hi; omega) x hx
theorem DS.between_at {d : DS} {W : Int} (hf : d.Fine W) (a : Nat) : ∀ n i, a + n ≤ d.sure.length → i < n → ((d.between a n).drop (i * 32)).take 32 = d.sec (a + i)
  | n + 1, i, h, hi => by
    have hl := DS.between_len hf a n (by omega)
    rw [DS.between_snoc]
    by_cases hin : i < n
    · rw [List.drop_append_of_le_length (by omega), List.take_append_of_le_length (by rw [List.length_drop]; omega), DS.between_at hf a n i (by omega) hin]
    · obtain rfl : i = n := by omega
      rw [List.drop_left' (by omega), List.take_of_length_le (by rw [DS.sec_len hf (by omega)]; omega)]
/-- The greatest epoch of the pieces of these numbers. -/
def topL (s : List Int) (pre : List Nat) : Int := pre.foldl (fun m y => max m (epochP ((s.drop (y * 32)).take 32))) 0
theorem topL_snoc (s : List Int) (pre : List Nat) (y : Nat) : topL s (pre ++ [y]) = max (topL s pre) (epochP ((s.drop (y * 32)).take 32)) := by simp [topL]
theorem topL_range {d : DS} {W : Int} (hf : d.Fine W) {N : Nat} (hN : N ≤ d.sure.length) : ∀ n, n ≤ N → topL (d.between 0 N) (List.range n) = topP d n
  | 0, _ => rfl
  | n + 1, h => by
    have ih := topL_range hf hN n (by omega)
    unfold topP at ih ⊢
    rw [List.range_succ, topL_snoc, List.foldl_append, List.foldl_cons, List.foldl_nil, ih, DS.between_at hf 0 N n (by omega) (by omega), Nat.zero_add]
/-- What lies apart while the pieces come. -/
def topA (b : Nat) (s : List Int) (slot log : Int) (n bb cap g1 g3 Bs Bn : Nat) (pre : List Nat) : List Asr :=
  [pt Bn (.cells #[.int .i64 32] 3 (0, 0)), pt Bs (.cells #[.slice (some ⟨bb, 0, none⟩) (32 * n) cap] 23 (0, 0)), ownA 5 1 (.slice (some ⟨bb, 0, none⟩) (32 * n) cap) (32 * n) (cellsOf (encInt .u8) s), pt g3 (.cells #[.int .i64 (topL s (pre.map (within n)))] 3 (0, 0)), pt g1 (.cells #[.pointer (some ⟨b, 0, none⟩), .int .i64 slot, .int .i64 log] 60 (0, 0))]
def TbRel (l : List Int) (w : World) (vn vi : Value) (wr : World) : Prop := ∃ k : Nat, vi = .int .i64 (k : Int) ∧ vn = .int .i64 (numB (l.take k)) ∧ k ≤ 4 ∧ wr = w
set_option maxRecDepth 100000 in
set_option maxHeartbeats 4000000 in
theorem top_any {b bs bm : Nat} {d : DS} {W0 : Int} (w0 : World) (h : (DiskA b bs bm d).says w0) (hf : d.Fine W0) (slot log : Nat) (hs : 1 ≤ slot) (hn : 2 * slot + log ≤ d.sure.length) :
    Calls Tryd.prog 36 #[layV b slot log] w0 fun e w' => e = .returned (.int .i64 (topP d (2 * slot + log))) ∧ Ext0 w0 w' := by
  have hlen := hf.len
  have H0 : SH (fun _ => False) w0 w0 [] := SH.nil _ _
  obtain ⟨n, hnn⟩ : ∃ n, 2 * slot + log = n := ⟨_, rfl⟩
  obtain ⟨sl, hsl⟩ : ∃ sl : Int, (slot : Int) = sl := ⟨_, rfl⟩
  obtain ⟨lo, hlo⟩ : ∃ lo : Int, (log : Int) = lo := ⟨_, rfl⟩
  have hn1 : 1 ≤ n := by omega
  have hw1 : IntKind.i64.wrap (2 * sl) = 2 * sl := by rw [IntKind.wrap_i64]; omega
  have hw2 : IntKind.i64.wrap (2 * sl + lo) = 2 * sl + lo := by rw [IntKind.wrap_i64]; omega
  have hq : 2 * sl + lo = ((0 + n : Nat) : Int) := by omega
  rw [hnn] at hn ⊢
  rw [hsl, hlo]
  have hrd := fun {w : World} (hE : Ext0 w0 w) => eread_any w ((DiskA b bs bm d).keep w0 w (fun j hj => hE.block j (DiskA.fp_lt h hj) (fun e => e)) h) hf 0 n 0 (2 * sl + lo) rfl hq (by omega)
  have hsL := DS.between_len hf 0 n (by omega)
  have hsB := DS.between_bytes hf 0 n (by omega)
  have htR := topL_range hf hn n (Nat.le_refl _)
  obtain ⟨s, hse⟩ : ∃ s, d.between 0 n = s := ⟨_, rfl⟩
  rw [hse] at hsL hsB htR hrd
  have HS := Lib.hid (And.intro hsL (And.intro hsB htR))
  clear hq hsL hsB htR hse hnn hsl hlo h
  refine callsIn_wide.1 (callsIn_of_wp_marks (F := Fence.wide) (n := 3) Tryd.func36 rfl trivial (wpIn_wide.2 ?_) rfl)
  unfold layV
  simp only [Tryd.ntmps36, List.size_toArray, List.length_cons, List.length_nil, Nat.reduceAdd, Nat.reduceSub, Array.replicate_succ, Array.replicate_zero, List.push_toArray, List.append_toArray, List.nil_append, List.cons_append]
  go_upto_region 1 with (first
    | (refine L_box rfl rfl H0 rfl rfl ?_; clear H0; intro g1 w H; (try simp only [Act.eval, Array.getD_eq_getD_getElem?, List.getElem?_toArray, List.getElem?_cons_succ, List.getElem?_cons_zero, Option.getD_some, Value.cells] at H); (try simp only [Act.put, List.setIfInBounds_toArray, List.set_cons_succ, List.set_cons_zero, List.getElem_toArray, List.getElem_cons_succ, List.getElem_cons_zero])))
  go_upto_region 2 with (first
    | (refine L_alloc rfl rfl H Tryd.zeroValue3 ?_; clear H; intro g3 w H; simp only [Value.cells] at H; (try simp only [Act.put, List.setIfInBounds_toArray, List.set_cons_succ, List.set_cons_zero, List.getElem_toArray, List.getElem_cons_succ, List.getElem_cons_zero]))
    | (refine L_store1 rfl rfl H 0 rfl rfl rfl rfl rfl (Nat.le_of_ble_eq_true rfl) Tryd.sizeOf3 ?_; clear H; intro w H; simp only [List.set_cons_zero, List.set_cons_succ, List.setIfInBounds_toArray, Act.eval, Array.getD_eq_getD_getElem?, List.getElem?_toArray, List.getElem?_cons_succ, List.getElem?_cons_zero, Option.getD_some] at H; (try simp only [Act.put, List.setIfInBounds_toArray, List.set_cons_succ, List.set_cons_zero, List.getElem_toArray, List.getElem_cons_succ, List.getElem_cons_zero])))
  go_wp2_with (first
    | (refine L_load1 rfl rfl H 1 rfl rfl rfl Tryd.isAgg24 ?_; (try simp only [Act.put, List.setIfInBounds_toArray, List.set_cons_succ, List.set_cons_zero, List.getElem_toArray, List.getElem_cons_succ, List.getElem_cons_zero]))
    | (refine L_load1 rfl rfl H 1 rfl rfl rfl Tryd.isAgg3 ?_; (try simp only [Act.put, List.setIfInBounds_toArray, List.set_cons_succ, List.set_cons_zero, List.getElem_toArray, List.getElem_cons_succ, List.getElem_cons_zero]))
    | (go_at_call 33; refine (hrd H.ext).mono ?_; rintro e1 w2 ⟨v, rfl, ho, hE⟩; rw [HS.out.1] at ho; obtain ⟨bb, cap, rfl, hcap⟩ := own_some ho (by omega); replace H := H.addOwn hE ho; clear ho hE)
    | (go_at_call 46; refine (chunk_any _ _ _ 32 (by decide) _).mono ?_; rintro e1 w9 ⟨Bs, Bn, rfl, h⟩; replace H := H.cat h; clear h; simp only [List.cons_append, List.nil_append] at H))
  have hsz9 : w0.heap.size ≤ w9.heap.size := H.ext.size
  have hn0 : 0 < n := hn1
  have hlow : ∀ pre, Low w9.heap.size (topA b s sl lo n bb cap g1 g3 Bs Bn pre) := fun pre A hA => by
    simp only [topA, List.mem_cons, List.not_mem_nil, or_false] at hA
    rcases hA with rfl | rfl | rfl | rfl | rfl <;> first | exact .inl (cellsA_pt _ _ _ _) | exact .inl (cellsA_own _ _ _ _ _)
  refine (wpIn_wide (n := 3)).1 ?_
  apply wpIn_rangeFunc_ownG (F := Fence.wide) (n := 3) (gf := 63) (lb := #[.pointer (some ⟨Bs, 0, none⟩), .pointer (some ⟨Bn, 0, none⟩)]) rfl (by decide) rfl trivial (enters_of Tryd.func63 (by kernel_rfl) rfl)
    (chunk32_stops Fence.wide (3 - 1) trivial rfl (by decide) Bs Bn bb 0 (32 * n) cap n (by omega) (by omega) (by omega) w9 (H.at_ 1 rfl) (H.at_ 0 rfl))
    (fun h k => kpB_t h k) (kpB_b (blk_lt' (H.at_ 1 rfl)) (blk_lt' (H.at_ 0 rfl))) (Below.refl _ _) (fun _ => rfl)
    (fun pre W => SH (fun _ => False) w0 W (topA b s sl lo n bb cap g1 g3 Bs Bn pre)) (fun _ _ _ => False)
    (fun pre W W' row hs hg hr => hs.walked (hlow pre) hsz9 hg hr) (fun _ _ _ _ _ h _ _ => h) H
  case hassign =>
    intro l x W K hK
    gi_wp2
    exact hK
  case hbody =>
    rintro l pre x W hs hpre
    have K := hs.inner
    obtain ⟨y, hy⟩ : ∃ y, within n x = y := ⟨_, rfl⟩
    have hyn : y < n := by rw [← hy]; exact within_lt hn0 x
    obtain ⟨oy, hoy⟩ : ∃ oy, 0 + y * 32 = oy := ⟨_, rfl⟩
    have hpx : piece32 bb 0 (32 * n) y = .slice (some ⟨bb, oy, none⟩) 32 32 := by
      unfold piece32
      rw [show min 32 (32 * n - y * 32) = 32 by omega, hoy]
    rw [hy, hpx]
    obtain ⟨q, hq⟩ : ∃ q, (((s.drop (y * 32)).take 32).drop 24).take 4 = q := ⟨_, rfl⟩
    have hql : q.length = 4 := by rw [← hq]; simp [HS.out.1]; omega
    have hqb : ∀ z ∈ q, 0 ≤ z ∧ z ≤ 255 := fun z hz => by
      rw [← hq] at hz
      exact HS.out.2.1 z (List.mem_of_mem_drop (List.mem_of_mem_take (List.mem_of_mem_drop (List.mem_of_mem_take hz))))
    have hqc : ∀ k (hk : k < q.length), W.cell? ⟨bb, oy + 24 + k, none⟩ = some (.int .u8 q[k]) := fun k hk => by
      have hor : RdS (encInt .u8) 1 W (.slice (some ⟨bb, 0, none⟩) (32 * n) cap) s := own_rd (hs.get 2 rfl) HS.out.1.symm
      rw [← HS.out.1] at hor
      obtain ⟨bb', off', hA, hcs⟩ := byte_cell hor (j := 0) (by rw [HS.out.1]; omega)
      cases hA
      have hk4 : k < 4 := by omega
      have h1 := hcs (y * 32 + 24 + k) (by rw [HS.out.1]; omega)
      rw [show oy + 24 + k = 0 + (y * 32 + 24 + k) by omega, h1]
      congr 2
      simp only [← hq, List.getElem_take, List.getElem_drop]
      congr 1
      omega
    have hep : epochP ((s.drop (y * 32)).take 32) = numB q := by rw [← hq]; rfl
    have htop : topL s ((pre ++ [x]).map (within n)) = max (topL s (pre.map (within n))) (numB q) := by rw [List.map_append, List.map_singleton, topL_snoc, hy, hep]
    obtain ⟨tp, htp⟩ : ∃ tp, topL s (pre.map (within n)) = tp := ⟨_, rfl⟩
    rw [htp] at htop
    generalize hM : fps (topA b s sl lo n bb cap g1 g3 Bs Bn pre) = M0 at K
    unfold topA at K
    rw [htp] at K
    have HM0 := Lib.hid (And.intro hM (And.intro htop (And.intro hql (And.intro hqb hqc))))
    clear hM htop htp hep hq hy hpx hql hqb hqc hoy
    gi_wp2
    gi_loopw [5, 23] (fun vn vi wr => TbRel q W vn vi wr) (fun _ vi _ => 4 - (intOf vi).toNat)
    case atStart => exact ⟨0, rfl, rfl, Nat.zero_le _, rfl⟩
    case round =>
      obtain ⟨k, rfl, rfl, hk, hwr⟩ := hrel
      replace hwr := hwr.symm
      subst hwr
      obtain ⟨z, hz⟩ : ∃ z, numB (q.take k) = z := ⟨_, rfl⟩
      rw [hz]
      by_cases hkn : k < 4
      · have hki : (k : Int) < 4 := by omega
        have hkl : k < q.length := by rw [HM0.out.2.2.1]; exact hkn
        have hck := HM0.out.2.2.2.2 k hkl
        have hcb := HM0.out.2.2.2.1 q[k] (List.getElem_mem hkl)
        have hyb := numB_lt k (q.take k) (by rw [List.length_take]; omega) (fun x hx => HM0.out.2.2.2.1 x (List.mem_of_mem_take hx))
        have hp := pow_le3 k (by omega)
        rw [hz] at hyb
        obtain ⟨c, hc⟩ : ∃ c, q[k] = c := ⟨_, rfl⟩
        rw [hc] at hck hcb
        have hsn : numB (q.take (k + 1)) = z * 256 + c := by
          rw [List.take_add_one, List.getElem?_eq_getElem hkl, hc, ← hz, ← numB_snoc]
          rfl
        have HSN := Lib.hid hsn
        have hw3 : IntKind.i64.wrap (z * 256) = z * 256 := by rw [IntKind.wrap_i64]; omega
        have hw4 : IntKind.i64.wrap c = c := by rw [IntKind.wrap_i64]; omega
        have hw5 : IntKind.i64.wrap (z * 256 + c) = z * 256 + c := by rw [IntKind.wrap_i64]; omega
        clear hsn hc hz hyb hp hcb
        gi_wp2
        go_roundw
        case rel => exact ⟨k + 1, by go_num, by rw [HSN.out], by omega, rfl⟩
        case measure => simp [intOf]; omega
      · obtain rfl : k = 4 := by omega
        rw [List.take_of_length_le (by rw [HM0.out.2.2.1]; omega)] at hz
        have HZ := Lib.hid hz
        clear hz
        gi_wp2_with (first
          | (refine IL_load1 rfl (by intro c h; cases h) (fun _ => rfl) rfl K 3 rfl rfl rfl Tryd.isAgg3 ?_; (try simp only [Act.put, List.setIfInBounds_toArray, List.set_cons_succ, List.set_cons_zero, List.getElem_toArray, List.getElem_cons_succ, List.getElem_cons_zero]))
          | (refine IL_store1 rfl (by intro c h; cases h) (fun _ => rfl) rfl K 3 rfl rfl rfl rfl rfl (Nat.le_of_ble_eq_true rfl) Tryd.sizeOf3 ?_; clear K; intro w1 K; simp only [List.set_cons_zero, List.set_cons_succ, List.setIfInBounds_toArray, Act.eval, Array.getD_eq_getD_getElem?, List.getElem?_toArray, List.getElem?_cons_succ, List.getElem?_cons_zero, Option.getD_some] at K; (try simp only [Act.put, List.setIfInBounds_toArray, List.set_cons_succ, List.set_cons_zero, List.getElem_toArray, List.getElem_cons_succ, List.getElem_cons_zero])))
        have hM := HM0.out.1
        subst hM
        have hO := hs.outer K
        refine ⟨(hlow pre).keeps hs K, kpB_of (hs.at_ 1 rfl) (hs.at_ 0 rfl) (K.at_ 1 rfl) (K.at_ 0 rfl), ?_⟩
        show SH (fun _ => False) w0 w1 (topA b s sl lo n bb cap g1 g3 Bs Bn (pre ++ [x]))
        unfold topA
        rw [HM0.out.2.1, HZ.out]
        exact hO
  case hdone =>
    rintro D ps W hD rfl hs hK
    unfold topA at hs
    rw [within_range, HS.out.2.2] at hs
    go_wp2_with (first
      | (refine L_load1 rfl rfl hs 3 rfl rfl rfl Tryd.isAgg3 ?_; (try simp only [Act.put, List.setIfInBounds_toArray, List.set_cons_succ, List.set_cons_zero, List.getElem_toArray, List.getElem_cons_succ, List.getElem_cons_zero])))
    refine ⟨by simp, .inl ⟨_, _, rfl, run_takeDeferred hK, ?_⟩⟩
    exact ⟨_, results_tmp rfl _ _ _, rfl, ext_putObj hs.ext (Nat.le_trans hsz9 hD) _⟩
  case hstop =>
    rintro D c pre W _ _ h _
    exact h.elim
end Go.Proofs.YtgmeahogdjhejaaDoor
