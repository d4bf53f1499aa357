/- layout.top: the greatest epoch of all marks. layout.may, layout.place, layout.logs. layout.place, layout.logs, layout.record. Format. -/
import Derived.Test.YtgmeahogdjhejaaGreatDoorWalN
import Derived.Test.YtgmeahogdjhejaaGreatDoorSymV
namespace Go.Proofs.YtgmeahogdjhejaaGreatDoor
set_option linter.unusedVariables false
set_option linter.unusedSimpArgs false
open Go.RowKit Go.Shelf
attribute [local go_sem] Oper.semAt_some

def layV (b : Nat) (slot log : Int) : Value := .agg #[.pointer (some ⟨b, 0, none⟩), .int .i64 slot, .int .i64 log]
theorem DS.sec_len {d : DS} {W : Int} (hf : d.Fine W) {i : Nat} (hi : i < d.sure.length) : (d.sec i).length = 32 :=
  (DS.is_ok hf.sure (fun p hp => (hf.pend p hp).1) (i := (i : Int)) (by omega) (by omega)).1
theorem DS.sec_bytes {d : DS} {W : Int} (hf : d.Fine W) {i : Nat} (hi : i < d.sure.length) : ∀ x ∈ d.sec i, 0 ≤ x ∧ x ≤ 255 :=
  (DS.is_ok hf.sure (fun p hp => (hf.pend p hp).1) (i := (i : Int)) (by omega) (by omega)).2
theorem DS.between_len {d : DS} {W : Int} (hf : d.Fine W) (a : Nat) : ∀ n, a + n ≤ d.sure.length → (d.between a n).length = 32 * n
  | 0, _ => rfl
  | n + 1, h => by rw [DS.between_snoc, List.length_append, DS.between_len hf a n (by omega), DS.sec_len hf (by omega)]; omega
theorem DS.between_bytes {d : DS} {W : Int} (hf : d.Fine W) (a n : Nat) (h : a + n ≤ d.sure.length) : ∀ x ∈ d.between a n, 0 ≤ x ∧ x ≤ 255 := by
  intro x hx
  obtain ⟨i, hi, hx⟩ := List.mem_flatMap.1 hx
  exact DS.sec_bytes hf (by have := List.mem_range.1 hi; omega) x hx
theorem DS.between_at {d : DS} {W : Int} (hf : d.Fine W) (a : Nat) : ∀ n i, a + n ≤ d.sure.length → i < n → ((d.between a n).drop (i * 32)).take 32 = d.sec (a + i)
  | n + 1, i, h, hi => by
    have hl := DS.between_len hf a n (by omega)
    rw [DS.between_snoc]
    by_cases hin : i < n
    · rw [List.drop_append_of_le_length (by omega), List.take_append_of_le_length (by rw [List.length_drop]; omega), DS.between_at hf a n i (by omega) hin]
    · obtain rfl : i = n := by omega
      rw [List.drop_left' (by omega), List.take_of_length_le (by rw [DS.sec_len hf (by omega)]; omega)]
/-- The greatest epoch of the pieces of these numbers. -/
def topL (s : List Int) (pre : List Nat) : Int := pre.foldl (fun m y => max m (epochP ((s.drop (y * 32)).take 32))) 0
theorem topL_snoc (s : List Int) (pre : List Nat) (y : Nat) : topL s (pre ++ [y]) = max (topL s pre) (epochP ((s.drop (y * 32)).take 32)) := by simp [topL]
theorem topL_range {d : DS} {W : Int} (hf : d.Fine W) {N : Nat} (hN : N ≤ d.sure.length) : ∀ n, n ≤ N → topL (d.between 0 N) (List.range n) = topP d n
  | 0, _ => rfl
  | n + 1, h => by
    have ih := topL_range hf hN n (by omega)
    unfold topP at ih ⊢
    rw [List.range_succ, topL_snoc, List.foldl_append, List.foldl_cons, List.foldl_nil, ih, DS.between_at hf 0 N n (by omega) (by omega), Nat.zero_add]
/-- What lies apart while the pieces come. -/
def topA (b : Nat) (s : List Int) (slot log : Int) (n bb cap g1 g3 Bs Bn : Nat) (pre : List Nat) : List Asr :=
  [pt Bn (.cells #[.int .i64 32] 3 (0, 0)), pt Bs (.cells #[.slice (some ⟨bb, 0, none⟩) (32 * n) cap] 22 (0, 0)), ownA 5 1 (.slice (some ⟨bb, 0, none⟩) (32 * n) cap) (32 * n) (cellsOf (encInt .u8) s), pt g3 (.cells #[.int .i64 (topL s (pre.map (within n)))] 3 (0, 0)), pt g1 (.cells #[.pointer (some ⟨b, 0, none⟩), .int .i64 slot, .int .i64 log] 65 (0, 0))]
def TbRel (l : List Int) (w : World) (vn vi : Value) (wr : World) : Prop := ∃ k : Nat, vi = .int .i64 (k : Int) ∧ vn = .int .i64 (numB (l.take k)) ∧ k ≤ 4 ∧ wr = w
set_option maxRecDepth 100000 in
set_option maxHeartbeats 4000000 in
theorem top_any {b bs bm : Nat} {d : DS} {W0 : Int} (w0 : World) (h : (DiskA b bs bm d).says w0) (hf : d.Fine W0) (slot log : Nat) (hs : 1 ≤ slot) (hn : 2 * slot + log ≤ d.sure.length) :
    Calls Tryz.prog 51 #[layV b slot log] w0 fun e w' => e = .returned (.int .i64 (topP d (2 * slot + log))) ∧ Ext0 w0 w' := by
  have hlen := hf.len
  have H0 : SH (fun _ => False) w0 w0 [] := SH.nil _ _
  obtain ⟨n, hnn⟩ : ∃ n, 2 * slot + log = n := ⟨_, rfl⟩
  obtain ⟨sl, hsl⟩ : ∃ sl : Int, (slot : Int) = sl := ⟨_, rfl⟩
  obtain ⟨lo, hlo⟩ : ∃ lo : Int, (log : Int) = lo := ⟨_, rfl⟩
  have hn1 : 1 ≤ n := by omega
  have hw1 : IntKind.i64.wrap (2 * sl) = 2 * sl := by rw [IntKind.wrap_i64]; omega
  have hw2 : IntKind.i64.wrap (2 * sl + lo) = 2 * sl + lo := by rw [IntKind.wrap_i64]; omega
  have hq : 2 * sl + lo = ((0 + n : Nat) : Int) := by omega
  rw [hnn] at hn ⊢
  rw [hsl, hlo]
  have hrd := fun {w : World} (hE : Ext0 w0 w) => eread_any w ((DiskA b bs bm d).keep w0 w (fun j hj => hE.block j (DiskA.fp_lt h hj) (fun e => e)) h) hf 0 n 0 (2 * sl + lo) rfl hq (by omega)
  have hsL := DS.between_len hf 0 n (by omega)
  have hsB := DS.between_bytes hf 0 n (by omega)
  have htR := topL_range hf hn n (Nat.le_refl _)
  obtain ⟨s, hse⟩ : ∃ s, d.between 0 n = s := ⟨_, rfl⟩
  rw [hse] at hsL hsB htR hrd
  have HS := Lib.hid (And.intro hsL (And.intro hsB htR))
  clear hq hsL hsB htR hse hnn hsl hlo h
  refine callsIn_wide.1 (callsIn_of_wp_marks (F := Fence.wide) (n := 3) Tryz.func51 rfl trivial (wpIn_wide.2 ?_) rfl)
  unfold layV
  simp only [Tryz.ntmps51, List.size_toArray, List.length_cons, List.length_nil, Nat.reduceAdd, Nat.reduceSub, Array.replicate_succ, Array.replicate_zero, List.push_toArray, List.append_toArray, List.nil_append, List.cons_append]
  go_upto_region 1 with (first
    | (refine L_box rfl rfl H0 rfl rfl ?_; clear H0; intro g1 w H; (try simp only [Act.eval, Array.getD_eq_getD_getElem?, List.getElem?_toArray, List.getElem?_cons_succ, List.getElem?_cons_zero, Option.getD_some, Value.cells] at H); (try simp only [Act.put, List.setIfInBounds_toArray, List.set_cons_succ, List.set_cons_zero, List.getElem_toArray, List.getElem_cons_succ, List.getElem_cons_zero])))
  go_upto_region 2 with (first
    | (refine L_alloc rfl rfl H Tryz.zeroValue3 ?_; clear H; intro g3 w H; simp only [Value.cells] at H; (try simp only [Act.put, List.setIfInBounds_toArray, List.set_cons_succ, List.set_cons_zero, List.getElem_toArray, List.getElem_cons_succ, List.getElem_cons_zero]))
    | (refine L_store1 rfl rfl H 0 rfl rfl rfl rfl rfl (Nat.le_of_ble_eq_true rfl) Tryz.sizeOf3 ?_; clear H; intro w H; simp only [List.set_cons_zero, List.set_cons_succ, List.setIfInBounds_toArray, Act.eval, Array.getD_eq_getD_getElem?, List.getElem?_toArray, List.getElem?_cons_succ, List.getElem?_cons_zero, Option.getD_some] at H; (try simp only [Act.put, List.setIfInBounds_toArray, List.set_cons_succ, List.set_cons_zero, List.getElem_toArray, List.getElem_cons_succ, List.getElem_cons_zero])))
  go_wp2_with (first
    | (refine L_load1 rfl rfl H 1 rfl rfl rfl Tryz.isAgg24 ?_; (try simp only [Act.put, List.setIfInBounds_toArray, List.set_cons_succ, List.set_cons_zero, List.getElem_toArray, List.getElem_cons_succ, List.getElem_cons_zero]))
    | (refine L_load1 rfl rfl H 1 rfl rfl rfl Tryz.isAgg3 ?_; (try simp only [Act.put, List.setIfInBounds_toArray, List.set_cons_succ, List.set_cons_zero, List.getElem_toArray, List.getElem_cons_succ, List.getElem_cons_zero]))
    | (go_at_call 38; refine (hrd H.ext).mono ?_; rintro e1 w2 ⟨v, rfl, ho, hE⟩; rw [HS.out.1] at ho; obtain ⟨bb, cap, rfl, hcap⟩ := own_some ho (by omega); replace H := H.addOwn hE ho; clear ho hE)
    | (go_at_call 60; refine (chunk_any _ _ _ 32 (by decide) _).mono ?_; rintro e1 w9 ⟨Bs, Bn, rfl, h⟩; replace H := H.cat h; clear h; simp only [List.cons_append, List.nil_append] at H))
  have hsz9 : w0.heap.size ≤ w9.heap.size := H.ext.size
  have hn0 : 0 < n := hn1
  have hlow : ∀ pre, Low w9.heap.size (topA b s sl lo n bb cap g1 g3 Bs Bn pre) := fun pre A hA => by
    simp only [topA, List.mem_cons, List.not_mem_nil, or_false] at hA
    rcases hA with rfl | rfl | rfl | rfl | rfl <;> first | exact .inl (cellsA_pt _ _ _ _) | exact .inl (cellsA_own _ _ _ _ _)
  refine (wpIn_wide (n := 3)).1 ?_
  apply wpIn_rangeFunc_ownG (F := Fence.wide) (n := 3) (gf := 79) (lb := #[.pointer (some ⟨Bs, 0, none⟩), .pointer (some ⟨Bn, 0, none⟩)]) rfl (by decide) rfl trivial (enters_of Tryz.func79 (by kernel_rfl) rfl)
    (chunk32_stops Fence.wide (3 - 1) trivial rfl (by decide) Bs Bn bb 0 (32 * n) cap n (by omega) (by omega) (by omega) w9 (H.at_ 1 rfl) (H.at_ 0 rfl))
    (fun h k => kpB_t h k) (kpB_b (blk_lt' (H.at_ 1 rfl)) (blk_lt' (H.at_ 0 rfl))) (Below.refl _ _) (fun _ => rfl)
    (fun pre W => SH (fun _ => False) w0 W (topA b s sl lo n bb cap g1 g3 Bs Bn pre)) (fun _ _ _ => False)
    (fun pre W W' row hs hg hr => hs.walked (hlow pre) hsz9 hg hr) (fun _ _ _ _ _ h _ _ => h) H
  case hassign =>
    intro l x W K hK
    gi_wp2
    exact hK
  case hbody =>
    rintro l pre x W hs hpre
    have K := hs.inner
    obtain ⟨y, hy⟩ : ∃ y, within n x = y := ⟨_, rfl⟩
    have hyn : y < n := by rw [← hy]; exact within_lt hn0 x
    obtain ⟨oy, hoy⟩ : ∃ oy, 0 + y * 32 = oy := ⟨_, rfl⟩
    have hpx : piece32 bb 0 (32 * n) y = .slice (some ⟨bb, oy, none⟩) 32 32 := by
      unfold piece32
      rw [show min 32 (32 * n - y * 32) = 32 by omega, hoy]
    rw [hy, hpx]
    obtain ⟨q, hq⟩ : ∃ q, (((s.drop (y * 32)).take 32).drop 24).take 4 = q := ⟨_, rfl⟩
    have hql : q.length = 4 := by rw [← hq]; simp [HS.out.1]; omega
    have hqb : ∀ z ∈ q, 0 ≤ z ∧ z ≤ 255 := fun z hz => by
      rw [← hq] at hz
      exact HS.out.2.1 z (List.mem_of_mem_drop (List.mem_of_mem_take (List.mem_of_mem_drop (List.mem_of_mem_take hz))))
    have hqc : ∀ k (hk : k < q.length), W.cell? ⟨bb, oy + 24 + k, none⟩ = some (.int .u8 q[k]) := fun k hk => by
      have hor : RdS (encInt .u8) 1 W (.slice (some ⟨bb, 0, none⟩) (32 * n) cap) s := own_rd (hs.get 2 rfl) HS.out.1.symm
      rw [← HS.out.1] at hor
      obtain ⟨bb', off', hA, hcs⟩ := byte_cell hor (j := 0) (by rw [HS.out.1]; omega)
      cases hA
      have hk4 : k < 4 := by omega
      have h1 := hcs (y * 32 + 24 + k) (by rw [HS.out.1]; omega)
      rw [show oy + 24 + k = 0 + (y * 32 + 24 + k) by omega, h1]
      congr 2
      simp only [← hq, List.getElem_take, List.getElem_drop]
      congr 1
      omega
    have hep : epochP ((s.drop (y * 32)).take 32) = numB q := by rw [← hq]; rfl
    have htop : topL s ((pre ++ [x]).map (within n)) = max (topL s (pre.map (within n))) (numB q) := by rw [List.map_append, List.map_singleton, topL_snoc, hy, hep]
    obtain ⟨tp, htp⟩ : ∃ tp, topL s (pre.map (within n)) = tp := ⟨_, rfl⟩
    rw [htp] at htop
    generalize hM : fps (topA b s sl lo n bb cap g1 g3 Bs Bn pre) = M0 at K
    unfold topA at K
    rw [htp] at K
    have HM0 := Lib.hid (And.intro hM (And.intro htop (And.intro hql (And.intro hqb hqc))))
    clear hM htop htp hep hq hy hpx hql hqb hqc hoy
    gi_wp2
    gi_loopw [5, 23] (fun vn vi wr => TbRel q W vn vi wr) (fun _ vi _ => 4 - (intOf vi).toNat)
    case atStart => exact ⟨0, rfl, rfl, Nat.zero_le _, rfl⟩
    case round =>
      obtain ⟨k, rfl, rfl, hk, hwr⟩ := hrel
      replace hwr := hwr.symm
      subst hwr
      obtain ⟨z, hz⟩ : ∃ z, numB (q.take k) = z := ⟨_, rfl⟩
      rw [hz]
      by_cases hkn : k < 4
      · have hki : (k : Int) < 4 := by omega
        have hkl : k < q.length := by rw [HM0.out.2.2.1]; exact hkn
        have hck := HM0.out.2.2.2.2 k hkl
        have hcb := HM0.out.2.2.2.1 q[k] (List.getElem_mem hkl)
        have hyb := numB_lt k (q.take k) (by rw [List.length_take]; omega) (fun x hx => HM0.out.2.2.2.1 x (List.mem_of_mem_take hx))
        have hp := pow_le3 k (by omega)
        rw [hz] at hyb
        obtain ⟨c, hc⟩ : ∃ c, q[k] = c := ⟨_, rfl⟩
        rw [hc] at hck hcb
        have hsn : numB (q.take (k + 1)) = z * 256 + c := by
          rw [List.take_add_one, List.getElem?_eq_getElem hkl, hc, ← hz, ← numB_snoc]
          rfl
        have HSN := Lib.hid hsn
        have hw3 : IntKind.i64.wrap (z * 256) = z * 256 := by rw [IntKind.wrap_i64]; omega
        have hw4 : IntKind.i64.wrap c = c := by rw [IntKind.wrap_i64]; omega
        have hw5 : IntKind.i64.wrap (z * 256 + c) = z * 256 + c := by rw [IntKind.wrap_i64]; omega
        clear hsn hc hz hyb hp hcb
        gi_wp2
        go_roundw
        case rel => exact ⟨k + 1, by go_num, by rw [HSN.out], by omega, rfl⟩
        case measure => simp [intOf]; omega
      · obtain rfl : k = 4 := by omega
        rw [List.take_of_length_le (by rw [HM0.out.2.2.1]; omega)] at hz
        have HZ := Lib.hid hz
        clear hz
        gi_wp2_with (first
          | (refine IL_load1 rfl (by intro c h; cases h) (fun _ => rfl) rfl K 3 rfl rfl rfl Tryz.isAgg3 ?_; (try simp only [Act.put, List.setIfInBounds_toArray, List.set_cons_succ, List.set_cons_zero, List.getElem_toArray, List.getElem_cons_succ, List.getElem_cons_zero]))
          | (refine IL_store1 rfl (by intro c h; cases h) (fun _ => rfl) rfl K 3 rfl rfl rfl rfl rfl (Nat.le_of_ble_eq_true rfl) Tryz.sizeOf3 ?_; clear K; intro w1 K; simp only [List.set_cons_zero, List.set_cons_succ, List.setIfInBounds_toArray, Act.eval, Array.getD_eq_getD_getElem?, List.getElem?_toArray, List.getElem?_cons_succ, List.getElem?_cons_zero, Option.getD_some] at K; (try simp only [Act.put, List.setIfInBounds_toArray, List.set_cons_succ, List.set_cons_zero, List.getElem_toArray, List.getElem_cons_succ, List.getElem_cons_zero])))
        have hM := HM0.out.1
        subst hM
        have hO := hs.outer K
        refine ⟨(hlow pre).keeps hs K, kpB_of (hs.at_ 1 rfl) (hs.at_ 0 rfl) (K.at_ 1 rfl) (K.at_ 0 rfl), ?_⟩
        show SH (fun _ => False) w0 w1 (topA b s sl lo n bb cap g1 g3 Bs Bn (pre ++ [x]))
        unfold topA
        rw [HM0.out.2.1, HZ.out]
        exact hO
  case hdone =>
    rintro D ps W hD rfl hs hK
    unfold topA at hs
    rw [within_range, HS.out.2.2] at hs
    go_wp2_with (first
      | (refine L_load1 rfl rfl hs 3 rfl rfl rfl Tryz.isAgg3 ?_; (try simp only [Act.put, List.setIfInBounds_toArray, List.set_cons_succ, List.set_cons_zero, List.getElem_toArray, List.getElem_cons_succ, List.getElem_cons_zero])))
    refine ⟨by simp, .inl ⟨_, _, rfl, run_takeDeferred hK, ?_⟩⟩
    exact ⟨_, results_tmp rfl _ _ _, rfl, ext_putObj hs.ext (Nat.le_trans hsz9 hD) _⟩
  case hstop =>
    rintro D c pre W _ _ h _
    exact h.elim
end Go.Proofs.YtgmeahogdjhejaaGreatDoor

namespace Go.Proofs.YtgmeahogdjhejaaGreatDoor
set_option linter.unusedVariables false
set_option linter.unusedSimpArgs false
open Go.RowKit Go.Shelf

set_option maxRecDepth 100000 in
set_option maxHeartbeats 4000000 in
theorem may_any {b bs bm : Nat} {d : DS} {W0 : Int} (w0 : World) (h : (DiskA b bs bm d).says w0) (hf : d.Fine W0) (slot log : Int) :
    Calls Tryz.prog 27 #[layV b slot log] w0 fun e w' => e = .returned (.bool (decide (mayP d.sure.length slot log))) ∧ Ext0 w0 w' := by
  have H0 : SH (fun _ => False) w0 w0 [] := SH.nil _ _
  have hsz := fun {w : World} (hE : Ext0 w0 w) => size_any b bs bm d w ((DiskA b bs bm d).keep w0 w (fun j hj => hE.block j (DiskA.fp_lt h hj) (fun e => e)) h)
  have hlen := hf.len
  obtain ⟨N, hN⟩ : ∃ N, d.sure.length = N := ⟨_, rfl⟩
  rw [hN] at hsz hlen ⊢
  clear h hf hN
  unfold layV
  go_enter Tryz.func27, Tryz.ntmps27
  go_upto_region 1 with (first
    | (refine L_box rfl rfl H0 rfl rfl ?_; clear H0; intro g1 w H; (try simp only [Act.eval, Array.getD_eq_getD_getElem?, List.getElem?_toArray, List.getElem?_cons_succ, List.getElem?_cons_zero, Option.getD_some, Value.cells] at H); (try simp only [Act.put, List.setIfInBounds_toArray, List.set_cons_succ, List.set_cons_zero, List.getElem_toArray, List.getElem_cons_succ, List.getElem_cons_zero])))
  refine D_start H (by kernel_rfl) (fun hS => ?_)
  try simp only [Act.put, List.setIfInBounds_toArray, List.set_cons_succ, List.set_cons_zero]
  refine D_take 0 rfl (by kernel_rfl) (by kernel_rfl) (by kernel_rfl) (v := ?_) (fun _ _ _ h => h) rfl (by rfl) ?_ hS ?_
  rotate_left; (focus (intro W hS; first | (go_simp; done) | (go_simp; with_reducible rfl) | (go_simp; rfl))); all_goals skip; (try simp only [List.set_cons_succ, List.set_cons_zero])
  refine D_take 1 rfl (by kernel_rfl) (by kernel_rfl) (by kernel_rfl) (v := ?_) (fun _ _ _ h => h) rfl (by rfl) ?_ hS ?_
  rotate_left; (focus (intro W hS; first | (refine R_load1 (ty := 24) (x := Operand.tmp 3) rfl hS 0 rfl rfl ?_ Tryz.isAgg24; rfl))); all_goals skip; (try simp only [List.set_cons_succ, List.set_cons_zero, List.getElem_toArray, List.getElem_cons_succ, List.getElem_cons_zero])
  refine D_takeB 2 rfl (by kernel_rfl) (by kernel_rfl) (by kernel_rfl) (q := ?_) (fun _ _ _ h => h) rfl (by rfl) hS ?_ ?_
  rotate_left; (focus (intro W hS; first | (go_simp; done) | (go_simp; with_reducible rfl) | (go_simp; rfl))); all_goals skip; (try simp only [List.set_cons_succ, List.set_cons_zero])
  intro c2 Hc2
  refine D_take 3 rfl (by kernel_rfl) (by kernel_rfl) (by kernel_rfl) (v := ?_) (fun _ _ _ h => h) rfl (by rfl) ?_ hS ?_
  rotate_left; (focus (intro W hS; first | (go_simp; done) | (go_simp; with_reducible rfl) | (go_simp; rfl))); all_goals skip; (try simp only [List.set_cons_succ, List.set_cons_zero])
  refine D_maybe 4 c2 rfl (by kernel_rfl) (by kernel_rfl) (by kernel_rfl) (v := ?_) (fun _ _ _ _ h => h) rfl (by cases c2 <;> rfl) hS ?_ ?_
  rotate_left; (focus (intro hb; intro W hS; (try simp only [Bool.and_eq_true, Bool.not_eq_true'] at hb); have hb0 := hb; (try simp only [hb0, Bool.not_false, Bool.not_true, Bool.and_true, Bool.true_and, Bool.and_self, cond_true, cond_false]); first | (go_simp; done) | (go_simp; with_reducible rfl) | (go_simp; rfl))); all_goals skip; (try simp only [List.set_cons_succ, List.set_cons_zero])
  refine D_maybe 5 c2 rfl (by kernel_rfl) (by kernel_rfl) (by kernel_rfl) (v := ?_) (fun _ _ _ _ h => h) rfl (by cases c2 <;> rfl) hS ?_ ?_
  rotate_left; (focus (intro hb; intro W hS; (try simp only [Bool.and_eq_true, Bool.not_eq_true'] at hb); have hb0 := hb; (try simp only [hb0, Bool.not_false, Bool.not_true, Bool.and_true, Bool.true_and, Bool.and_self, cond_true, cond_false]); first | (refine R_load1 (ty := 3) (x := Operand.tmp 7) rfl hS 0 rfl rfl ?_ Tryz.isAgg3; rfl))); all_goals skip; (try simp only [List.set_cons_succ, List.set_cons_zero, List.getElem_toArray, List.getElem_cons_succ, List.getElem_cons_zero])
  refine D_maybe 6 c2 rfl (by kernel_rfl) (by kernel_rfl) (by kernel_rfl) (v := ?_) (fun _ _ _ _ h => h) rfl (by cases c2 <;> rfl) hS ?_ ?_
  rotate_left; (focus (intro hb; intro W hS; (try simp only [Bool.and_eq_true, Bool.not_eq_true'] at hb); have hb0 := hb; (try simp only [hb0, Bool.not_false, Bool.not_true, Bool.and_true, Bool.true_and, Bool.and_self, cond_true, cond_false]); first | (go_simp; done) | (go_simp; with_reducible rfl) | (go_simp; rfl))); all_goals skip; (try simp only [List.set_cons_succ, List.set_cons_zero])
  refine D_maybe 7 c2 rfl (by kernel_rfl) (by kernel_rfl) (by kernel_rfl) (v := ?_) (fun _ _ _ _ h => h) rfl (by cases c2 <;> rfl) hS ?_ ?_
  rotate_left; (focus (intro hb; intro W hS; (try simp only [Bool.and_eq_true, Bool.not_eq_true'] at hb); have hb0 := hb; (try simp only [hb0, Bool.not_false, Bool.not_true, Bool.and_true, Bool.true_and, Bool.and_self, cond_true, cond_false]); first | (refine R_load1 (ty := 3) (x := Operand.tmp 9) rfl hS 0 rfl rfl ?_ Tryz.isAgg3; rfl))); all_goals skip; (try simp only [List.set_cons_succ, List.set_cons_zero, List.getElem_toArray, List.getElem_cons_succ, List.getElem_cons_zero])
  refine D_maybe 8 c2 rfl (by kernel_rfl) (by kernel_rfl) (by kernel_rfl) (v := ?_) (fun _ _ _ _ h => h) rfl (by cases c2 <;> rfl) hS ?_ ?_
  rotate_left; (focus (intro hb; intro W hS; (try simp only [Bool.and_eq_true, Bool.not_eq_true'] at hb); have hb0 := hb; (try simp only [hb0, Bool.not_false, Bool.not_true, Bool.and_true, Bool.true_and, Bool.and_self, cond_true, cond_false]); first | (go_simp; done) | (go_simp; with_reducible rfl) | (go_simp; rfl))); all_goals skip; (try simp only [List.set_cons_succ, List.set_cons_zero])
  refine D_maybeB 9 c2 rfl (by kernel_rfl) (by kernel_rfl) (by kernel_rfl) (q := ?_) (fun _ _ _ _ h => h) rfl (by cases c2 <;> rfl) hS ?_ ?_
  rotate_left; (focus (intro hb; intro W hS; (try simp only [Bool.and_eq_true, Bool.not_eq_true'] at hb); have hb0 := hb; (try simp only [hb0, Bool.not_false, Bool.not_true, Bool.and_true, Bool.true_and, Bool.and_self, cond_true, cond_false]); first | (go_simp; done) | (go_simp; with_reducible rfl) | (go_simp; rfl))); all_goals skip; (try simp only [List.set_cons_succ, List.set_cons_zero])
  intro c9 Hc9
  refine D_takeB 10 rfl (by kernel_rfl) (by kernel_rfl) (by kernel_rfl) (q := (c2 && c9)) (fun _ _ _ h => h) rfl (by rfl) hS ?_ ?_
  (focus (intro W hS; cases c2 <;> cases c9 <;> (first | (go_simp; done) | (go_simp; with_reducible rfl) | (go_simp; rfl)))); all_goals skip; (try simp only [List.set_cons_succ, List.set_cons_zero])
  intro c10 Hc10
  refine D_take 11 rfl (by kernel_rfl) (by kernel_rfl) (by kernel_rfl) (v := ?_) (fun _ _ _ h => h) rfl (by rfl) ?_ hS ?_
  rotate_left; (focus (intro W hS; first | (go_simp; done) | (go_simp; with_reducible rfl) | (go_simp; rfl))); all_goals skip; (try simp only [List.set_cons_succ, List.set_cons_zero])
  refine D_maybe 12 c10 rfl (by kernel_rfl) (by kernel_rfl) (by kernel_rfl) (v := ?_) (fun _ _ _ _ h => h) rfl (by cases c10 <;> rfl) hS ?_ ?_
  rotate_left; (focus (intro hb; intro W hS; (try simp only [Bool.and_eq_true, Bool.not_eq_true'] at hb); have hb0 := hb; (try simp only [hb0, Bool.not_false, Bool.not_true, Bool.and_true, Bool.true_and, Bool.and_self, cond_true, cond_false]); first | (go_simp; done) | (go_simp; with_reducible rfl) | (go_simp; rfl))); all_goals skip; (try simp only [List.set_cons_succ, List.set_cons_zero])
  refine D_maybe 13 c10 rfl (by kernel_rfl) (by kernel_rfl) (by kernel_rfl) (v := ?_) (fun _ _ _ _ h => h) rfl (by cases c10 <;> rfl) hS ?_ ?_
  rotate_left; (focus (intro hb; intro W hS; (try simp only [Bool.and_eq_true, Bool.not_eq_true'] at hb); have hb0 := hb; (try simp only [hb0, Bool.not_false, Bool.not_true, Bool.and_true, Bool.true_and, Bool.and_self, cond_true, cond_false]); first | (refine R_load1 (ty := 3) (x := Operand.tmp 15) rfl hS 0 rfl rfl ?_ Tryz.isAgg3; rfl))); all_goals skip; (try simp only [List.set_cons_succ, List.set_cons_zero, List.getElem_toArray, List.getElem_cons_succ, List.getElem_cons_zero])
  refine D_maybe 14 c10 rfl (by kernel_rfl) (by kernel_rfl) (by kernel_rfl) (v := ?_) (fun _ _ _ _ h => h) rfl (by cases c10 <;> rfl) hS ?_ ?_
  rotate_left; (focus (intro hb; intro W hS; (try simp only [Bool.and_eq_true, Bool.not_eq_true'] at hb); have hb0 := hb; (try simp only [hb0, Bool.not_false, Bool.not_true, Bool.and_true, Bool.true_and, Bool.and_self, cond_true, cond_false]); first | (go_simp; done) | (go_simp; with_reducible rfl) | (go_simp; rfl))); all_goals skip; (try simp only [List.set_cons_succ, List.set_cons_zero])
  refine D_maybe 15 c10 rfl (by kernel_rfl) (by kernel_rfl) (by kernel_rfl) (v := ?_) (fun _ _ _ _ h => h) rfl (by cases c10 <;> rfl) hS ?_ ?_
  rotate_left; (focus (intro hb; intro W hS; (try simp only [Bool.and_eq_true, Bool.not_eq_true'] at hb); have hb0 := hb; (try simp only [hb0, Bool.not_false, Bool.not_true, Bool.and_true, Bool.true_and, Bool.and_self, cond_true, cond_false]); first | (refine R_load1 (ty := 3) (x := Operand.tmp 17) rfl hS 0 rfl rfl ?_ Tryz.isAgg3; rfl))); all_goals skip; (try simp only [List.set_cons_succ, List.set_cons_zero, List.getElem_toArray, List.getElem_cons_succ, List.getElem_cons_zero])
  refine D_maybe 16 c10 rfl (by kernel_rfl) (by kernel_rfl) (by kernel_rfl) (v := ?_) (fun _ _ _ _ h => h) rfl (by cases c10 <;> rfl) hS ?_ ?_
  rotate_left; (focus (intro hb; intro W hS; (try simp only [Bool.and_eq_true, Bool.not_eq_true'] at hb); have hb0 := hb; (try simp only [hb0, Bool.not_false, Bool.not_true, Bool.and_true, Bool.true_and, Bool.and_self, cond_true, cond_false]); first | (go_simp; done) | (go_simp; with_reducible rfl) | (go_simp; rfl))); all_goals skip; (try simp only [List.set_cons_succ, List.set_cons_zero])
  refine D_maybe 17 c10 rfl (by kernel_rfl) (by kernel_rfl) (by kernel_rfl) (v := ?_) (fun _ _ _ _ h => h) rfl (by cases c10 <;> rfl) hS ?_ ?_
  rotate_left; (focus (intro hb; intro W hS; (try simp only [Bool.and_eq_true, Bool.not_eq_true'] at hb); have hb0 := hb; (try simp only [hb0, Bool.not_false, Bool.not_true, Bool.and_true, Bool.true_and, Bool.and_self, cond_true, cond_false]); first | (go_simp; done) | (go_simp; with_reducible rfl) | (go_simp; rfl))); all_goals skip; (try simp only [List.set_cons_succ, List.set_cons_zero])
  refine D_maybe 18 c10 rfl (by kernel_rfl) (by kernel_rfl) (by kernel_rfl) (v := ?_) (fun _ _ _ _ h => h) rfl (by cases c10 <;> rfl) hS ?_ ?_
  rotate_left; (focus (intro hb; intro W hS; (try simp only [Bool.and_eq_true, Bool.not_eq_true'] at hb); have hb0 := hb; (try simp only [hb0, Bool.not_false, Bool.not_true, Bool.and_true, Bool.true_and, Bool.and_self, cond_true, cond_false]); first | (refine R_load1 (ty := 24) (x := Operand.tmp 20) rfl hS 0 rfl rfl ?_ Tryz.isAgg24; rfl))); all_goals skip; (try simp only [List.set_cons_succ, List.set_cons_zero, List.getElem_toArray, List.getElem_cons_succ, List.getElem_cons_zero])
  refine D_callV 19 c10 (.int .i64 (N : Int)) rfl (by kernel_rfl) rfl (by cases c10 <;> rfl) hS ?_ ?_
  (focus (intro hb K hK; (try simp only [Bool.and_eq_true, Bool.not_eq_true'] at hb); have hb0 := hb; subst hb0; refine R_call (f := 59) (args := #[.pointer (some ⟨b, 0, none⟩)]) (by first | (go_simp; done) | (go_simp; rfl)) (hsz hS.ext) ?_; rintro e w' ⟨rfl, rfl⟩; exact ⟨_, rfl, hK _ (Ext.refl _ _)⟩))
  clear hS; intro w hS
  (try simp only [List.set_cons_succ, List.set_cons_zero])
  refine D_maybeB 20 c10 rfl (by kernel_rfl) (by kernel_rfl) (by kernel_rfl) (q := ?_) (fun _ _ _ _ h => h) rfl (by cases c10 <;> rfl) hS ?_ ?_
  rotate_left; (focus (intro hb; intro W hS; (try simp only [Bool.and_eq_true, Bool.not_eq_true'] at hb); have hb0 := hb; (try simp only [hb0, Bool.not_false, Bool.not_true, Bool.and_true, Bool.true_and, Bool.and_self, cond_true, cond_false]); first | (go_simp; done) | (go_simp; with_reducible rfl) | (go_simp; rfl))); all_goals skip; (try simp only [List.set_cons_succ, List.set_cons_zero])
  intro c20 Hc20
  refine D_takeB 21 rfl (by kernel_rfl) (by kernel_rfl) (by kernel_rfl) (q := (c10 && c20)) (fun _ _ _ h => h) rfl (by rfl) hS ?_ ?_
  (focus (intro W hS; cases c10 <;> cases c20 <;> (first | (go_simp; done) | (go_simp; with_reducible rfl) | (go_simp; rfl)))); all_goals skip; (try simp only [List.set_cons_succ, List.set_cons_zero])
  intro c21 Hc21
  refine D_take 22 rfl (by kernel_rfl) (by kernel_rfl) (by kernel_rfl) (v := ?_) (fun _ _ _ h => h) rfl (by rfl) ?_ hS ?_
  rotate_left; (focus (intro W hS; first | (go_simp; done) | (go_simp; with_reducible rfl) | (go_simp; rfl))); all_goals skip; (try simp only [List.set_cons_succ, List.set_cons_zero])
  refine D_maybe 23 c21 rfl (by kernel_rfl) (by kernel_rfl) (by kernel_rfl) (v := ?_) (fun _ _ _ _ h => h) rfl (by cases c21 <;> rfl) hS ?_ ?_
  rotate_left; (focus (intro hb; intro W hS; (try simp only [Bool.and_eq_true, Bool.not_eq_true'] at hb); have hb0 := hb; (try simp only [hb0, Bool.not_false, Bool.not_true, Bool.and_true, Bool.true_and, Bool.and_self, cond_true, cond_false]); first | (go_simp; done) | (go_simp; with_reducible rfl) | (go_simp; rfl))); all_goals skip; (try simp only [List.set_cons_succ, List.set_cons_zero])
  refine D_maybe 24 c21 rfl (by kernel_rfl) (by kernel_rfl) (by kernel_rfl) (v := ?_) (fun _ _ _ _ h => h) rfl (by cases c21 <;> rfl) hS ?_ ?_
  rotate_left; (focus (intro hb; intro W hS; (try simp only [Bool.and_eq_true, Bool.not_eq_true'] at hb); have hb0 := hb; (try simp only [hb0, Bool.not_false, Bool.not_true, Bool.and_true, Bool.true_and, Bool.and_self, cond_true, cond_false]); first | (refine R_load1 (ty := 3) (x := Operand.tmp 26) rfl hS 0 rfl rfl ?_ Tryz.isAgg3; rfl))); all_goals skip; (try simp only [List.set_cons_succ, List.set_cons_zero, List.getElem_toArray, List.getElem_cons_succ, List.getElem_cons_zero])
  refine D_maybe 25 c21 rfl (by kernel_rfl) (by kernel_rfl) (by kernel_rfl) (v := ?_) (fun _ _ _ _ h => h) rfl (by cases c21 <;> rfl) hS ?_ ?_
  rotate_left; (focus (intro hb; intro W hS; (try simp only [Bool.and_eq_true, Bool.not_eq_true'] at hb); have hb0 := hb; (try simp only [hb0, Bool.not_false, Bool.not_true, Bool.and_true, Bool.true_and, Bool.and_self, cond_true, cond_false]); first | (go_simp; done) | (go_simp; with_reducible rfl) | (go_simp; rfl))); all_goals skip; (try simp only [List.set_cons_succ, List.set_cons_zero])
  refine D_maybe 26 c21 rfl (by kernel_rfl) (by kernel_rfl) (by kernel_rfl) (v := ?_) (fun _ _ _ _ h => h) rfl (by cases c21 <;> rfl) hS ?_ ?_
  rotate_left; (focus (intro hb; intro W hS; (try simp only [Bool.and_eq_true, Bool.not_eq_true'] at hb); have hb0 := hb; (try simp only [hb0, Bool.not_false, Bool.not_true, Bool.and_true, Bool.true_and, Bool.and_self, cond_true, cond_false]); first | (go_simp; done) | (go_simp; with_reducible rfl) | (go_simp; rfl))); all_goals skip; (try simp only [List.set_cons_succ, List.set_cons_zero])
  refine D_maybe 27 c21 rfl (by kernel_rfl) (by kernel_rfl) (by kernel_rfl) (v := ?_) (fun _ _ _ _ h => h) rfl (by cases c21 <;> rfl) hS ?_ ?_
  rotate_left; (focus (intro hb; intro W hS; (try simp only [Bool.and_eq_true, Bool.not_eq_true'] at hb); have hb0 := hb; (try simp only [hb0, Bool.not_false, Bool.not_true, Bool.and_true, Bool.true_and, Bool.and_self, cond_true, cond_false]); first | (refine R_load1 (ty := 3) (x := Operand.tmp 29) rfl hS 0 rfl rfl ?_ Tryz.isAgg3; rfl))); all_goals skip; (try simp only [List.set_cons_succ, List.set_cons_zero, List.getElem_toArray, List.getElem_cons_succ, List.getElem_cons_zero])
  refine D_maybe 28 c21 rfl (by kernel_rfl) (by kernel_rfl) (by kernel_rfl) (v := ?_) (fun _ _ _ _ h => h) rfl (by cases c21 <;> rfl) hS ?_ ?_
  rotate_left; (focus (intro hb; intro W hS; (try simp only [Bool.and_eq_true, Bool.not_eq_true'] at hb); have hb0 := hb; (try simp only [hb0, Bool.not_false, Bool.not_true, Bool.and_true, Bool.true_and, Bool.and_self, cond_true, cond_false]); first | (go_simp; done) | (go_simp; with_reducible rfl) | (go_simp; rfl))); all_goals skip; (try simp only [List.set_cons_succ, List.set_cons_zero])
  refine D_maybe 29 c21 rfl (by kernel_rfl) (by kernel_rfl) (by kernel_rfl) (v := ?_) (fun _ _ _ _ h => h) rfl (by cases c21 <;> rfl) hS ?_ ?_
  rotate_left; (focus (intro hb; intro W hS; (try simp only [Bool.and_eq_true, Bool.not_eq_true'] at hb); have hb0 := hb; (try simp only [hb0, Bool.not_false, Bool.not_true, Bool.and_true, Bool.true_and, Bool.and_self, cond_true, cond_false]); first | (go_simp; done) | (go_simp; with_reducible rfl) | (go_simp; rfl))); all_goals skip; (try simp only [List.set_cons_succ, List.set_cons_zero])
  refine D_maybe 30 c21 rfl (by kernel_rfl) (by kernel_rfl) (by kernel_rfl) (v := ?_) (fun _ _ _ _ h => h) rfl (by cases c21 <;> rfl) hS ?_ ?_
  rotate_left; (focus (intro hb; intro W hS; (try simp only [Bool.and_eq_true, Bool.not_eq_true'] at hb); have hb0 := hb; (try simp only [hb0, Bool.not_false, Bool.not_true, Bool.and_true, Bool.true_and, Bool.and_self, cond_true, cond_false]); first | (refine R_load1 (ty := 24) (x := Operand.tmp 32) rfl hS 0 rfl rfl ?_ Tryz.isAgg24; rfl))); all_goals skip; (try simp only [List.set_cons_succ, List.set_cons_zero, List.getElem_toArray, List.getElem_cons_succ, List.getElem_cons_zero])
  refine D_callV 31 c21 (.int .i64 (N : Int)) rfl (by kernel_rfl) rfl (by cases c21 <;> rfl) hS ?_ ?_
  (focus (intro hb K hK; (try simp only [Bool.and_eq_true, Bool.not_eq_true'] at hb); have hb0 := hb; subst hb0; refine R_call (f := 59) (args := #[.pointer (some ⟨b, 0, none⟩)]) (by first | (go_simp; done) | (go_simp; rfl)) (hsz hS.ext) ?_; rintro e w' ⟨rfl, rfl⟩; exact ⟨_, rfl, hK _ (Ext.refl _ _)⟩))
  clear hS; intro w hS
  (try simp only [List.set_cons_succ, List.set_cons_zero])
  refine D_maybeB 32 c21 rfl (by kernel_rfl) (by kernel_rfl) (by kernel_rfl) (q := ?_) (fun _ _ _ _ h => h) rfl (by cases c21 <;> rfl) hS ?_ ?_
  rotate_left; (focus (intro hb; intro W hS; (try simp only [Bool.and_eq_true, Bool.not_eq_true'] at hb); have hb0 := hb; (try simp only [hb0, Bool.not_false, Bool.not_true, Bool.and_true, Bool.true_and, Bool.and_self, cond_true, cond_false]); first | (go_simp; done) | (go_simp; with_reducible rfl) | (go_simp; rfl))); all_goals skip; (try simp only [List.set_cons_succ, List.set_cons_zero])
  intro c32 Hc32
  refine D_takeB 33 rfl (by kernel_rfl) (by kernel_rfl) (by kernel_rfl) (q := (c21 && c32)) (fun _ _ _ h => h) rfl (by rfl) hS ?_ ?_
  (focus (intro W hS; cases c21 <;> cases c32 <;> (first | (go_simp; done) | (go_simp; with_reducible rfl) | (go_simp; rfl)))); all_goals skip; (try simp only [List.set_cons_succ, List.set_cons_zero])
  intro c33 Hc33
  refine D_take 34 rfl (by kernel_rfl) (by kernel_rfl) (by kernel_rfl) (v := ?_) (fun _ _ _ h => h) rfl (by rfl) ?_ hS ?_
  rotate_left; (focus (intro W hS; first | (go_simp; done) | (go_simp; with_reducible rfl) | (go_simp; rfl))); all_goals skip; (try simp only [List.set_cons_succ, List.set_cons_zero])
  have hrow := Hc33.out
  simp only [Hc10.out, Hc21.out, Hc2.out, Hc9.out, Hc20.out, Hc32.out] at hrow
  replace hrow := Lib.hid hrow
  clear Hc10 Hc21 Hc33 Hc2 Hc9 Hc20 Hc32
  refine wpAnyH_done (by kernel_rfl) ?_ _
  have hE := hS.ext
  clear hS
  have hval : c33 = decide (mayP N slot log) := by
    rw [hrow.out, Bool.true_and, Bool.and_assoc, ← Bool.decide_and, ← Bool.decide_and]
    congr 1
    unfold mayP
    apply propext
    constructor
    · rintro ⟨h1, h2, h3⟩
      rw [IntKind.wrap_i64, IntKind.wrap_i64] at h3
      omega
    · rintro ⟨h1, h2, h3, h4, h5⟩
      rw [IntKind.wrap_i64, IntKind.wrap_i64]
      omega
  have HV := Lib.hid hval
  clear hval hrow hsz
  go_wp2
  go_ret
  exact ⟨by rw [← HV.out]; rfl, hE⟩
set_option maxRecDepth 100000 in
set_option maxHeartbeats 4000000 in
theorem may_nil (w0 : World) (slot log : Int) :
    Calls Tryz.prog 27 #[.agg #[.pointer none, .int .i64 slot, .int .i64 log]] w0 fun e w' => e = .returned (.bool false) ∧ Ext0 w0 w' := by
  have H0 : SH (fun _ => False) w0 w0 [] := SH.nil _ _
  go_enter Tryz.func27, Tryz.ntmps27
  go_upto_region 1 with (first
    | (refine L_box rfl rfl H0 rfl rfl ?_; clear H0; intro g1 w H; (try simp only [Act.eval, Array.getD_eq_getD_getElem?, List.getElem?_toArray, List.getElem?_cons_succ, List.getElem?_cons_zero, Option.getD_some, Value.cells] at H); (try simp only [Act.put, List.setIfInBounds_toArray, List.set_cons_succ, List.set_cons_zero, List.getElem_toArray, List.getElem_cons_succ, List.getElem_cons_zero])))
  refine D_start H (by kernel_rfl) (fun hS => ?_)
  try simp only [Act.put, List.setIfInBounds_toArray, List.set_cons_succ, List.set_cons_zero]
  refine D_take 0 rfl (by kernel_rfl) (by kernel_rfl) (by kernel_rfl) (v := ?_) (fun _ _ _ h => h) rfl (by rfl) ?_ hS ?_
  rotate_left; (focus (intro W hS; first | (go_simp; done) | (go_simp; with_reducible rfl) | (go_simp; rfl))); all_goals skip; (try simp only [List.set_cons_succ, List.set_cons_zero])
  refine D_take 1 rfl (by kernel_rfl) (by kernel_rfl) (by kernel_rfl) (v := ?_) (fun _ _ _ h => h) rfl (by rfl) ?_ hS ?_
  rotate_left; (focus (intro W hS; first | (refine R_load1 (ty := 24) (x := Operand.tmp 3) rfl hS 0 rfl rfl ?_ Tryz.isAgg24; rfl))); all_goals skip; (try simp only [List.set_cons_succ, List.set_cons_zero, List.getElem_toArray, List.getElem_cons_succ, List.getElem_cons_zero])
  refine D_takeB 2 rfl (by kernel_rfl) (by kernel_rfl) (by kernel_rfl) (q := ?_) (fun _ _ _ h => h) rfl (by rfl) hS ?_ ?_
  rotate_left; (focus (intro W hS; first | (go_simp; done) | (go_simp; with_reducible rfl) | (go_simp; rfl))); all_goals skip; (try simp only [List.set_cons_succ, List.set_cons_zero])
  intro c2 Hc2
  refine D_take 3 rfl (by kernel_rfl) (by kernel_rfl) (by kernel_rfl) (v := ?_) (fun _ _ _ h => h) rfl (by rfl) ?_ hS ?_
  rotate_left; (focus (intro W hS; first | (go_simp; done) | (go_simp; with_reducible rfl) | (go_simp; rfl))); all_goals skip; (try simp only [List.set_cons_succ, List.set_cons_zero])
  refine D_maybe 4 c2 rfl (by kernel_rfl) (by kernel_rfl) (by kernel_rfl) (v := undef) (fun _ _ _ _ h => h) rfl (by cases c2 <;> rfl) hS ?_ ?_
  (focus (intro hb; intro W hS; (try simp only [Bool.and_eq_true, Bool.not_eq_true'] at hb); have hb0 := hb; (try simp only [hb0, Bool.not_false, Bool.not_true, Bool.and_true, Bool.true_and, Bool.and_self, cond_true, cond_false]); exfalso; exact absurd (hb0.symm.trans Hc2.out) (by decide))); all_goals skip; (try simp only [List.set_cons_succ, List.set_cons_zero])
  refine D_maybe 5 c2 rfl (by kernel_rfl) (by kernel_rfl) (by kernel_rfl) (v := undef) (fun _ _ _ _ h => h) rfl (by cases c2 <;> rfl) hS ?_ ?_
  (focus (intro hb; intro W hS; (try simp only [Bool.and_eq_true, Bool.not_eq_true'] at hb); have hb0 := hb; (try simp only [hb0, Bool.not_false, Bool.not_true, Bool.and_true, Bool.true_and, Bool.and_self, cond_true, cond_false]); exfalso; exact absurd (hb0.symm.trans Hc2.out) (by decide))); all_goals skip; (try simp only [List.set_cons_succ, List.set_cons_zero, List.getElem_toArray, List.getElem_cons_succ, List.getElem_cons_zero])
  refine D_maybe 6 c2 rfl (by kernel_rfl) (by kernel_rfl) (by kernel_rfl) (v := undef) (fun _ _ _ _ h => h) rfl (by cases c2 <;> rfl) hS ?_ ?_
  (focus (intro hb; intro W hS; (try simp only [Bool.and_eq_true, Bool.not_eq_true'] at hb); have hb0 := hb; (try simp only [hb0, Bool.not_false, Bool.not_true, Bool.and_true, Bool.true_and, Bool.and_self, cond_true, cond_false]); exfalso; exact absurd (hb0.symm.trans Hc2.out) (by decide))); all_goals skip; (try simp only [List.set_cons_succ, List.set_cons_zero])
  refine D_maybe 7 c2 rfl (by kernel_rfl) (by kernel_rfl) (by kernel_rfl) (v := undef) (fun _ _ _ _ h => h) rfl (by cases c2 <;> rfl) hS ?_ ?_
  (focus (intro hb; intro W hS; (try simp only [Bool.and_eq_true, Bool.not_eq_true'] at hb); have hb0 := hb; (try simp only [hb0, Bool.not_false, Bool.not_true, Bool.and_true, Bool.true_and, Bool.and_self, cond_true, cond_false]); exfalso; exact absurd (hb0.symm.trans Hc2.out) (by decide))); all_goals skip; (try simp only [List.set_cons_succ, List.set_cons_zero, List.getElem_toArray, List.getElem_cons_succ, List.getElem_cons_zero])
  refine D_maybe 8 c2 rfl (by kernel_rfl) (by kernel_rfl) (by kernel_rfl) (v := undef) (fun _ _ _ _ h => h) rfl (by cases c2 <;> rfl) hS ?_ ?_
  (focus (intro hb; intro W hS; (try simp only [Bool.and_eq_true, Bool.not_eq_true'] at hb); have hb0 := hb; (try simp only [hb0, Bool.not_false, Bool.not_true, Bool.and_true, Bool.true_and, Bool.and_self, cond_true, cond_false]); exfalso; exact absurd (hb0.symm.trans Hc2.out) (by decide))); all_goals skip; (try simp only [List.set_cons_succ, List.set_cons_zero])
  refine D_maybeB 9 c2 rfl (by kernel_rfl) (by kernel_rfl) (by kernel_rfl) (q := false) (fun _ _ _ _ h => h) rfl (by cases c2 <;> rfl) hS ?_ ?_
  (focus (intro hb; intro W hS; (try simp only [Bool.and_eq_true, Bool.not_eq_true'] at hb); have hb0 := hb; (try simp only [hb0, Bool.not_false, Bool.not_true, Bool.and_true, Bool.true_and, Bool.and_self, cond_true, cond_false]); exfalso; exact absurd (hb0.symm.trans Hc2.out) (by decide))); all_goals skip; (try simp only [List.set_cons_succ, List.set_cons_zero])
  intro c9 Hc9
  refine D_takeB 10 rfl (by kernel_rfl) (by kernel_rfl) (by kernel_rfl) (q := (c2 && c9)) (fun _ _ _ h => h) rfl (by rfl) hS ?_ ?_
  (focus (intro W hS; cases c2 <;> cases c9 <;> (first | (go_simp; done) | (go_simp; with_reducible rfl) | (go_simp; rfl)))); all_goals skip; (try simp only [List.set_cons_succ, List.set_cons_zero])
  intro c10 Hc10
  refine D_take 11 rfl (by kernel_rfl) (by kernel_rfl) (by kernel_rfl) (v := ?_) (fun _ _ _ h => h) rfl (by rfl) ?_ hS ?_
  rotate_left; (focus (intro W hS; first | (go_simp; done) | (go_simp; with_reducible rfl) | (go_simp; rfl))); all_goals skip; (try simp only [List.set_cons_succ, List.set_cons_zero])
  refine D_maybe 12 c10 rfl (by kernel_rfl) (by kernel_rfl) (by kernel_rfl) (v := undef) (fun _ _ _ _ h => h) rfl (by cases c10 <;> rfl) hS ?_ ?_
  (focus (intro hb; intro W hS; (try simp only [Bool.and_eq_true, Bool.not_eq_true'] at hb); have hb0 := hb; (try simp only [hb0, Bool.not_false, Bool.not_true, Bool.and_true, Bool.true_and, Bool.and_self, cond_true, cond_false]); exfalso; exact absurd (hb0.symm.trans Hc10.out) (by simp [Hc2.out]))); all_goals skip; (try simp only [List.set_cons_succ, List.set_cons_zero])
  refine D_maybe 13 c10 rfl (by kernel_rfl) (by kernel_rfl) (by kernel_rfl) (v := undef) (fun _ _ _ _ h => h) rfl (by cases c10 <;> rfl) hS ?_ ?_
  (focus (intro hb; intro W hS; (try simp only [Bool.and_eq_true, Bool.not_eq_true'] at hb); have hb0 := hb; (try simp only [hb0, Bool.not_false, Bool.not_true, Bool.and_true, Bool.true_and, Bool.and_self, cond_true, cond_false]); exfalso; exact absurd (hb0.symm.trans Hc10.out) (by simp [Hc2.out]))); all_goals skip; (try simp only [List.set_cons_succ, List.set_cons_zero, List.getElem_toArray, List.getElem_cons_succ, List.getElem_cons_zero])
  refine D_maybe 14 c10 rfl (by kernel_rfl) (by kernel_rfl) (by kernel_rfl) (v := undef) (fun _ _ _ _ h => h) rfl (by cases c10 <;> rfl) hS ?_ ?_
  (focus (intro hb; intro W hS; (try simp only [Bool.and_eq_true, Bool.not_eq_true'] at hb); have hb0 := hb; (try simp only [hb0, Bool.not_false, Bool.not_true, Bool.and_true, Bool.true_and, Bool.and_self, cond_true, cond_false]); exfalso; exact absurd (hb0.symm.trans Hc10.out) (by simp [Hc2.out]))); all_goals skip; (try simp only [List.set_cons_succ, List.set_cons_zero])
  refine D_maybe 15 c10 rfl (by kernel_rfl) (by kernel_rfl) (by kernel_rfl) (v := undef) (fun _ _ _ _ h => h) rfl (by cases c10 <;> rfl) hS ?_ ?_
  (focus (intro hb; intro W hS; (try simp only [Bool.and_eq_true, Bool.not_eq_true'] at hb); have hb0 := hb; (try simp only [hb0, Bool.not_false, Bool.not_true, Bool.and_true, Bool.true_and, Bool.and_self, cond_true, cond_false]); exfalso; exact absurd (hb0.symm.trans Hc10.out) (by simp [Hc2.out]))); all_goals skip; (try simp only [List.set_cons_succ, List.set_cons_zero, List.getElem_toArray, List.getElem_cons_succ, List.getElem_cons_zero])
  refine D_maybe 16 c10 rfl (by kernel_rfl) (by kernel_rfl) (by kernel_rfl) (v := undef) (fun _ _ _ _ h => h) rfl (by cases c10 <;> rfl) hS ?_ ?_
  (focus (intro hb; intro W hS; (try simp only [Bool.and_eq_true, Bool.not_eq_true'] at hb); have hb0 := hb; (try simp only [hb0, Bool.not_false, Bool.not_true, Bool.and_true, Bool.true_and, Bool.and_self, cond_true, cond_false]); exfalso; exact absurd (hb0.symm.trans Hc10.out) (by simp [Hc2.out]))); all_goals skip; (try simp only [List.set_cons_succ, List.set_cons_zero])
  refine D_maybe 17 c10 rfl (by kernel_rfl) (by kernel_rfl) (by kernel_rfl) (v := undef) (fun _ _ _ _ h => h) rfl (by cases c10 <;> rfl) hS ?_ ?_
  (focus (intro hb; intro W hS; (try simp only [Bool.and_eq_true, Bool.not_eq_true'] at hb); have hb0 := hb; (try simp only [hb0, Bool.not_false, Bool.not_true, Bool.and_true, Bool.true_and, Bool.and_self, cond_true, cond_false]); exfalso; exact absurd (hb0.symm.trans Hc10.out) (by simp [Hc2.out]))); all_goals skip; (try simp only [List.set_cons_succ, List.set_cons_zero])
  refine D_maybe 18 c10 rfl (by kernel_rfl) (by kernel_rfl) (by kernel_rfl) (v := undef) (fun _ _ _ _ h => h) rfl (by cases c10 <;> rfl) hS ?_ ?_
  (focus (intro hb; intro W hS; (try simp only [Bool.and_eq_true, Bool.not_eq_true'] at hb); have hb0 := hb; (try simp only [hb0, Bool.not_false, Bool.not_true, Bool.and_true, Bool.true_and, Bool.and_self, cond_true, cond_false]); exfalso; exact absurd (hb0.symm.trans Hc10.out) (by simp [Hc2.out]))); all_goals skip; (try simp only [List.set_cons_succ, List.set_cons_zero, List.getElem_toArray, List.getElem_cons_succ, List.getElem_cons_zero])
  refine D_callV 19 c10 (.int .i64 0) rfl (by kernel_rfl) rfl (by cases c10 <;> rfl) hS ?_ ?_
  (focus (intro hb K hK; (try simp only [Bool.and_eq_true, Bool.not_eq_true'] at hb); have hb0 := hb; subst hb0; exact absurd Hc10.out (by simp [Hc2.out])))
  clear hS; intro w hS
  (try simp only [List.set_cons_succ, List.set_cons_zero])
  refine D_maybeB 20 c10 rfl (by kernel_rfl) (by kernel_rfl) (by kernel_rfl) (q := false) (fun _ _ _ _ h => h) rfl (by cases c10 <;> rfl) hS ?_ ?_
  (focus (intro hb; intro W hS; (try simp only [Bool.and_eq_true, Bool.not_eq_true'] at hb); have hb0 := hb; (try simp only [hb0, Bool.not_false, Bool.not_true, Bool.and_true, Bool.true_and, Bool.and_self, cond_true, cond_false]); exfalso; exact absurd (hb0.symm.trans Hc10.out) (by simp [Hc2.out]))); all_goals skip; (try simp only [List.set_cons_succ, List.set_cons_zero])
  intro c20 Hc20
  refine D_takeB 21 rfl (by kernel_rfl) (by kernel_rfl) (by kernel_rfl) (q := (c10 && c20)) (fun _ _ _ h => h) rfl (by rfl) hS ?_ ?_
  (focus (intro W hS; cases c10 <;> cases c20 <;> (first | (go_simp; done) | (go_simp; with_reducible rfl) | (go_simp; rfl)))); all_goals skip; (try simp only [List.set_cons_succ, List.set_cons_zero])
  intro c21 Hc21
  refine D_take 22 rfl (by kernel_rfl) (by kernel_rfl) (by kernel_rfl) (v := ?_) (fun _ _ _ h => h) rfl (by rfl) ?_ hS ?_
  rotate_left; (focus (intro W hS; first | (go_simp; done) | (go_simp; with_reducible rfl) | (go_simp; rfl))); all_goals skip; (try simp only [List.set_cons_succ, List.set_cons_zero])
  refine D_maybe 23 c21 rfl (by kernel_rfl) (by kernel_rfl) (by kernel_rfl) (v := undef) (fun _ _ _ _ h => h) rfl (by cases c21 <;> rfl) hS ?_ ?_
  (focus (intro hb; intro W hS; (try simp only [Bool.and_eq_true, Bool.not_eq_true'] at hb); have hb0 := hb; (try simp only [hb0, Bool.not_false, Bool.not_true, Bool.and_true, Bool.true_and, Bool.and_self, cond_true, cond_false]); exfalso; exact absurd (hb0.symm.trans Hc21.out) (by simp [Hc10.out, Hc2.out]))); all_goals skip; (try simp only [List.set_cons_succ, List.set_cons_zero])
  refine D_maybe 24 c21 rfl (by kernel_rfl) (by kernel_rfl) (by kernel_rfl) (v := undef) (fun _ _ _ _ h => h) rfl (by cases c21 <;> rfl) hS ?_ ?_
  (focus (intro hb; intro W hS; (try simp only [Bool.and_eq_true, Bool.not_eq_true'] at hb); have hb0 := hb; (try simp only [hb0, Bool.not_false, Bool.not_true, Bool.and_true, Bool.true_and, Bool.and_self, cond_true, cond_false]); exfalso; exact absurd (hb0.symm.trans Hc21.out) (by simp [Hc10.out, Hc2.out]))); all_goals skip; (try simp only [List.set_cons_succ, List.set_cons_zero, List.getElem_toArray, List.getElem_cons_succ, List.getElem_cons_zero])
  refine D_maybe 25 c21 rfl (by kernel_rfl) (by kernel_rfl) (by kernel_rfl) (v := undef) (fun _ _ _ _ h => h) rfl (by cases c21 <;> rfl) hS ?_ ?_
  (focus (intro hb; intro W hS; (try simp only [Bool.and_eq_true, Bool.not_eq_true'] at hb); have hb0 := hb; (try simp only [hb0, Bool.not_false, Bool.not_true, Bool.and_true, Bool.true_and, Bool.and_self, cond_true, cond_false]); exfalso; exact absurd (hb0.symm.trans Hc21.out) (by simp [Hc10.out, Hc2.out]))); all_goals skip; (try simp only [List.set_cons_succ, List.set_cons_zero])
  refine D_maybe 26 c21 rfl (by kernel_rfl) (by kernel_rfl) (by kernel_rfl) (v := undef) (fun _ _ _ _ h => h) rfl (by cases c21 <;> rfl) hS ?_ ?_
  (focus (intro hb; intro W hS; (try simp only [Bool.and_eq_true, Bool.not_eq_true'] at hb); have hb0 := hb; (try simp only [hb0, Bool.not_false, Bool.not_true, Bool.and_true, Bool.true_and, Bool.and_self, cond_true, cond_false]); exfalso; exact absurd (hb0.symm.trans Hc21.out) (by simp [Hc10.out, Hc2.out]))); all_goals skip; (try simp only [List.set_cons_succ, List.set_cons_zero])
  refine D_maybe 27 c21 rfl (by kernel_rfl) (by kernel_rfl) (by kernel_rfl) (v := undef) (fun _ _ _ _ h => h) rfl (by cases c21 <;> rfl) hS ?_ ?_
  (focus (intro hb; intro W hS; (try simp only [Bool.and_eq_true, Bool.not_eq_true'] at hb); have hb0 := hb; (try simp only [hb0, Bool.not_false, Bool.not_true, Bool.and_true, Bool.true_and, Bool.and_self, cond_true, cond_false]); exfalso; exact absurd (hb0.symm.trans Hc21.out) (by simp [Hc10.out, Hc2.out]))); all_goals skip; (try simp only [List.set_cons_succ, List.set_cons_zero, List.getElem_toArray, List.getElem_cons_succ, List.getElem_cons_zero])
  refine D_maybe 28 c21 rfl (by kernel_rfl) (by kernel_rfl) (by kernel_rfl) (v := undef) (fun _ _ _ _ h => h) rfl (by cases c21 <;> rfl) hS ?_ ?_
  (focus (intro hb; intro W hS; (try simp only [Bool.and_eq_true, Bool.not_eq_true'] at hb); have hb0 := hb; (try simp only [hb0, Bool.not_false, Bool.not_true, Bool.and_true, Bool.true_and, Bool.and_self, cond_true, cond_false]); exfalso; exact absurd (hb0.symm.trans Hc21.out) (by simp [Hc10.out, Hc2.out]))); all_goals skip; (try simp only [List.set_cons_succ, List.set_cons_zero])
  refine D_maybe 29 c21 rfl (by kernel_rfl) (by kernel_rfl) (by kernel_rfl) (v := undef) (fun _ _ _ _ h => h) rfl (by cases c21 <;> rfl) hS ?_ ?_
  (focus (intro hb; intro W hS; (try simp only [Bool.and_eq_true, Bool.not_eq_true'] at hb); have hb0 := hb; (try simp only [hb0, Bool.not_false, Bool.not_true, Bool.and_true, Bool.true_and, Bool.and_self, cond_true, cond_false]); exfalso; exact absurd (hb0.symm.trans Hc21.out) (by simp [Hc10.out, Hc2.out]))); all_goals skip; (try simp only [List.set_cons_succ, List.set_cons_zero])
  refine D_maybe 30 c21 rfl (by kernel_rfl) (by kernel_rfl) (by kernel_rfl) (v := undef) (fun _ _ _ _ h => h) rfl (by cases c21 <;> rfl) hS ?_ ?_
  (focus (intro hb; intro W hS; (try simp only [Bool.and_eq_true, Bool.not_eq_true'] at hb); have hb0 := hb; (try simp only [hb0, Bool.not_false, Bool.not_true, Bool.and_true, Bool.true_and, Bool.and_self, cond_true, cond_false]); exfalso; exact absurd (hb0.symm.trans Hc21.out) (by simp [Hc10.out, Hc2.out]))); all_goals skip; (try simp only [List.set_cons_succ, List.set_cons_zero, List.getElem_toArray, List.getElem_cons_succ, List.getElem_cons_zero])
  refine D_callV 31 c21 (.int .i64 0) rfl (by kernel_rfl) rfl (by cases c21 <;> rfl) hS ?_ ?_
  (focus (intro hb K hK; (try simp only [Bool.and_eq_true, Bool.not_eq_true'] at hb); have hb0 := hb; subst hb0; exact absurd Hc21.out (by simp [Hc10.out, Hc2.out])))
  clear hS; intro w hS
  (try simp only [List.set_cons_succ, List.set_cons_zero])
  refine D_maybeB 32 c21 rfl (by kernel_rfl) (by kernel_rfl) (by kernel_rfl) (q := false) (fun _ _ _ _ h => h) rfl (by cases c21 <;> rfl) hS ?_ ?_
  (focus (intro hb; intro W hS; (try simp only [Bool.and_eq_true, Bool.not_eq_true'] at hb); have hb0 := hb; (try simp only [hb0, Bool.not_false, Bool.not_true, Bool.and_true, Bool.true_and, Bool.and_self, cond_true, cond_false]); exfalso; exact absurd (hb0.symm.trans Hc21.out) (by simp [Hc10.out, Hc2.out]))); all_goals skip; (try simp only [List.set_cons_succ, List.set_cons_zero])
  intro c32 Hc32
  refine D_takeB 33 rfl (by kernel_rfl) (by kernel_rfl) (by kernel_rfl) (q := (c21 && c32)) (fun _ _ _ h => h) rfl (by rfl) hS ?_ ?_
  (focus (intro W hS; cases c21 <;> cases c32 <;> (first | (go_simp; done) | (go_simp; with_reducible rfl) | (go_simp; rfl)))); all_goals skip; (try simp only [List.set_cons_succ, List.set_cons_zero])
  intro c33 Hc33
  refine D_take 34 rfl (by kernel_rfl) (by kernel_rfl) (by kernel_rfl) (v := ?_) (fun _ _ _ h => h) rfl (by rfl) ?_ hS ?_
  rotate_left; (focus (intro W hS; first | (go_simp; done) | (go_simp; with_reducible rfl) | (go_simp; rfl))); all_goals skip; (try simp only [List.set_cons_succ, List.set_cons_zero])
  have hrow := Hc33.out
  simp only [Hc10.out, Hc21.out, Hc2.out, Hc9.out, Hc20.out, Hc32.out] at hrow
  replace hrow := Lib.hid hrow
  clear Hc10 Hc21 Hc33 Hc2 Hc9 Hc20 Hc32
  refine wpAnyH_done (by kernel_rfl) ?_ _
  have hE := hS.ext
  clear hS
  have hval : c33 = false := by rw [hrow.out]; rfl
  have HV := Lib.hid hval
  clear hval hrow
  go_wp2
  go_ret
  exact ⟨by rw [← HV.out]; rfl, hE⟩
end Go.Proofs.YtgmeahogdjhejaaGreatDoor

namespace Go.Proofs.YtgmeahogdjhejaaGreatDoor
set_option linter.unusedVariables false
set_option linter.unusedSimpArgs false
open Go.RowKit Go.Shelf

theorem info68 : (Tryz.prog.info? 68).map (·.size) = some 3 := by kernel_rfl
theorem info65 : (Tryz.prog.info? 65).map (·.size) = some 3 := by kernel_rfl
theorem one3 (a b c : Value) (ha : a.oneCell' = true) (hb : b.oneCell' = true) (hc : c.oneCell' = true) : (#[a, b, c] : Array Value).all (·.oneCell') = true := by simp [ha, hb, hc]
set_option maxRecDepth 100000 in
set_option maxHeartbeats 1000000 in
theorem place_any (b : Nat) (slot log n m p q : Int) (w : World) (hp : IntKind.i64.wrap (n * slot) = p) (hm : IntKind.i64.wrap (n + 1) = m) (hq : IntKind.i64.wrap (m * slot) = q) :
    Calls Tryz.prog 29 #[layV b slot log, .int .i64 n] w fun e w' => e = .returned (extV b p q) ∧ Ext0 w w' := by
  have H : SH (fun _ => False) w w [] := SH.nil _ _
  unfold layV extV
  go_enter Tryz.func29, Tryz.ntmps29
  go_wp2_with (first
    | (refine L_box rfl rfl H rfl rfl ?_; clear H; intro g1 w H; (try simp only [Act.eval, Array.getD_eq_getD_getElem?, List.getElem?_toArray, List.getElem?_cons_succ, List.getElem?_cons_zero, Option.getD_some, Value.cells] at H); (try simp only [Act.put, List.setIfInBounds_toArray, List.set_cons_succ, List.set_cons_zero, List.getElem_toArray, List.getElem_cons_succ, List.getElem_cons_zero]))
    | (refine L_alloc rfl rfl H Tryz.zeroValue68 ?_; clear H; intro g3 w H; simp only [Value.cells] at H; (try simp only [Act.put, List.setIfInBounds_toArray, List.set_cons_succ, List.set_cons_zero, List.getElem_toArray, List.getElem_cons_succ, List.getElem_cons_zero]))
    | (refine L_storerow rfl rfl H 0 rfl rfl rfl info68 rfl rfl (one3 _ _ _ rfl rfl rfl) ?_; clear H; intro w H; simp only [List.set_cons_zero, List.set_cons_succ, List.setIfInBounds_toArray, Act.eval, Array.getD_eq_getD_getElem?, List.getElem?_toArray, List.getElem?_cons_succ, List.getElem?_cons_zero, Option.getD_some] at H; (try simp only [Act.put, List.setIfInBounds_toArray, List.set_cons_succ, List.set_cons_zero, List.getElem_toArray, List.getElem_cons_succ, List.getElem_cons_zero]))
    | (refine L_load1 rfl rfl H 0 rfl rfl rfl Tryz.isAgg24 ?_; (try simp only [Act.put, List.setIfInBounds_toArray, List.set_cons_succ, List.set_cons_zero, List.getElem_toArray, List.getElem_cons_succ, List.getElem_cons_zero])) | (refine L_load1 rfl rfl H 1 rfl rfl rfl Tryz.isAgg24 ?_; (try simp only [Act.put, List.setIfInBounds_toArray, List.set_cons_succ, List.set_cons_zero, List.getElem_toArray, List.getElem_cons_succ, List.getElem_cons_zero])) | (refine L_load1 rfl rfl H 0 rfl rfl rfl Tryz.isAgg3 ?_; (try simp only [Act.put, List.setIfInBounds_toArray, List.set_cons_succ, List.set_cons_zero, List.getElem_toArray, List.getElem_cons_succ, List.getElem_cons_zero])) | (refine L_load1 rfl rfl H 1 rfl rfl rfl Tryz.isAgg3 ?_; (try simp only [Act.put, List.setIfInBounds_toArray, List.set_cons_succ, List.set_cons_zero, List.getElem_toArray, List.getElem_cons_succ, List.getElem_cons_zero])))
  (try simp only [Exit.inBlock, Exit.then])
  exact L_retrow rfl H 0 rfl rfl Tryz.underlying68 rfl info68 rfl rfl ⟨rfl, H.ext⟩
set_option maxRecDepth 100000 in
set_option maxHeartbeats 1000000 in
theorem logs_any (b : Nat) (slot log n m p q : Int) (w : World) (hm : IntKind.i64.wrap (2 * slot) = m) (hp : IntKind.i64.wrap (m + n) = p) (hq : IntKind.i64.wrap (m + log) = q) :
    Calls Tryz.prog 39 #[layV b slot log, .int .i64 n] w fun e w' => e = .returned (extV b p q) ∧ Ext0 w w' := by
  have H : SH (fun _ => False) w w [] := SH.nil _ _
  unfold layV extV
  go_enter Tryz.func39, Tryz.ntmps39
  go_wp2_with (first
    | (refine L_box rfl rfl H rfl rfl ?_; clear H; intro g1 w H; (try simp only [Act.eval, Array.getD_eq_getD_getElem?, List.getElem?_toArray, List.getElem?_cons_succ, List.getElem?_cons_zero, Option.getD_some, Value.cells] at H); (try simp only [Act.put, List.setIfInBounds_toArray, List.set_cons_succ, List.set_cons_zero, List.getElem_toArray, List.getElem_cons_succ, List.getElem_cons_zero]))
    | (refine L_alloc rfl rfl H Tryz.zeroValue68 ?_; clear H; intro g3 w H; simp only [Value.cells] at H; (try simp only [Act.put, List.setIfInBounds_toArray, List.set_cons_succ, List.set_cons_zero, List.getElem_toArray, List.getElem_cons_succ, List.getElem_cons_zero]))
    | (refine L_storerow rfl rfl H 0 rfl rfl rfl info68 rfl rfl (one3 _ _ _ rfl rfl rfl) ?_; clear H; intro w H; simp only [List.set_cons_zero, List.set_cons_succ, List.setIfInBounds_toArray, Act.eval, Array.getD_eq_getD_getElem?, List.getElem?_toArray, List.getElem?_cons_succ, List.getElem?_cons_zero, Option.getD_some] at H; (try simp only [Act.put, List.setIfInBounds_toArray, List.set_cons_succ, List.set_cons_zero, List.getElem_toArray, List.getElem_cons_succ, List.getElem_cons_zero]))
    | (refine L_load1 rfl rfl H 0 rfl rfl rfl Tryz.isAgg24 ?_; (try simp only [Act.put, List.setIfInBounds_toArray, List.set_cons_succ, List.set_cons_zero, List.getElem_toArray, List.getElem_cons_succ, List.getElem_cons_zero])) | (refine L_load1 rfl rfl H 1 rfl rfl rfl Tryz.isAgg24 ?_; (try simp only [Act.put, List.setIfInBounds_toArray, List.set_cons_succ, List.set_cons_zero, List.getElem_toArray, List.getElem_cons_succ, List.getElem_cons_zero])) | (refine L_load1 rfl rfl H 0 rfl rfl rfl Tryz.isAgg3 ?_; (try simp only [Act.put, List.setIfInBounds_toArray, List.set_cons_succ, List.set_cons_zero, List.getElem_toArray, List.getElem_cons_succ, List.getElem_cons_zero])) | (refine L_load1 rfl rfl H 1 rfl rfl rfl Tryz.isAgg3 ?_; (try simp only [Act.put, List.setIfInBounds_toArray, List.set_cons_succ, List.set_cons_zero, List.getElem_toArray, List.getElem_cons_succ, List.getElem_cons_zero])))
  (try simp only [Exit.inBlock, Exit.then])
  exact L_retrow rfl H 0 rfl rfl Tryz.underlying68 rfl info68 rfl rfl ⟨rfl, H.ext⟩
def RecE (slot : Nat) (ep sq : Int) (xs : List Int) (w : World) (e : Ending) (w' : World) : Prop :=
  (recErr slot ep xs.length ≠ 0 ∧ e = .returned (.tuple #[.slice none 0 0, .int .i64 (recErr slot ep xs.length)]) ∧ Ext0 w w') ∨ (recErr slot ep xs.length = 0 ∧ LayE (layP ep sq xs) w e w')
set_option maxRecDepth 100000 in
set_option maxHeartbeats 4000000 in
theorem record_any (b slot : Nat) (log ep sq : Int) (v : Value) (xs : List Int) (w0 : World) (he : 0 ≤ ep) (hq : U32 sq) (hr : RdS (encInt .u8) 1 w0 v xs) (hb : ∀ x ∈ xs, 0 ≤ x ∧ x ≤ 255) :
    Calls Tryz.prog 28 #[layV b slot log, .int .i64 ep, .int .i64 sq, v] w0 (RecE slot ep sq xs w0) := by
  obtain ⟨A, cap, rfl, hcap⟩ := hr.len
  have H0 : SH (fun _ => False) w0 w0 [] := SH.nil _ _
  have HR := Lib.hid (And.intro hr (And.intro hb (And.intro he hq)))
  obtain ⟨n, hn⟩ : ∃ n, xs.length = n := ⟨_, rfl⟩
  have HN := Lib.hid hn
  unfold RecE
  rw [hn] at hcap ⊢
  clear hr hb he hq hn
  unfold layV
  go_enter Tryz.func28, Tryz.ntmps28
  go_upto_region 1 with (first
    | (refine L_box rfl rfl H0 rfl rfl ?_; clear H0; intro g1 w H; (try simp only [Act.eval, Array.getD_eq_getD_getElem?, List.getElem?_toArray, List.getElem?_cons_succ, List.getElem?_cons_zero, Option.getD_some, Value.cells] at H); (try simp only [Act.put, List.setIfInBounds_toArray, List.set_cons_succ, List.set_cons_zero, List.getElem_toArray, List.getElem_cons_succ, List.getElem_cons_zero])))
  by_cases h1 : 65535 < n
  · have h1i : (65535 : Int) < (n : Int) := by omega
    have hre : recErr slot ep n = 2 := by unfold recErr; rw [if_pos (.inl h1)]
    have HRE := Lib.hid hre
    clear hre
    go_wp2
    go_ret2
    rw [HRE.out]
    exact .inl ⟨by decide, rfl, H.ext⟩
  · have h1i : ¬ (65535 : Int) < (n : Int) := by omega
    by_cases h2 : 4294967295 < ep
    · have hre : recErr slot ep n = 2 := by unfold recErr; rw [if_pos (.inr h2)]
      have HRE := Lib.hid hre
      clear hre
      go_wp2
      go_ret2
      rw [HRE.out]
      exact .inl ⟨by decide, rfl, H.ext⟩
    · go_upto_region 3 with fail
      have hcnt := fun {W : World} => count_any n (by omega) W
      obtain ⟨c, hc⟩ : ∃ c, countP n = c := ⟨_, rfl⟩
      rw [hc] at hcnt
      have HC := Lib.hid hc
      clear hc
      refine D_start H (by kernel_rfl) (fun hS => ?_)
      try simp only [Act.put, List.setIfInBounds_toArray, List.set_cons_succ, List.set_cons_zero]
      refine D_take 0 (v := ?_) rfl (by kernel_rfl) (by kernel_rfl) (by kernel_rfl) (fun _ _ _ h => h) rfl (by rfl) (fun W hS => ?_) hS ?_
      rotate_left; (focus (first | (go_simp; done) | (go_simp; with_reducible rfl) | (go_simp; rfl))); all_goals skip; (try simp only [List.set_cons_succ, List.set_cons_zero])
      refine D_take 1 (v := ?_) rfl (by kernel_rfl) (by kernel_rfl) (by kernel_rfl) (fun _ _ _ h => h) rfl (by rfl) (fun W hS => ?_) hS ?_
      rotate_left; (focus (first | (go_simp; done) | (go_simp; with_reducible rfl) | (go_simp; rfl))); all_goals skip; (try simp only [List.set_cons_succ, List.set_cons_zero])
      refine D_take 3 (v := ?_) rfl (by kernel_rfl) (by kernel_rfl) (by kernel_rfl) (fun _ _ _ h => h) rfl (by rfl) (fun W hS => ?_) hS ?_
      rotate_left; (focus (first | (go_simp; done) | (go_simp; with_reducible rfl) | (go_simp; rfl))); all_goals skip; (try simp only [List.set_cons_succ, List.set_cons_zero])
      refine D_take 4 (v := ?_) rfl (by kernel_rfl) (by kernel_rfl) (by kernel_rfl) (fun _ _ _ h => h) rfl (by rfl) (fun W hS => ?_) hS ?_
      rotate_left; (focus (first | (refine R_load1 (ty := 3) (x := Operand.tmp 22) rfl hS 0 rfl rfl ?_ Tryz.isAgg3; rfl))); all_goals skip; (try simp only [List.set_cons_succ, List.set_cons_zero, List.getElem_toArray, List.getElem_cons_succ, List.getElem_cons_zero])
      refine D_one 2 rfl (by kernel_rfl) (by rfl) ?_
      refine R_call (f := 53) (args := #[.int .i64 (n : Int)]) (by first | (go_simp; done) | (go_simp; rfl)) hcnt ?_
      rintro e w9 ⟨rfl, hw9⟩
      replace hw9 := hw9.symm
      subst hw9
      refine ⟨_, rfl, hS, ?_⟩
      try simp only [Act.put, List.getElem_toArray, List.getElem_cons_succ, List.getElem_cons_zero, List.setIfInBounds_toArray, List.set_cons_succ, List.set_cons_zero]
      refine D_take 5 (v := ?_) rfl (by kernel_rfl) (by kernel_rfl) (by kernel_rfl) (fun _ _ _ h => h) rfl (by rfl) (fun W hS => ?_) hS ?_
      rotate_left; (focus (first | (go_simp; done) | (go_simp; with_reducible rfl) | (go_simp; rfl))); all_goals skip; (try simp only [List.set_cons_succ, List.set_cons_zero])
      refine D_take 6 (v := ?_) rfl (by kernel_rfl) (by kernel_rfl) (by kernel_rfl) (fun _ _ _ h => h) rfl (by rfl) (fun W hS => ?_) hS ?_
      rotate_left; (focus (first | (go_simp; done) | (go_simp; with_reducible rfl) | (go_simp; rfl))); all_goals skip; (try simp only [List.set_cons_succ, List.set_cons_zero])
      refine wpAnyH_done (by kernel_rfl) ?_ _
      clear hcnt
      have H5 := hS
      clear hS
      by_cases h3 : slot < c
      · have h3i : (slot : Int) < (c : Int) := by omega
        have hre : recErr slot ep n = 5 := by unfold recErr; rw [if_neg (by omega), HC.out, if_pos h3]
        have HRE := Lib.hid hre
        clear hre
        go_wp2
        go_ret2
        rw [HRE.out]
        exact .inl ⟨by decide, rfl, H5.ext⟩
      · have h3i : ¬ (slot : Int) < (c : Int) := by omega
        have hre : recErr slot ep n = 0 := by unfold recErr; rw [if_neg (by omega), HC.out, if_neg h3]
        have HRE := Lib.hid hre
        clear hre
        have hlay := lay_any ep sq (.slice A xs.length cap) xs _ ⟨HR.out.2.2.1, by omega⟩ HR.out.2.2.2 (HR.out.1.keep H5.ext) HR.out.2.1 (by rw [HN.out]; omega)
        rw [HN.out] at hlay
        go_wp2_with (first
          | (go_at_call 54; refine hlay.mono ?_; rintro e1 w2 ⟨va, rfl, hra, hE, hfr⟩))
        go_ret2
        rw [HRE.out]
        exact .inr ⟨rfl, va, rfl, hra, H5.ext.trans0 hE, fun j hj => Nat.le_trans H5.ext.size (hfr j hj)⟩
end Go.Proofs.YtgmeahogdjhejaaGreatDoor

namespace Go.Proofs.YtgmeahogdjhejaaGreatDoor
set_option linter.unusedVariables false
set_option linter.unusedSimpArgs false
open Go.RowKit Go.Shelf

theorem ewrite_at {b bs bm : Nat} {d : DS} {W0 : Int} (w0 : World) (h : (DiskA b bs bm d).says w0) (hf : d.Fine W0) (hW : W0 ≤ 1000000000) (a n : Nat) (p tt : Int) (hp : p = (a : Int)) {v : Value} {s : List Int} (hr : RdS (encInt .u8) 1 w0 v s) (hb : ∀ x ∈ s, 0 ≤ x ∧ x ≤ 255)
    (hs : s.length = 32 * n) (hn : 1 ≤ n ∧ n ≤ 10000) (ha : a ≤ 1000000) (hap : ∀ j, v.ownBlock = some j → ¬ (DiskA b bs bm d).fp j) :
    Calls Tryz.prog 30 #[extV b p tt, v] w0 (WriteE b bs bm d a n s w0) := by
  subst hp
  exact ewrite_any w0 h hf hW a n tt hr hb hs hn ha hap
theorem SH.base {b bs bm : Nat} {d : DS} {w0 : World} (h : (DiskA b bs bm d).says w0) : SH (DiskA b bs bm d).fp w0 w0 [DiskA b bs bm d] :=
  ⟨Ext.refl _ _, by simpa using h, fun A hA i hi => by rw [List.mem_singleton.1 hA] at hi; exact DiskA.fp_lt h hi, fun A hA i hi => .inl (by rw [List.mem_singleton.1 hA] at hi; exact hi), by simp⟩
def FormatE (b bs bm : Nat) (d : DS) (r : DS × Int) (w : World) (e : Ending) (w' : World) : Prop :=
  e = .returned (.int .i64 r.2) ∧ Ext (DiskA b bs bm d).fp w w' ∧ (DiskA b bs bm r.1).says w'
set_option maxRecDepth 100000 in
set_option maxHeartbeats 4000000 in
theorem format_any {b bs bm : Nat} {d : DS} {W0 : Int} (w0 : World) (h : (DiskA b bs bm d).says w0) (hf : d.Fine W0) (hW : W0 ≤ 100000000) (slot log : Int) {v : Value} {xs : List Int} (hr : RdS (encInt .u8) 1 w0 v xs) (hb : ∀ x ∈ xs, 0 ≤ x ∧ x ≤ 255)
    (hap : ∀ j, v.ownBlock = some j → ¬ (DiskA b bs bm d).fp j) :
    Calls Tryz.prog 6 #[.pointer (some ⟨b, 0, none⟩), .int .i64 slot, .int .i64 log, v] w0 (FormatE b bs bm d (formatP d slot log xs) w0) := by
  obtain ⟨A, cap, rfl, hcap⟩ := hr.len
  have H := SH.base h
  have hlen := hf.len
  by_cases hmay : mayP d.sure.length slot log
  · obtain ⟨s, rfl⟩ := Int.eq_ofNat_of_zero_le (show 0 ≤ slot by have := hmay.1; omega)
    obtain ⟨l, rfl⟩ := Int.eq_ofNat_of_zero_le (show 0 ≤ log by have := hmay.2.1; omega)
    have hm := fun {w : World} (hD : (DiskA b bs bm d).says w) => may_any w hD hf (s : Int) (l : Int)
    rw [show decide (mayP d.sure.length s l) = true from decide_eq_true hmay] at hm
    have hs4 : s ≤ 4096 := by have := hmay.2.2.1; omega
    have hp0 : IntKind.i64.wrap (0 * (s : Int)) = 0 := by rw [IntKind.wrap_i64]; omega
    have hp1 : IntKind.i64.wrap ((0 : Int) + 1) = 1 := by rw [IntKind.wrap_i64]; omega
    have hp2 : IntKind.i64.wrap (1 * (s : Int)) = (s : Int) := by rw [IntKind.wrap_i64]; omega
    have hplace := fun {w : World} => place_any b (s : Int) (l : Int) 0 1 0 (s : Int) w hp0 hp1 hp2
    have hfo : formatP d s l xs = if recErr s 1 xs.length ≠ 0 then (d, recErr s 1 xs.length) else if (d.lay 0 (countP xs.length) (layP 1 0 xs)).2 ≠ 0 then d.lay 0 (countP xs.length) (layP 1 0 xs) else (d.lay 0 (countP xs.length) (layP 1 0 xs)).1.flushR := by
      unfold formatP
      rw [if_neg (fun e => e hmay), Int.toNat_natCast]
    have hrec := fun {w : World} (hE : Ext (DiskA b bs bm d).fp w0 w) => record_any b s (l : Int) 1 0 (.slice A xs.length cap) xs w (by decide) ⟨by decide, by decide⟩ (RdS.keepM hr hE hap) hb
    obtain ⟨r, hre⟩ : ∃ r, formatP d s l xs = r := ⟨_, rfl⟩
    rw [hre] at hfo ⊢
    have HR := Lib.hid (And.intro hf (And.intro hb hfo))
    have HM := Lib.hid hmay
    clear hmay hfo h hr hre hp0 hp1 hp2 hf hb
    go_enter Tryz.func6, Tryz.ntmps6
    go_upto_region 4 with (first
      | (refine L_alloc rfl rfl H Tryz.zeroValue65 ?_; clear H; intro g3 w H; simp only [Value.cells] at H; (try simp only [Act.put, List.setIfInBounds_toArray, List.set_cons_succ, List.set_cons_zero, List.getElem_toArray, List.getElem_cons_succ, List.getElem_cons_zero]))
      | (refine L_storerow rfl rfl H 0 rfl rfl rfl info65 rfl rfl (one3 _ _ _ rfl rfl rfl) ?_; clear H; intro w H; simp only [List.set_cons_zero, List.set_cons_succ, List.setIfInBounds_toArray, Act.eval, Array.getD_eq_getD_getElem?, List.getElem?_toArray, List.getElem?_cons_succ, List.getElem?_cons_zero, Option.getD_some] at H; (try simp only [Act.put, List.setIfInBounds_toArray, List.set_cons_succ, List.set_cons_zero, List.getElem_toArray, List.getElem_cons_succ, List.getElem_cons_zero]))
      | (refine L_loadrow rfl rfl H 0 rfl rfl Tryz.underlying65 rfl info65 ?hn ?_; (case hn => first | rfl | assumption | (simp only [List.size_toArray]; assumption)); (try simp only [Act.put, List.setIfInBounds_toArray, List.set_cons_succ, List.set_cons_zero, List.getElem_toArray, List.getElem_cons_succ, List.getElem_cons_zero]))
      | (go_at_call 27; refine (hm (H.get 1 rfl)).mono ?_; rintro e1 w1 ⟨rfl, hE⟩; replace H := H.calls hE; clear hE))
    by_cases hc : recErr s 1 xs.length = 0
    · have hrec2 := fun {w : World} (hE : Ext (DiskA b bs bm d).fp w0 w) => (hrec hE).mono (R' := LayE (layP 1 0 xs) w) (fun e w' h => h.elim (fun h => absurd hc h.1) (fun h => h.2))
      have HC := Lib.hid hc
      clear hrec hc
      go_upto_region 7 with (first
        | (refine L_loadrow rfl rfl H 0 rfl rfl Tryz.underlying65 rfl info65 ?hn ?_; (case hn => first | rfl | assumption | (simp only [List.size_toArray]; assumption)); (try simp only [Act.put, List.setIfInBounds_toArray, List.set_cons_succ, List.set_cons_zero, List.getElem_toArray, List.getElem_cons_succ, List.getElem_cons_zero]))
        | (go_at_call 28; refine (hrec2 H.ext).mono ?_; rintro e1 w1 ⟨va, rfl, hra, hE, hfr⟩; have hap2 := fun j hj (hfp : (DiskA b bs bm d).fp j) => Nat.lt_irrefl _ (Nat.lt_of_lt_of_le (DiskA.fp_lt (H.get 1 rfl) hfp) (hfr j hj)); clear hfr; replace H := H.calls hE; clear hE; obtain ⟨Aa, ca, rfl⟩ := hra.isSlice))
      clear hrec2 hm
      have hn65 : xs.length ≤ 65535 := by have := HC.out; unfold recErr at this; split at this <;> omega
      have hcn : 1 ≤ countP xs.length ∧ countP xs.length ≤ 10000 := by unfold countP; omega
      have hfl := HR.out.1.lay (countP xs.length) 0 (lay_bytes (e := 1) (q := 0) HR.out.2.1)
      have hwr := fun {w : World} (hD : (DiskA b bs bm d).says w) (hr : RdS (encInt .u8) 1 w (.slice Aa (layP 1 0 xs).length ca) (layP 1 0 xs)) => ewrite_at w hD HR.out.1 (by omega) 0 (countP xs.length) 0 (s : Int) rfl hr (lay_bytes HR.out.2.1) (layP_len 1 0 xs) hcn (by omega) hap2
      obtain ⟨d1, hd1⟩ : ∃ d1, d.lay 0 (countP xs.length) (layP 1 0 xs) = d1 := ⟨_, rfl⟩
      have hro := HR.out.2.2
      rw [if_neg (fun h => h HC.out), hd1] at hro
      rw [hd1] at hfl
      unfold WriteE at hwr
      rw [hd1] at hwr
      obtain ⟨y, hy⟩ : ∃ y, layP 1 0 xs = y := ⟨_, rfl⟩
      rw [hy] at hwr hra ⊢
      have HY := Lib.hid (And.intro hfl (And.intro hro hcn))
      clear hy hd1 hro hfl hcn hap2
      obtain ⟨e1, he1⟩ : ∃ e1, d1.2 = e1 := ⟨_, rfl⟩
      rw [he1] at hwr
      by_cases he : e1 = 0
      · subst he
        have HE := Lib.hid he1
        clear he1
        go_wp2_with (first
          | (refine L_loadrow rfl rfl H 0 rfl rfl Tryz.underlying65 rfl info65 ?hn ?_; (case hn => first | rfl | assumption | (simp only [List.size_toArray]; assumption)); (try simp only [Act.put, List.setIfInBounds_toArray, List.set_cons_succ, List.set_cons_zero, List.getElem_toArray, List.getElem_cons_succ, List.getElem_cons_zero]))
          | (go_at_call 29; refine hplace.mono ?_; rintro e1 w2 ⟨rfl, hE⟩; replace H := H.calls hE; replace hra := hra.keep hE; clear hE)
          | (go_at_call 30; refine (hwr (H.get 1 rfl) hra).mono ?_; rintro e1 w3 ⟨rfl, hE, hsay⟩; replace H := H.disk 1 rfl hE hsay; simp only [List.set_cons_zero, List.set_cons_succ] at H; clear hE hsay)
          | (go_at_call 31; refine (dflush (H.get 1 rfl) HY.out.1).mono ?_; rintro e1 w4 ⟨rfl, hE, hsay⟩; replace H := H.disk 1 rfl hE hsay; simp only [List.set_cons_zero, List.set_cons_succ] at H; clear hE hsay))
        go_ret
        have hrr : r = d1.1.flushR := by rw [HY.out.2.1, if_neg (fun h => h HE.out)]
        exact ⟨by rw [hrr]; rfl, H.ext, by rw [hrr]; exact H.get 1 rfl⟩
      · have HE := Lib.hid (And.intro he1 he)
        clear he1
        go_wp2_with (first
          | (refine L_loadrow rfl rfl H 0 rfl rfl Tryz.underlying65 rfl info65 ?hn ?_; (case hn => first | rfl | assumption | (simp only [List.size_toArray]; assumption)); (try simp only [Act.put, List.setIfInBounds_toArray, List.set_cons_succ, List.set_cons_zero, List.getElem_toArray, List.getElem_cons_succ, List.getElem_cons_zero]))
          | (go_at_call 29; refine hplace.mono ?_; rintro e1 w2 ⟨rfl, hE⟩; replace H := H.calls hE; replace hra := hra.keep hE; clear hE)
          | (go_at_call 30; refine (hwr (H.get 1 rfl) hra).mono ?_; rintro e1 w3 ⟨rfl, hE, hsay⟩; replace H := H.disk 1 rfl hE hsay; simp only [List.set_cons_zero, List.set_cons_succ] at H; clear hE hsay))
        go_ret
        have hrr : r = d1 := by rw [HY.out.2.1, if_pos (by rw [HE.out.1]; exact HE.out.2)]
        exact ⟨by rw [hrr, HE.out.1]; rfl, H.ext, by rw [hrr]; exact H.get 1 rfl⟩
    · have hrec2 := fun {w : World} (hE : Ext (DiskA b bs bm d).fp w0 w) => (hrec hE).mono (R' := fun e w' => e = .returned (.tuple #[.slice none 0 0, .int .i64 (recErr s 1 xs.length)]) ∧ Ext0 w w') (fun e w' h => h.elim (fun h => h.2) (fun h => absurd h.1 hc))
      obtain ⟨re, hre⟩ : ∃ re, recErr s 1 xs.length = re := ⟨_, rfl⟩
      rw [hre] at hrec2 hc
      have HC := Lib.hid (And.intro hre hc)
      clear hrec hre
      go_wp2_with (first
        | (refine L_loadrow rfl rfl H 0 rfl rfl Tryz.underlying65 rfl info65 ?hn ?_; (case hn => first | rfl | assumption | (simp only [List.size_toArray]; assumption)); (try simp only [Act.put, List.setIfInBounds_toArray, List.set_cons_succ, List.set_cons_zero, List.getElem_toArray, List.getElem_cons_succ, List.getElem_cons_zero]))
        | (go_at_call 28; refine (hrec2 H.ext).mono ?_; rintro e1 w1 ⟨rfl, hE⟩; replace H := H.calls hE; clear hE))
      go_ret
      have hrr : r = (d, re) := by rw [HR.out.2.2, HC.out.1, if_pos HC.out.2]
      exact ⟨by rw [hrr]; rfl, H.ext, by rw [hrr]; exact H.get 1 rfl⟩
  · have hm := fun {w : World} (hD : (DiskA b bs bm d).says w) => may_any w hD hf slot log
    rw [show decide (mayP d.sure.length slot log) = false from decide_eq_false hmay] at hm
    have hfo : formatP d slot log xs = (d, 1) := by unfold formatP; rw [if_pos hmay]
    have HF := Lib.hid hfo
    clear hmay hfo h hr
    go_enter Tryz.func6, Tryz.ntmps6
    go_wp2_with (first
      | (refine L_alloc rfl rfl H Tryz.zeroValue65 ?_; clear H; intro g3 w H; simp only [Value.cells] at H; (try simp only [Act.put, List.setIfInBounds_toArray, List.set_cons_succ, List.set_cons_zero, List.getElem_toArray, List.getElem_cons_succ, List.getElem_cons_zero]))
      | (refine L_storerow rfl rfl H 0 rfl rfl rfl info65 rfl rfl (one3 _ _ _ rfl rfl rfl) ?_; clear H; intro w H; simp only [List.set_cons_zero, List.set_cons_succ, List.setIfInBounds_toArray, Act.eval, Array.getD_eq_getD_getElem?, List.getElem?_toArray, List.getElem?_cons_succ, List.getElem?_cons_zero, Option.getD_some] at H; (try simp only [Act.put, List.setIfInBounds_toArray, List.set_cons_succ, List.set_cons_zero, List.getElem_toArray, List.getElem_cons_succ, List.getElem_cons_zero]))
      | (refine L_loadrow rfl rfl H 0 rfl rfl Tryz.underlying65 rfl info65 ?hn ?_; (case hn => first | rfl | assumption | (simp only [List.size_toArray]; assumption)); (try simp only [Act.put, List.setIfInBounds_toArray, List.set_cons_succ, List.set_cons_zero, List.getElem_toArray, List.getElem_cons_succ, List.getElem_cons_zero]))
      | (go_at_call 27; refine (hm (H.get 1 rfl)).mono ?_; rintro e1 w1 ⟨rfl, hE⟩; replace H := H.calls hE; clear hE))
    go_ret
    exact ⟨by rw [HF.out]; rfl, H.ext, by rw [HF.out]; exact H.get 1 rfl⟩
end Go.Proofs.YtgmeahogdjhejaaGreatDoor
