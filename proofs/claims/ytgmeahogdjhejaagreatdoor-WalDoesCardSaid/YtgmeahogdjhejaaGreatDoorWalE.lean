/- slices.Chunk of bytes, in pieces of 24 and of 32. (Printed by genwal2.py.) -/
import Derived.Test.YtgmeahogdjhejaaGreatDoorWalAA
import Derived.RangeFuncBox
import Derived.RangeFuncNested
import Derived.RangeFuncWrites
import Derived.RangeFuncLeaves
import Derived.Shelf.Abstract
import Derived.WalkKit
import Derived.OwnWalkIn
import Derived.TacticsInMore
import Derived.LoopNIn
import Derived.LoopIn
import Derived.Maps.AppendAt
namespace Go.Proofs.YtgmeahogdjhejaaGreatDoor
set_option linter.unusedVariables false
set_option linter.unusedSimpArgs false
open Go.RowKit Go.Shelf

section
variable {F : Fence} {n : Nat} {P : Program} {ops : Array Oper} {rest : List Oper} {o : Oper} {a : Act} {w w' : World} {Q : Exit → Act → World → Prop}
theorem IL_value (hgd : o.guard = none) {v : Value} (hs : ∀ c, o.op ≠ .defer c) (hab : o.about P w a.eval = none) (hr : (execOp a.eval o).run P w = .ok (.value v) w') (k : wpListIn F n P ops Q rest (a.put o.dst v) w') : wpListIn F n P ops Q (o :: rest) a w := by
  refine wpListIn_plain hgd fun K hK => ⟨(fun f h => by rw [hab] at h; cases h), ?_⟩
  rw [Oper.semAt_plain F a.eval o hs, hr]
  exact hK _ _ k
theorem IL_skip (hgd : o.guard = none) (hs : ∀ c, o.op ≠ .defer c) (hab : o.about P w a.eval = none) (hr : (execOp a.eval o).run P w = .ok .skip w') (k : wpListIn F n P ops Q rest (a.put o.dst undef) w') : wpListIn F n P ops Q (o :: rest) a w := by
  refine wpListIn_plain hgd fun K hK => ⟨(fun f h => by rw [hab] at h; cases h), ?_⟩
  rw [Oper.semAt_plain F a.eval o hs, hr]
  exact hK _ _ k
end
/-- The boxes of a cut stay. -/
def KpB (Bs Bn : Nat) (W W' : World) : Prop := ∀ i, (i = Bs ∨ i = Bn) → W'.heap[i]? = W.heap[i]?
theorem kpB_t {Bs Bn : Nat} {A B C : World} (h : KpB Bs Bn A B) (k : KpB Bs Bn B C) : KpB Bs Bn A C := fun i hi => (k i hi).trans (h i hi)
theorem kpB_b {Bs Bn n : Nat} (h1 : Bs < n) (h2 : Bn < n) (W : World) (l : Nat) (o o' : Obj) (hl : n ≤ l) (_ : W.heap[l]? = some o) (_ : o.isCells = false) (_ : o.isWalk = false) : KpB Bs Bn W (W.putObj l o') := fun i hi => World.putObj_heap_other (by rcases hi with rfl | rfl <;> omega)
attribute [local go_sem] Oper.semAt_some

/-- The piece of that number. -/
def piece24 (b off len : Nat) (x : Nat) : Value := .slice (some ⟨b, off + x * 24, none⟩) (min 24 (len - x * 24)) (min 24 (len - x * 24))
set_option maxRecDepth 100000 in
set_option maxHeartbeats 2000000 in
theorem chunk24_in (F : Fence) (n : Nat) (h63 : F.fn 79) (hro : F.round = none) (hn : 1 ≤ n) (l Bs Bn b off len cap m : Nat) (hm : m = (len + 23) / 24) (hlen : len ≤ 1000000) (hlc : len ≤ cap) (J Jx : List Nat → World → Prop)
    (hY : ∀ pre x W, J pre W → pre.length < m → x < m → YieldAt F (n - 1) Tryz.prog l #[piece24 b off len x] W fun e W' => (e = .returned (.bool true) ∧ J (pre ++ [x]) W' ∧ KpB Bs Bn W W') ∨ (e = .returned (.bool false) ∧ Jx (pre ++ [x]) W'))
    (W : World) (hab : AbidesFrom W.heap.size J) (hBs : W.heap[Bs]? = some (.cells #[.slice (some ⟨b, off, none⟩) len cap] 22 (0, 0))) (hBn : W.heap[Bn]? = some (.cells #[.int .i64 24] 3 (0, 0))) (h0 : J [] W) :
    CallsIn F n Tryz.prog 79 #[.func (.yield l) #[] #[], .pointer (some ⟨Bs, 0, none⟩), .pointer (some ⟨Bn, 0, none⟩)] W fun e W' => (∃ v, e = .returned v) ∧ ((∃ ys, ys = List.range m ∧ J ys W') ∨ (∃ pre, pre <+: List.range m ∧ Jx pre W')) := by
  refine callsIn_of_wp Tryz.func79 rfl h63 ?_ hro
  simp only [Tryz.ntmps79, List.size_toArray, List.length_cons, List.length_nil, Nat.reduceAdd, Nat.reduceSub, Array.replicate_succ, Array.replicate_zero, List.push_toArray, List.append_toArray, List.nil_append, List.cons_append]
  gi_wp2
  gi_loopw [4] (fun i wr => ∃ k : Nat, k ≤ m ∧ i = .int .i64 ((k * 24 : Nat) : Int) ∧ J (List.range k) wr ∧ KpB Bs Bn W wr) (fun i _ => m * 24 - (intOf i).toNat)
  case atStart => exact ⟨0, Nat.zero_le _, rfl, h0, fun _ _ => rfl⟩
  case round =>
    obtain ⟨k, hk, rfl, hJs, hkp⟩ := hrel
    have hcs : wr.cell? ⟨Bs, 0, none⟩ = some (.slice (some ⟨b, off, none⟩) len cap) := cell_of_row _ _ _ _ _ _ ((hkp Bs (.inl rfl)).trans hBs)
    have hcn : wr.cell? ⟨Bn, 0, none⟩ = some (.int .i64 24) := cell_of_row _ _ _ _ _ _ ((hkp Bn (.inr rfl)).trans hBn)
    by_cases hlt : k < m
    · have hki : ((k * 24 : Nat) : Int) < (len : Int) := by omega
      obtain ⟨i0, hi0⟩ : ∃ i0, k * 24 = i0 := ⟨_, rfl⟩
      obtain ⟨e0, he0⟩ : ∃ e0, min 24 (len - k * 24) = e0 := ⟨_, rfl⟩
      have hmin : min (24 : Int) ((len - i0 : Nat) : Int) = (e0 : Int) := by omega
      have hpc : piece24 b off len k = .slice (some ⟨b, off + i0, none⟩) e0 e0 := by unfold piece24; rw [he0, hi0]
      have hsn : List.range (k + 1) = List.range k ++ [k] := List.range_succ
      have hJd : J (List.range k) wr.drew := hab (List.range k) wr _ none hJs ⟨rfl, rfl, rfl, Nat.le_refl _, fun _ _ _ => rfl⟩ (fun r e => by cases e)
      obtain ⟨fn, tmps, assign, body, hy, hR⟩ := hY (List.range k) k wr.drew hJd (by rw [List.length_range]; exact hlt) hlt
      have hcsd : wr.drew.cell? ⟨Bs, 0, none⟩ = some (.slice (some ⟨b, off, none⟩) len cap) := hcs
      have hcnd : wr.drew.cell? ⟨Bn, 0, none⟩ = some (.int .i64 24) := hcn
      have hkpd : KpB Bs Bn W wr.drew := fun i hi => hkp i hi
      rw [hpc] at hy
      rw [hi0] at hki ⊢
      have HS := Lib.hid (And.intro hi0 (And.intro hlt (And.intro hkpd (And.intro hlen (And.intro hm hsn)))))
      have hi0l : i0 < len := by omega
      have hi0c : i0 ≤ cap := by omega
      have hie : i0 + e0 ≤ len := by omega
      have hwe : IntKind.i64.wrap ((i0 : Int) + (e0 : Int)) = (i0 : Int) + (e0 : Int) := by rw [IntKind.wrap_i64]; omega
      have hwc : IntKind.i64.wrap ((i0 : Int) + 24) = (i0 : Int) + 24 := by rw [IntKind.wrap_i64]; omega
      clear hpc he0 hi0 hkp hkpd hsn
      gi_wp2
      gi_region
      all_goals (
        clear hcs hcn
        generalize wr.drew = wd at *
        gi_wp2
        refine hR.mono ?_
        rintro e W3 (⟨rfl, hJ3, hk3⟩ | ⟨rfl, hJx3⟩)
        · have hcn3 : W3.cell? ⟨Bn, 0, none⟩ = some (.int .i64 24) := by
            have h9 : W3.heap[Bn]? = some (.cells #[.int .i64 24] 3 (0, 0)) := (hk3 Bn (.inr rfl)).trans ((HS.out.2.2.1 Bn (.inr rfl)).trans hBn)
            exact cell_of_row _ _ _ _ _ _ h9
          gi_wp2
          go_roundw
          case rel => exact ⟨k + 1, HS.out.2.1, by have := HS.out.1; go_num, by rw [HS.out.2.2.2.2.2]; exact hJ3, kpB_t HS.out.2.2.1 hk3⟩
          case measure => simp [intOf]; have := HS.out; omega
        · gi_wp2
          refine bodyPost_ret (results_none rfl _ _ _) rfl ?_
          exact ⟨⟨_, rfl⟩, .inr ⟨List.range k ++ [k], by rw [← HS.out.2.2.2.2.2]; exact List.prefix_iff_eq_take.2 (by rw [List.length_range, List.take_range]; congr 1; have := HS.out.2.1; omega), hJx3⟩⟩)
    · have hkm : k = m := by omega
      subst hkm
      have hq2 : ¬ (((k * 24 : Nat) : Int) < (len : Int)) := by omega
      gi_wp2
      go_end0
      exact ⟨⟨_, rfl⟩, .inl (by rw [← hm]; exact hJs)⟩

/-- The piece of that number. -/
def piece32 (b off len : Nat) (x : Nat) : Value := .slice (some ⟨b, off + x * 32, none⟩) (min 32 (len - x * 32)) (min 32 (len - x * 32))
set_option maxRecDepth 100000 in
set_option maxHeartbeats 2000000 in
theorem chunk32_in (F : Fence) (n : Nat) (h63 : F.fn 79) (hro : F.round = none) (hn : 1 ≤ n) (l Bs Bn b off len cap m : Nat) (hm : m = (len + 31) / 32) (hlen : len ≤ 1000000) (hlc : len ≤ cap) (J Jx : List Nat → World → Prop)
    (hY : ∀ pre x W, J pre W → pre.length < m → x < m → YieldAt F (n - 1) Tryz.prog l #[piece32 b off len x] W fun e W' => (e = .returned (.bool true) ∧ J (pre ++ [x]) W' ∧ KpB Bs Bn W W') ∨ (e = .returned (.bool false) ∧ Jx (pre ++ [x]) W'))
    (W : World) (hab : AbidesFrom W.heap.size J) (hBs : W.heap[Bs]? = some (.cells #[.slice (some ⟨b, off, none⟩) len cap] 22 (0, 0))) (hBn : W.heap[Bn]? = some (.cells #[.int .i64 32] 3 (0, 0))) (h0 : J [] W) :
    CallsIn F n Tryz.prog 79 #[.func (.yield l) #[] #[], .pointer (some ⟨Bs, 0, none⟩), .pointer (some ⟨Bn, 0, none⟩)] W fun e W' => (∃ v, e = .returned v) ∧ ((∃ ys, ys = List.range m ∧ J ys W') ∨ (∃ pre, pre <+: List.range m ∧ Jx pre W')) := by
  refine callsIn_of_wp Tryz.func79 rfl h63 ?_ hro
  simp only [Tryz.ntmps79, List.size_toArray, List.length_cons, List.length_nil, Nat.reduceAdd, Nat.reduceSub, Array.replicate_succ, Array.replicate_zero, List.push_toArray, List.append_toArray, List.nil_append, List.cons_append]
  gi_wp2
  gi_loopw [4] (fun i wr => ∃ k : Nat, k ≤ m ∧ i = .int .i64 ((k * 32 : Nat) : Int) ∧ J (List.range k) wr ∧ KpB Bs Bn W wr) (fun i _ => m * 32 - (intOf i).toNat)
  case atStart => exact ⟨0, Nat.zero_le _, rfl, h0, fun _ _ => rfl⟩
  case round =>
    obtain ⟨k, hk, rfl, hJs, hkp⟩ := hrel
    have hcs : wr.cell? ⟨Bs, 0, none⟩ = some (.slice (some ⟨b, off, none⟩) len cap) := cell_of_row _ _ _ _ _ _ ((hkp Bs (.inl rfl)).trans hBs)
    have hcn : wr.cell? ⟨Bn, 0, none⟩ = some (.int .i64 32) := cell_of_row _ _ _ _ _ _ ((hkp Bn (.inr rfl)).trans hBn)
    by_cases hlt : k < m
    · have hki : ((k * 32 : Nat) : Int) < (len : Int) := by omega
      obtain ⟨i0, hi0⟩ : ∃ i0, k * 32 = i0 := ⟨_, rfl⟩
      obtain ⟨e0, he0⟩ : ∃ e0, min 32 (len - k * 32) = e0 := ⟨_, rfl⟩
      have hmin : min (32 : Int) ((len - i0 : Nat) : Int) = (e0 : Int) := by omega
      have hpc : piece32 b off len k = .slice (some ⟨b, off + i0, none⟩) e0 e0 := by unfold piece32; rw [he0, hi0]
      have hsn : List.range (k + 1) = List.range k ++ [k] := List.range_succ
      have hJd : J (List.range k) wr.drew := hab (List.range k) wr _ none hJs ⟨rfl, rfl, rfl, Nat.le_refl _, fun _ _ _ => rfl⟩ (fun r e => by cases e)
      obtain ⟨fn, tmps, assign, body, hy, hR⟩ := hY (List.range k) k wr.drew hJd (by rw [List.length_range]; exact hlt) hlt
      have hcsd : wr.drew.cell? ⟨Bs, 0, none⟩ = some (.slice (some ⟨b, off, none⟩) len cap) := hcs
      have hcnd : wr.drew.cell? ⟨Bn, 0, none⟩ = some (.int .i64 32) := hcn
      have hkpd : KpB Bs Bn W wr.drew := fun i hi => hkp i hi
      rw [hpc] at hy
      rw [hi0] at hki ⊢
      have HS := Lib.hid (And.intro hi0 (And.intro hlt (And.intro hkpd (And.intro hlen (And.intro hm hsn)))))
      have hi0l : i0 < len := by omega
      have hi0c : i0 ≤ cap := by omega
      have hie : i0 + e0 ≤ len := by omega
      have hwe : IntKind.i64.wrap ((i0 : Int) + (e0 : Int)) = (i0 : Int) + (e0 : Int) := by rw [IntKind.wrap_i64]; omega
      have hwc : IntKind.i64.wrap ((i0 : Int) + 32) = (i0 : Int) + 32 := by rw [IntKind.wrap_i64]; omega
      clear hpc he0 hi0 hkp hkpd hsn
      gi_wp2
      gi_region
      all_goals (
        clear hcs hcn
        generalize wr.drew = wd at *
        gi_wp2
        refine hR.mono ?_
        rintro e W3 (⟨rfl, hJ3, hk3⟩ | ⟨rfl, hJx3⟩)
        · have hcn3 : W3.cell? ⟨Bn, 0, none⟩ = some (.int .i64 32) := by
            have h9 : W3.heap[Bn]? = some (.cells #[.int .i64 32] 3 (0, 0)) := (hk3 Bn (.inr rfl)).trans ((HS.out.2.2.1 Bn (.inr rfl)).trans hBn)
            exact cell_of_row _ _ _ _ _ _ h9
          gi_wp2
          go_roundw
          case rel => exact ⟨k + 1, HS.out.2.1, by have := HS.out.1; go_num, by rw [HS.out.2.2.2.2.2]; exact hJ3, kpB_t HS.out.2.2.1 hk3⟩
          case measure => simp [intOf]; have := HS.out; omega
        · gi_wp2
          refine bodyPost_ret (results_none rfl _ _ _) rfl ?_
          exact ⟨⟨_, rfl⟩, .inr ⟨List.range k ++ [k], by rw [← HS.out.2.2.2.2.2]; exact List.prefix_iff_eq_take.2 (by rw [List.length_range, List.take_range]; congr 1; have := HS.out.2.1; omega), hJx3⟩⟩)
    · have hkm : k = m := by omega
      subst hkm
      have hq2 : ¬ (((k * 32 : Nat) : Int) < (len : Int)) := by omega
      gi_wp2
      go_end0
      exact ⟨⟨_, rfl⟩, .inl (by rw [← hm]; exact hJs)⟩
end Go.Proofs.YtgmeahogdjhejaaGreatDoor
