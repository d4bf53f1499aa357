/- Spans: slices.Values, slices.Collect over spans. -/
import Derived.Test.YtmfcccflohpjiaaGreatDoorOpen
import Derived.Test.YtmfcccflohpjiaaGreatDoorMake
import Derived.Test.YtmfcccflohpjiaaGreatDoorProg
import Derived.RangeFuncNested
import Derived.RangeFuncLeaves
import Derived.Shelf.Abstract
import Derived.WalkKit
import Derived.OwnWalkIn
import Derived.TacticsInMore
import Derived.LoopNIn
import Derived.LoopIn
import Derived.Maps.AppendAt
namespace Go.Proofs.YtmfcccflohpjiaaGreatDoor
set_option linter.unusedVariables false
set_option linter.unusedSimpArgs false
open Go.RowKit Go.Shelf

structure Sp where
  at_ : Int
  len : Int
def Sp.cells (s : Sp) : List Value := [.int .i64 s.at_, .int .i64 s.len]
def Sp.val (s : Sp) : Value := .agg #[.int .i64 s.at_, .int .i64 s.len]
theorem Sp.clen (s : Sp) : s.cells.length = 2 := rfl
theorem Sp.one (s : Sp) : ∀ u ∈ s.cells, u.oneCell' = true := by intro u hu; simp [Sp.cells] at hu; rcases hu with rfl | rfl <;> rfl
theorem tinfo73 : (Tryz.prog.info? 73).map (fun i => (i.zero, i.size, i.bytes)) = some (some (.agg #[.int .i64 0, .int .i64 0]), 2, 16) := by kernel_rfl
theorem info73 : (Tryz.prog.info? 73).map (·.size) = some 2 := by kernel_rfl

section
variable {F : Fence} {n : Nat} {P : Program} {ops : Array Oper} {rest : List Oper} {o : Oper} {a : Act} {w w' : World} {Q : Exit → Act → World → Prop}
theorem IL_value (hgd : o.guard = none) {v : Value} (hs : ∀ c, o.op ≠ .defer c) (hab : o.about P w a.eval = none) (hr : (execOp a.eval o).run P w = .ok (.value v) w') (k : wpListIn F n P ops Q rest (a.put o.dst v) w') : wpListIn F n P ops Q (o :: rest) a w := by
  refine wpListIn_plain hgd fun K hK => ⟨(fun f h => by rw [hab] at h; cases h), ?_⟩
  rw [Oper.semAt_plain F a.eval o hs, hr]
  exact hK _ _ k
theorem IL_skip (hgd : o.guard = none) (hs : ∀ c, o.op ≠ .defer c) (hab : o.about P w a.eval = none) (hr : (execOp a.eval o).run P w = .ok .skip w') (k : wpListIn F n P ops Q rest (a.put o.dst undef) w') : wpListIn F n P ops Q (o :: rest) a w := by
  refine wpListIn_plain hgd fun K hK => ⟨(fun f h => by rw [hab] at h; cases h), ?_⟩
  rw [Oper.semAt_plain F a.eval o hs, hr]
  exact hK _ _ k
theorem R_alloc {ty : TypeId} (ho : o.op = .alloc ty) {z : Value} (hz : ∀ w, (zeroValue ty).run P w = .ok z w) : (execOp a.eval o).run P w = .ok (.value (.pointer (some ⟨w.heap.size, 0, none⟩))) (w.alloc (.cells z.cells ty)) := by
  unfold execOp
  simp only [ho, Instr.alloc, newVar, newRow, Sem.run_bind, Sem.run_pure, Result.andThen_ok, hz]
  simp
end

/-- The slice value v reads as the spans xs, in a block below n₀ (or there is none). -/
def SpB (n₀ : Nat) (w : World) (v : Value) (xs : List Sp) : Prop :=
  ∃ A cap, v = .slice A xs.length cap ∧ (xs = [] ∨ ∃ b off cs T fr, A = some ⟨b, off, none⟩ ∧ b < n₀ ∧ w.heap[b]? = some (.cells cs T fr) ∧ ∀ j (h : j < xs.length) i, i < 2 → cs[off + j * 2 + i]? = (xs[j].cells)[i]?)
theorem SpB.below {n₀ : Nat} {w w' : World} {v : Value} {xs : List Sp} (h : SpB n₀ w v xs) (hb : Below n₀ w w') : SpB n₀ w' v xs := by
  obtain ⟨A, cap, rfl, h | ⟨b, off, cs, T, fr, rfl, hlt, hg, hc⟩⟩ := h
  · exact ⟨A, cap, rfl, .inl h⟩
  · exact ⟨_, cap, rfl, .inr ⟨b, off, cs, T, fr, rfl, hlt, (hb.block b hlt).trans hg, hc⟩⟩
theorem SpB.of {w : World} {v : Value} {xs : List Sp} (h : RdS Sp.cells 2 w v xs) : SpB w.heap.size w v xs := by
  obtain ⟨A, cap, rfl, hc, h | ⟨b, off, cs, T, fr, rfl, hg, hcs⟩⟩ := h
  · exact ⟨A, cap, rfl, .inl h⟩
  · exact ⟨_, cap, rfl, .inr ⟨b, off, cs, T, fr, rfl, blk_lt' hg, hg, hcs⟩⟩

theorem zero73 (w : World) : (zeroValue 73).run Tryz.prog w = .ok (.agg #[.int .i64 0, .int .i64 0]) w := by rw [Tryz.zeroValue73]

attribute [local go_sem] Oper.semAt_some
set_option maxRecDepth 100000 in
set_option maxHeartbeats 2000000 in
theorem values1_in (F : Fence) (n : Nat) (h67 : F.fn 83) (hro : F.round = none) (hn : 1 ≤ n) (l Bs n₀ : Nat) (sv : Value) (xs : List Sp) (hlen : xs.length ≤ 1000000) (J Jx : List Sp → World → Prop)
    (hY : ∀ pre x W, J pre W → pre.length < xs.length → YieldAt F (n - 1) Tryz.prog l #[x.val] W fun e W' => (e = .returned (.bool true) ∧ J (pre ++ [x]) W' ∧ Below n₀ W W') ∨ (e = .returned (.bool false) ∧ Jx (pre ++ [x]) W'))
    (W : World) (hab : AbidesFrom W.heap.size J) (hn₀ : n₀ ≤ W.heap.size) (hBs : W.cell? ⟨Bs, 0, none⟩ = some sv) (hI : SpB n₀ W sv xs) (h0 : J [] W) :
    CallsIn F n Tryz.prog 83 #[.func (.yield l) #[] #[], .pointer (some ⟨Bs, 0, none⟩)] W fun e W' => (∃ v, e = .returned v) ∧ ((∃ ys, ys = xs ∧ J ys W') ∨ (∃ pre, pre <+: xs ∧ Jx pre W')) := by
  obtain ⟨A, cap, rfl, hA⟩ := hI
  refine callsIn_of_wp Tryz.func83 rfl h67 ?_ hro
  simp only [Tryz.ntmps83, List.size_toArray, List.length_cons, List.length_nil, Nat.reduceAdd, Nat.reduceSub, Array.replicate_succ, Array.replicate_zero, List.push_toArray, List.append_toArray, List.nil_append, List.cons_append]
  gi_wp2
  gi_loopw [7] (fun i wr => ∃ k : Nat, k ≤ xs.length ∧ i = .int .i64 k ∧ J (xs.take k) wr ∧ Below n₀ W wr) (fun i _ => xs.length - (intOf i).toNat)
  case atStart => exact ⟨0, Nat.zero_le _, rfl, h0, Below.refl _ _⟩
  case round =>
    obtain ⟨k, hk, rfl, hJs, hnx⟩ := hrel
    by_cases hlt : k < xs.length
    · have hki : (k : Int) < xs.length := by omega
      rcases hA with rfl | ⟨b, off, cs, T, fr, rfl, hb, hg, hcs⟩
      · simp at hlt
      · have hgr := (hnx.block b hb).trans hg
        have hck := hcs k hlt
        generalize hx : xs[k] = x at hck
        have hsn : xs.take (k + 1) = xs.take k ++ [x] := by rw [List.take_add_one, List.getElem?_eq_getElem hlt, hx]; rfl
        have HS := Lib.hid hsn
        clear hsn hx
        have hJ2 : J (xs.take k) (wr.alloc (.cells #[.int .i64 x.at_, .int .i64 x.len] 73)) := hab (xs.take k) wr _ none hJs ⟨rfl, rfl, rfl, by simp, fun j hj _ => Below.heap_alloc _ _ _ hj⟩ (fun r e => by cases e)
        have hB2 : Below n₀ W (wr.alloc (.cells #[.int .i64 x.at_, .int .i64 x.len] 73)) := hnx.alloc (Nat.le_trans hn₀ hnx.size) _
        obtain ⟨fn, tmps, assign, body, hy, hR⟩ := hY (xs.take k) x _ hJ2 (by rw [List.length_take]; omega)
        dsimp only [Sp.val] at hy
        clear hJs hnx
        have H : SH (fun _ => False) wr wr [] := SH.nil _ _
        gi_wp2_with (first
          | (refine IL_value rfl (by intro c h; cases h) rfl (R_loadmid (b := b) (off := off + k * 2) rfl rfl hgr Tryz.underlying73 rfl info73 [.int .i64 x.at_, .int .i64 x.len] rfl hck) ?_)
          | (refine IL_value rfl (by intro c h; cases h) rfl (R_alloc rfl zero73) ?_; replace H := H.alloc (.cells #[.int .i64 0, .int .i64 0] 73))
          | (refine IL_skip rfl (by intro c h; cases h) rfl (R_storemid rfl H 0 (off := 0) (vs := #[.int .i64 x.at_, .int .i64 x.len]) rfl rfl rfl info73 rfl (Nat.le_refl _) rfl) ?_; replace H := H.setMid 0 rfl 0 [.int .i64 x.at_, .int .i64 x.len]; simp only [List.set_cons_zero] at H)
          | (refine IL_value rfl (by intro c h; cases h) rfl (R_loadrow H 0 (cs := #[.int .i64 x.at_, .int .i64 x.len]) rfl rfl rfl Tryz.underlying73 rfl info73 rfl) ?_))
        refine hR.mono ?_
        rintro e W3 (⟨rfl, hJ3, hk3⟩ | ⟨rfl, hJx3⟩)
        · gi_wp2
          go_roundw
          case rel => exact ⟨k + 1, hlt, by go_num, by rw [HS.out]; exact hJ3, hB2.trans hk3⟩
          case measure => simp [intOf]; omega
        · gi_wp2
          refine bodyPost_ret (results_none rfl _ _ _) rfl ?_
          exact ⟨⟨_, rfl⟩, .inr ⟨xs.take k ++ [x], by rw [← HS.out]; exact List.take_prefix _ _, hJx3⟩⟩
    · obtain rfl : k = xs.length := by omega
      gi_wp2
      go_end0
      exact ⟨⟨_, rfl⟩, .inl ⟨_, rfl, by rwa [List.take_length] at hJs⟩⟩
end Go.Proofs.YtmfcccflohpjiaaGreatDoor
