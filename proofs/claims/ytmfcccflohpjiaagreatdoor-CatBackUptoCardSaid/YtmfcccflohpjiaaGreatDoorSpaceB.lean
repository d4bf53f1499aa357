/- Spans: slices.Values hands back an iterator over the spans; slices.AppendSeq, slices.Collect. -/
import Derived.Test.YtmfcccflohpjiaaGreatDoorSpaceA
import Derived.RangeFuncBox
import Derived.RangeFuncFrom
namespace Go.Proofs.YtmfcccflohpjiaaGreatDoor
set_option linter.unusedVariables false
set_option linter.unusedSimpArgs false
open Go.RowKit Go.Shelf
attribute [local go_sem] Oper.semAt_some

theorem values_in (F : Fence) (n : Nat) (h59 : F.fn 73) (hro : F.round = none) (A : Option Addr) (len cap : Nat) (w : World) :
    CallsIn F n Tryz.prog 73 #[.slice A len cap] w fun e w' => e = .returned (.func (.func 83) #[] #[.pointer (some ⟨w.heap.size, 0, none⟩)]) ∧ w' = w.alloc (.cells #[.slice A len cap] 71) := by
  refine callsIn_of_wp Tryz.func73 rfl h59 ?_ hro
  simp only [Tryz.ntmps73, List.size_toArray, List.length_cons, List.length_nil, Nat.reduceAdd, Nat.reduceSub, Array.replicate_succ, Array.replicate_zero, List.push_toArray, List.append_toArray, List.nil_append, List.cons_append]
  gi_wp2
  go_ret
  exact ⟨rfl, rfl⟩

theorem values_stops (F : Fence) (n : Nat) (h67 : F.fn 83) (hro : F.round = none) (hn : 1 ≤ n) (Bs n₀ : Nat) (sv : Value) (xs : List Sp) (hlen : xs.length ≤ 1000000) (w : World) (hBs : Bs < w.heap.size) (hn₀ : n₀ ≤ w.heap.size)
    (hc : w.cell? ⟨Bs, 0, none⟩ = some sv) (hI : SpB n₀ w sv xs) :
    SeqStopsK F n Tryz.prog 83 #[.pointer (some ⟨Bs, 0, none⟩)] (fun x : Sp => #[x.val]) (Below n₀) (fun ys => ys = xs) (fun pre => pre <+: xs) xs.length w := fun l J Jx W hW hJ _ hY h0 => by
  have hc' := (hW.cell (p := ⟨Bs, 0, none⟩) hBs).trans hc
  exact values1_in F n h67 hro hn l Bs n₀ sv xs hlen J Jx hY W hJ (Nat.le_trans hn₀ hW.size) hc' (hI.below (hW.mono hn₀)) h0

theorem two_new (w : World) (x : Sp) : ∀ (j : Nat) u, x.cells[j]? = some u → (w.alloc (.cells #[.int .i64 x.at_, .int .i64 x.len] 73)).cell? (Addr.add ⟨w.heap.size, 0, none⟩ j) = some u := fun j u h => by
  rw [show Addr.add ⟨w.heap.size, 0, none⟩ j = ⟨w.heap.size, j, none⟩ by rw [Addr.add_mid, Nat.zero_add], World.cell?_alloc_at _ _ _ _ rfl]
  match j, h with
  | 0, h => exact h
  | 1, h => exact h

def apTmps (fv : Value) (Bs B : Nat) (x : Sp) : Array Value := #[.slice none 0 0, fv, .pointer (some ⟨Bs, 0, none⟩), undef, .slice none 0 0, .pointer (some ⟨B, 0, none⟩), fv, x.val, undef, undef, undef, undef, undef]
set_option maxRecDepth 100000 in
set_option maxHeartbeats 2000000 in
/-- slices.AppendSeq(nil, slices.Values(xs)). -/
theorem appendSeq_in (F : Fence) (n : Nat) (h72 : F.fn 90) (h67 : F.fn 83) (hro : F.round = none) (hn : 3 ≤ n) (Bv : Nat) (sv : Value) (xs : List Sp) (hlen : xs.length ≤ 1000000) (w : World) (hBv : Bv < w.heap.size)
    (hc : w.cell? ⟨Bv, 0, none⟩ = some sv) (hI : SpB w.heap.size w sv xs) :
    CallsIn F n Tryz.prog 90 #[.slice none 0 0, .func (.func 83) #[] #[.pointer (some ⟨Bv, 0, none⟩)]] w fun e W' =>
      ∃ v, e = .returned v ∧ W'.ownsRow w.heap.size 73 2 v xs.length (cellsOf Sp.cells xs) ∧ Below w.heap.size w W' := by
  have h1 : 1 ≤ n := by omega
  obtain ⟨i0, hi, hz0, hz1, hz2⟩ := info_parts tinfo73
  refine callsIn_of_wp_marks Tryz.func90 rfl h72 ?_ hro
  simp only [Tryz.ntmps90, List.size_toArray, List.length_cons, List.length_nil, Nat.reduceAdd, Nat.reduceSub, Array.replicate_succ, Array.replicate_zero, List.push_toArray, List.append_toArray, List.nil_append, List.cons_append]
  gi_wp2
  have bO := Boxed.new w 71 (.slice none 0 0)
  have hB0 : Below w.heap.size w (w.alloc (.cells #[.slice none 0 0] 71)) := (Below.refl _ w).alloc (Nat.le_refl _) _
  refine wpIn_rangeFunc_ownH hro h1 (gf := 83) (lb := #[.pointer (some ⟨Bv, 0, none⟩)]) rfl h67 (enters_of Tryz.func83 (by kernel_rfl) rfl)
    (values_stops F (n - 1) h67 hro (by omega) Bv w.heap.size sv xs hlen _ (by simp; omega) (by simp) (hB0.cell (p := ⟨Bv, 0, none⟩) hBv |>.trans hc) (hI.below hB0)) belowK_t (belowK_b (by simp)) (Below.refl _ _) (fun _ => rfl)
    (fun pre W => (∃ v, Boxed W w.heap.size 71 v ∧ W.ownsRow w.heap.size 73 2 v pre.length (cellsOf Sp.cells pre) ∧ True) ∧ Below w.heap.size w W)
    (fun _ _ _ => False)
    (OwnFrom.and (Own.from (holdsRow_own w.heap.size w.heap.size 71 73 2 (fun pre => pre.length) (fun pre => cellsOf Sp.cells pre) (fun _ _ => True)) _) (ownFrom_below (Nat.le_refl _) (by simp)))
    (fun _ _ _ _ _ hs _ _ => hs)
    ⟨⟨_, bO, World.ownsRow_nil _ _ _ _, trivial⟩, hB0⟩
    (fun x a' W => ∃ B, w.heap.size < B ∧ W.heap[B]? = some (.cells #[.int .i64 x.at_, .int .i64 x.len] 73 (0, 0)) ∧ a' = { tmps := apTmps (.func (.func 83) #[] #[.pointer (some ⟨Bv, 0, none⟩)]) w.heap.size B x, defers := [] })
    (fun x a' _ X Y row ⟨B, hB, hx, ha⟩ hg hr => ⟨B, hB, (hg.block B (blk_lt' hx) (fun e => by obtain ⟨_, o, ho, hc⟩ := hr B e.symm; rw [hx] at ho; cases ho; cases hc)).trans hx, ha⟩) ?assign ?body ?done ?stop
  case assign =>
    rintro l pre x W K ⟨⟨v, hv, hrow, _⟩, hB⟩ hK
    have H : SH (fun _ => False) W W [] := SH.nil _ _
    dsimp only [Sp.val]
    gi_wp2_with (first
      | (refine IL_value rfl (by intro c h; cases h) rfl (R_alloc rfl zero73) ?_; replace H := H.alloc (.cells #[.int .i64 0, .int .i64 0] 73))
      | (refine IL_skip rfl (by intro c h; cases h) rfl (R_storemid rfl H 0 (off := 0) (vs := #[.int .i64 x.at_, .int .i64 x.len]) rfl rfl rfl info73 rfl (Nat.le_refl _) rfl) ?_; replace H := H.setMid 0 rfl 0 [.int .i64 x.at_, .int .i64 x.len]; simp only [List.set_cons_zero] at H))
    exact hK _ _ ((KeepsOthers.alloc W _).from _) ((Below.refl _ W).alloc hB.size _) ⟨⟨v, hv.alloc _, hrow.alloc _, trivial⟩, hB.alloc hB.size _⟩ ⟨W.heap.size, blk_lt' hv, heap_alloc_new W _, rfl⟩
  case body =>
    rintro l pre x a' W hl hrl ⟨⟨v, hv, hrow, _⟩, hB⟩ ⟨B, hlt, hx, rfl⟩ hpre
    have hc := hv.cell
    unfold apTmps
    dsimp only [Sp.val]
    have hck : ∀ j, j < 2 → (#[Value.int .i64 x.at_, .int .i64 x.len] : Array Value)[0 + j]? = [Value.int .i64 x.at_, .int .i64 x.len][j]? := fun j _ => by rw [Nat.zero_add]; simp
    gi_wp2_with (first
      | (refine IL_value rfl (by intro c h; cases h) rfl (R_loadmid (b := B) (off := 0) rfl rfl hx Tryz.underlying73 rfl info73 [.int .i64 x.at_, .int .i64 x.len] rfl hck) ?_)
      | (gi_at_builtin; refine wpListIn_append_own _ rfl _ _ 71 rfl w.heap.size 73 i0 (.agg #[.int .i64 0, .int .i64 0]) 2 16 Tryz.underlying71 hi hz0 hz1 hz2 rfl (by decide) _ _ _ rfl (hrow.alloc _) ⟨W.heap.size, 0, none⟩ 1 1 x.cells rfl rfl (two_new W x) x.one (by simp [maxLen]; omega) (by omega) (by have := hB.size; simp; omega) ?_; intro v' w1 hown' hgrow _; obtain ⟨g', cap', rfl⟩ := ownsRow_succ hown'; obtain ⟨hv1, hv2, hr2, hk2, hb2⟩ := hv.appended (by decide) hrow hB.size (Nat.le_refl _) hown' hgrow; have hc1 := hv1.cell; have hf1 := hv1.frozen))
    exact ⟨hk2.from _, hb2, ⟨_, hv2, by rw [cellsOf_append, cellsOf_one]; simpa using hr2, trivial⟩, hB.trans hb2⟩
  case done =>
    rintro D ys W hD rfl ⟨⟨v, hv, hrow, _⟩, hB⟩ hK
    have hc := hv.cell
    gi_wp2
    refine ⟨by simp, .inl ⟨_, _, rfl, run_takeDeferred hK, ?_⟩⟩
    exact ⟨_, results_tmp rfl _ _ _, v, rfl, ownsRow_putObj hrow _ hK rfl, hB.trans (belowK_b (w := w) (Nat.le_refl _) W D _ _ (by simp at hD; omega) hK rfl rfl)⟩
  case stop =>
    rintro D c pre W _ _ h _
    exact h.elim

/-- slices.Collect(slices.Values(xs)). -/
theorem collect_any (Bv : Nat) (sv : Value) (xs : List Sp) (hlen : xs.length ≤ 1000000) (w : World) (hBv : Bv < w.heap.size)
    (hc : w.cell? ⟨Bv, 0, none⟩ = some sv) (hI : SpB w.heap.size w sv xs) :
    Calls Tryz.prog 81 #[.func (.func 83) #[] #[.pointer (some ⟨Bv, 0, none⟩)]] w fun e W' =>
      ∃ v, e = .returned v ∧ W'.ownsRow w.heap.size 73 2 v xs.length (cellsOf Sp.cells xs) ∧ Below w.heap.size w W' := by
  have ha := callsIn_wide.1 (appendSeq_in Fence.wide 3 trivial trivial rfl (Nat.le_refl _) Bv sv xs hlen w hBv hc hI)
  go_enter Tryz.func81, Tryz.ntmps81
  go_wp2_with (go_at_call 90; refine ha.mono ?_; rintro e w' ⟨v, rfl, h1, h2⟩)
  go_ret
  exact ⟨v, rfl, h1, h2⟩
end Go.Proofs.YtmfcccflohpjiaaGreatDoor
