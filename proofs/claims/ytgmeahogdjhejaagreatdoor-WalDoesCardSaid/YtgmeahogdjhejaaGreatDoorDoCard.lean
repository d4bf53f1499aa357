/- The law WalDoes holds for every input: the card. -/
import Derived.Test.YtgmeahogdjhejaaGreatDoorOpen
import Derived.Test.YtgmeahogdjhejaaGreatDoorCards
import Derived.Test.YtgmeahogdjhejaaGreatDoorTie
import Derived.WalkKit
import Derived.ProofKit
import Derived.OpenShut
import Derived.ShutString
import Derived.ChangeOld
import Derived.Below
import Derived.Deep.DeepHandedRow
import Derived.Lib.LaidTab
import Derived.Test.YtgmeahogdjhejaaGreatDoorWalDd
import Derived.Test.YtgmeahogdjhejaaGreatDoorWalDb
namespace Go.Proofs.YtgmeahogdjhejaaGreatDoor
set_option linter.unusedVariables false
set_option linter.unusedSimpArgs false
open Go.RowKit Go.ChangeShapes Go.WideShapes Go.Deep

theorem wf_in {q : IntKind} {a : Int} (h : (Lit.int q a).wf = true) : q.min ≤ a ∧ a ≤ q.max := by simpa [Lit.wf] using h
theorem c1_u8 : Tryz.prog.cellsOf 5 = 1 := by kernel_rfl
section
variable {H : Type} {enc : TypeId × Value → H} {w : World}
set_option maxRecDepth 100000 in
theorem bytes_arg {r : Reach} {base : Nat} {v : Value} {d : DataW H} {ps : List MemPlace} (hv : Value.okWide Tryz.prog w r base 22 v) (h : DataW.Trod enc Tryz.prog w 0 (fun _ => true) true 22 v d ps) : ∃ xs : List Int, RdS (encInt .u8) 1 w v xs ∧ ∀ x ∈ xs, 0 ≤ x ∧ x ≤ 255 := by
  obtain ⟨A, len, cap, rfl⟩ := okWide_slice Tryz.underlying22 hv
  exact rds_of_slice (enc' := encInt .u8) (k := 1) (Ok := fun b => 0 ≤ b ∧ b ≤ 255) Tryz.underlying22 c1_u8 (by omega) (fun n cs x h => by
    obtain ⟨a, e, _, wf⟩ := DataW.trod_int Tryz.underlying5 h
    exact ⟨a, e, wf_in wf⟩) h
end
theorem pown : ownKnob Tryz.prog.godebug = none := by kernel_rfl
theorem plaidOut : laidOutB Tryz.prog = true := by kernel_rfl
/-- A world for the witness: the listed error lies as its initialiser lays it. -/
abbrev tooLargeS : ByteArray := { data := #[98,121,116,101,115,46,66,117,102,102,101,114,58,32,116,111,111,32,108,97,114,103,101] }
noncomputable def low : Nat := (World.holding Tryz.prog default ⟨#[], #[], []⟩).heap.size
noncomputable def walWorld (os : Os) (args : Array Value) : World :=
  { World.holding Tryz.prog os ⟨#[.cells #[.string tooLargeS] 164], args, []⟩ with heap := (World.holding Tryz.prog os ⟨#[.cells #[.string tooLargeS] 164], args, []⟩).heap.modify 0 fun
      | .cells _ t frozen => .cells #[.iface 148 (.pointer (some ⟨low, 0, none⟩))] t frozen
      | o => o }
end Go.Proofs.YtgmeahogdjhejaaGreatDoor

namespace Go.Proofs.YtgmeahogdjhejaaGreatDoor
set_option linter.unusedVariables false
set_option linter.unusedSimpArgs false
open Go.RowKit Go.ChangeShapes Go.WideShapes Go.Deep

theorem c1_int : Tryz.prog.cellsOf 3 = 1 := by kernel_rfl
theorem c1_bs : Tryz.prog.cellsOf 22 = 1 := by kernel_rfl
theorem c5_deed : Tryz.prog.cellsOf 42 = 5 := by kernel_rfl
section
variable {H : Type} {enc : TypeId × Value → H} {w : World}
theorem bytes_of (n : Nat) (cs : List Value) (x : DataW H × List MemPlace) (h : DataW.trod enc Tryz.prog w 0 (fun _ => true) true n 22 cs = some x) : ∃ A c xs, cs = [.slice A xs.length c] ∧ RdS (encInt .u8) 1 w (.slice A xs.length c) xs ∧ ∀ b ∈ xs, (0 : Int) ≤ b ∧ b ≤ 255 := by
  rcases DataW.trod_slice Tryz.underlying22 h with ⟨rfl, _⟩ | ⟨a, len, cap, _, _, _, _, rfl, _⟩
  · exact ⟨none, 0, [], rfl, RdS.nil _ _ _, by simp⟩
  · obtain ⟨d, pl⟩ := x
    obtain ⟨xs, hr, hb⟩ := rds_of_slice (enc' := encInt .u8) (k := 1) (Ok := fun b => 0 ≤ b ∧ b ≤ 255) (d := d) (ps := pl) Tryz.underlying22 c1_u8 (by omega) (fun n cs x h => by
      obtain ⟨a, e, _, wf⟩ := DataW.trod_int Tryz.underlying5 h
      exact ⟨a, e, wf_in wf⟩) ⟨n, h⟩
    obtain ⟨A, c, he, hc⟩ := hr.len
    rw [he] at hr ⊢
    exact ⟨A, c, xs, rfl, hr, hb⟩
set_option maxRecDepth 100000 in
theorem dv_of (n : Nat) (cs : List Value) (x : DataW H × List MemPlace) (h : DataW.trod enc Tryz.prog w 0 (fun _ => true) true n 42 cs = some x) : ∃ p : DV, cs = dvCells p ∧ (RdS (encInt .u8) 1 w p.wv p.2.b ∧ p.2.Ok) := by
  obtain ⟨xs, m, _, _, hl, hlen, hf⟩ := DataW.trod_struct Tryz.underlying42 h
  rw [c5_deed] at hl
  match cs, hl, xs, hlen with
  | [c0, c1, c2, c3, c4], _, [y0, y1, y2, y3, y4], _ =>
    obtain ⟨a0, e0, _, w0⟩ := DataW.trod_int Tryz.underlying5 (hf 0 _ rfl)
    obtain ⟨A, c, ws, e1, hr, hb⟩ := bytes_of _ _ _ (hf 1 _ rfl)
    obtain ⟨a2, e2, _, w2⟩ := DataW.trod_int Tryz.underlying3 (hf 2 _ rfl)
    obtain ⟨a3, e3, _, w3⟩ := DataW.trod_int Tryz.underlying3 (hf 3 _ rfl)
    obtain ⟨a4, e4, _, w4⟩ := DataW.trod_int Tryz.underlying3 (hf 4 _ rfl)
    have g0 : c0 = .int .u8 a0 := by simpa [c1_u8] using e0
    have g1 : c1 = .slice A ws.length c := by simpa [c1_bs, c1_u8] using e1
    have g2 : c2 = .int .i64 a2 := by simpa [c1_int, c1_bs, c1_u8] using e2
    have g3 : c3 = .int .i64 a3 := by simpa [c1_int, c1_bs, c1_u8] using e3
    have g4 : c4 = .int .i64 a4 := by simpa [c1_int, c1_bs, c1_u8] using e4
    subst g0 g1 g2 g3 g4
    exact ⟨((A, c), ⟨a0, ws, a2, a3, a4⟩), rfl, hr, ⟨wf_in w0, hb, wf_in w2, wf_in w3, wf_in w4⟩⟩
set_option maxRecDepth 100000 in
theorem deeds16_arg {r : Reach} {base : Nat} {v : Value} {d : DataW H} {ps : List MemPlace} (hv : Value.okWide Tryz.prog w r base 23 v) (h : DataW.Trod enc Tryz.prog w 0 (fun _ => true) true 23 v d ps) : ∃ qs : List DV, DvR w v qs ∧ True := by
  obtain ⟨A, len, cap, rfl⟩ := okWide_slice Tryz.underlying23 hv
  obtain ⟨qs, hr, hq⟩ := rds_of_slice (enc' := dvCells) (k := 5) (Ok := fun p => RdS (encInt .u8) 1 w p.wv p.2.b ∧ p.2.Ok) Tryz.underlying23 c5_deed (by omega) dv_of h
  exact ⟨qs, ⟨hr, fun p hp => (hq p hp).1, fun p hp => (hq p hp).2⟩, trivial⟩
open Go.Joins in
set_option maxRecDepth 100000 in
theorem deed16_arg {r : Reach} {base : Nat} {v : Value} {d : DataW H} {ps : List MemPlace} (hv : Value.okWide Tryz.prog w r base 42 v) (h : DataW.Trod enc Tryz.prog w 0 (fun _ => true) true 42 v d ps) :
    ∃ q : DV, v = dvV q ∧ (RdS (encInt .u8) 1 w q.wv q.2.b ∧ q.2.Ok) := by
  obtain ⟨cs, rfl, _⟩ := okWide_struct Tryz.underlying42 hv
  obtain ⟨n, hf⟩ := h
  obtain ⟨p, hp, hq⟩ := dv_of n _ _ hf
  refine ⟨p, ?_, hq⟩
  unfold dvV
  congr 1
  exact Array.toList_inj.1 hp
end
end Go.Proofs.YtgmeahogdjhejaaGreatDoor

namespace Go.Proofs.YtgmeahogdjhejaaGreatDoor
set_option linter.unusedVariables false
set_option linter.unusedSimpArgs false
open Go.ChangeShapes Go.WideShapes Go.ChangeAt Go.RowKit
open Go.ChangeMaps (open_string shut_string)

set_option maxRecDepth 100000 in
theorem walDoes_contract (H : Type) (enc : TypeId × Value → H) (W : World) (base : Nat) (args : Array Value) (ds gs : List (DataW H)) (before : List MemPlace)
    (hval : ∀ (j : Nat) t v, Tryz.f3.params[j]? = some t → args[j]? = some v → Value.okWide Tryz.prog W .any base t v)
    (hW : DataW.Whole enc Tryz.prog Tryz.f3.params.toList Rows.walDoesSpec.vars false W args.toList ds gs before) (hsh : W.ShapedOpen Tryz.prog) :
    Calls Tryz.prog 3 args W fun e W' => ∃ v, e = .returned v ∧ Rows.walDoesSpec.post enc Tryz.prog Tryz.f3 false true false false W args v W' := by
  have hW' := hW
  obtain ⟨p, q, hA0, hV, rfl, hfz, hnd⟩ := hW
  have hA : DataW.TrodAll enc Tryz.prog W 0 (fun _ => true) true Tryz.f3.params.toList args.toList ds p := hA0
  rw [Tryz.params3] at hA hval
  obtain ⟨v0, vs0, d0, ds0, p0, q0, hargs, rfl, rfl, h0, r0⟩ := trodAll_cons hA
  obtain ⟨v1, vs1, d1, ds1, p1, q1, rfl, rfl, rfl, h1, r1⟩ := trodAll_cons r0
  obtain ⟨v2, vs2, d2, ds2, p2, q2, rfl, rfl, rfl, h2, r2⟩ := trodAll_cons r1
  obtain ⟨v3, vs3, d3, ds3, p3, q3, rfl, rfl, rfl, h3, r3⟩ := trodAll_cons r2
  obtain ⟨v4, vs4, d4, ds4, p4, q4, rfl, rfl, rfl, h4, r4⟩ := trodAll_cons r3
  obtain ⟨rfl, rfl, rfl⟩ := trodAll_nil r4
  obtain rfl : args = #[v0, v1, v2, v3, v4] := by cases args; simp_all
  obtain ⟨rfl, rfl⟩ := trodVars_none hV
  obtain ⟨a0, rfl, rfl, rfl, w0⟩ := open_int Tryz.underlying5 (hval 0 5 v0 rfl rfl) h0
  obtain ⟨a1, rfl, rfl, rfl, w1⟩ := open_int Tryz.underlying3 (hval 1 3 v1 rfl rfl) h1
  obtain ⟨a2, rfl, rfl, rfl, w2⟩ := open_int Tryz.underlying3 (hval 2 3 v2 rfl rfl) h2
  have k3 := h3
  have lt3 : ∀ x ∈ p3, x.block < W.heap.size := by obtain ⟨m, hm⟩ := k3; exact DataW.trod_lt m _ _ _ hm
  obtain ⟨xs3, rd3, in3⟩ := bytes_arg (hval 3 22 v3 rfl rfl) h3
  have k4 := h4
  have lt4 : ∀ x ∈ p4, x.block < W.heap.size := by obtain ⟨m, hm⟩ := k4; exact DataW.trod_lt m _ _ _ hm
  obtain ⟨xs4, rd4, in4⟩ := deeds16_arg (hval 4 23 v4 rfl rfl) h4
  clear hA0
  refine (does_walk a0 (wf_in w0) a1 a2 v3 v4 xs3 xs4 W rd3 in3 rd4).mono fun e W' ⟨he, hg⟩ => ?_
  have bel := hg.below
  subst he
  exact ⟨_, rfl, _, _, _, [], _, [], hW', trodAll_mk1 (shut_bool Tryz.underlying4 _), (trodAll_cons_mk (shut_int Tryz.underlying5 w0) (trodAll_cons_mk (shut_int Tryz.underlying3 w1) (trodAll_cons_mk (shut_int Tryz.underlying3 w2) (trodAll_cons_mk (Below.trod plaidOut (by kernel_rfl) (of_decide_eq_true (by kernel_rfl)) k3 bel lt3) (trodAll_cons_mk (Below.trod plaidOut (by kernel_rfl) (of_decide_eq_true (by kernel_rfl)) k4 bel lt4) trodAll_mk0))))), rfl, bel.frame _, fun h => by cases h⟩

theorem walDoes_met (os : Os) : laidMet Tryz.prog Rows.walDoesRow.laid ((walWorld os #[.int .u8 0, .int .i64 0, .int .i64 0, .slice none 0 0, .slice none 0 0]).forCall (fun _ _ => 0) ⟨#[], #[.int .u8 0, .int .i64 0, .int .i64 0, .slice none 0 0, .slice none 0 0], []⟩).memory :=
  laidMet_of_run' 8 (by kernel_rfl) (by kernel_rfl)
theorem walDoes_reads (os : Os) {H : Type} (enc : TypeId × Value → H) : ∃ places, DataW.whole enc Tryz.prog ((walWorld os #[.int .u8 0, .int .i64 0, .int .i64 0, .slice none 0 0, .slice none 0 0]).forCall (fun _ _ => 0) ⟨#[], #[.int .u8 0, .int .i64 0, .int .i64 0, .slice none 0 0, .slice none 0 0], []⟩).memory Tryz.f3.params.toList Rows.walDoesSpec.vars false #[Value.int .u8 0, .int .i64 0, .int .i64 0, .slice none 0 0, .slice none 0 0].toList 8 = some ([.lit (.int .u8 0), .lit (.int .i64 0), .lit (.int .i64 0), .nil, .nil], [], places) :=
  ⟨[], by kernel_rfl⟩
set_option maxRecDepth 100000 in
theorem walDoes_lifted (os : Os) (started : os.Started) (H : Type) (enc : TypeId × Value → H) (F : Stop.Interp) :
    ReturnsInHanded {} Tryz.checked os 3 .any ((OpenSpec.ofChange Rows.walDoesSpec).preRow enc Tryz.prog Tryz.f3 Rows.walDoesRow.domain false Rows.walDoesRow.laid) (((OpenSpec.ofChange Rows.walDoesSpec).at F).post enc Tryz.prog Tryz.f3 false true false false) := by
  obtain ⟨places, hx⟩ := walDoes_reads os enc
  refine returnsInHanded_of_row (C := Tryz.checked) (s := OpenSpec.ofChange Rows.walDoesSpec) pown started (by kernel_rfl) Tryz.func3
    (witness_row_at (enc := enc) (C := Tryz.checked) false (walWorld os #[.int .u8 0, .int .i64 0, .int .i64 0, .slice none 0 0, .slice none 0 0]) #[.int .u8 0, .int .i64 0, .int .i64 0, .slice none 0 0, .slice none 0 0] rfl (by kernel_rfl) (by kernel_rfl) (by kernel_rfl)
      (OpenSpec.preRow_of_cond 8 hx (by kernel_rfl) (fun k hk => by cases hk) (by kernel_rfl) (walDoes_met os))) ?_
  intro W base args ds gs before hval hW _ hcond _ _ hsh _
  exact walDoes_contract H enc W base args ds gs before hval hW hsh
theorem walDoes_said : Rows.WalDoesSaid :=
  OpenClaim.holds_of_cond 3 Tryz.f3 rfl rfl rfl rfl rfl rfl rfl ⟨rfl, rfl, rfl, rfl, rfl⟩ rfl rfl rfl rfl rfl (by kernel_rfl) Tryz.func3 (by kernel_rfl)
    (of_decide_eq_true (by kernel_rfl)) (by unfold Func.isWrapper; first | (rw [if_pos (by decide +kernel)]; kernel_rfl) | (rw [if_neg (by decide +kernel)]; exact ⟨rfl, rfl⟩))
    (fun os started H enc _ F => by rw [OpenClaim.pre_eq_preRow]; exact walDoes_lifted os started H enc F)
theorem walDoes_plain (f : FuncId) (fn : Func) (hf : Tryz.pinned.checked.prog.funcNamed "garderobe/garderobelaw16.WalDoes" = some f) (hfn : Tryz.pinned.checked.prog.funcs[f]? = some fn) :
    false = Tryz.pinned.checked.prog.looks [] ∧ ∀ (j : Nat) t, fn.params[j]? = some t → Tryz.pinned.checked.prog.wantsStandIn t = false := by
  obtain rfl : f = 3 := Option.some.inj ((show Tryz.prog.funcNamed "garderobe/garderobelaw16.WalDoes" = some 3 by kernel_rfl).symm.trans hf) |>.symm
  obtain rfl : fn = Tryz.f3 := (Option.some.inj (Tryz.func3.symm.trans hfn)).symm
  refine ⟨by kernel_rfl, fun j t ht => ?_⟩
  rw [Tryz.params3] at ht
  have hm : t ∈ [5, 3, 3, 22, 23] := by simpa using Array.mem_of_getElem? ht
  simp only [List.mem_cons, List.not_mem_nil, or_false] at hm
  rcases hm with rfl | rfl | rfl | rfl | rfl
  · exact (show Tryz.prog.wantsStandIn 5 = false by kernel_rfl)
  · exact (show Tryz.prog.wantsStandIn 3 = false by kernel_rfl)
  · exact (show Tryz.prog.wantsStandIn 3 = false by kernel_rfl)
  · exact (show Tryz.prog.wantsStandIn 22 = false by kernel_rfl)
  · exact (show Tryz.prog.wantsStandIn 23 = false by kernel_rfl)
/-- THE STATEMENT. -/
theorem walDoes_holds : Rows.WalDoesCardSaid :=
  Claim7.holds_tied_plain_at .later [] _ _ _ _ walDoes_said (fun _ h => by cases h) (by kernel_rfl) (fun _ h => by cases h) walDoes_row_tie rfl ⟨rfl, rfl⟩ (by kernel_rfl) rfl walDoes_plain (by kernel_rfl)
#print axioms walDoes_holds
end Go.Proofs.YtgmeahogdjhejaaGreatDoor
