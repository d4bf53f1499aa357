/- The disk of the program: what survives; Crash. -/
import Derived.Test.YtgmeahogdjhejaaDoorWalDD
import Derived.Laws.CopyRow
namespace Go.Proofs.YtgmeahogdjhejaaDoor
set_option linter.unusedVariables false
set_option linter.unusedSimpArgs false
open Go.RowKit

theorem R_copy {P : Program} {a : Act} {w w' : World} {o : Oper} {d s : Operand} {t t' : TypeId} (ho : o.op = .call { callee := .builtin .copy, args := #[d, s], argTypes := #[t, t'] }) {v u : Value} (hd : a.eval d = v) (hs : a.eval s = u) {v' : Value}
    (hr : (Builtin.copy_ #[t, t'] o.type #[v, u]).run P w = .ok v' w') {K : Act → World → Prop} {Q : Exit → Act → World → Prop} (h : K (a.put o.dst v') w') : o.wp P a w K Q := by
  unfold Oper.wp execOp
  simp only [ho, resolve, invoke, builtin, Sem.run_bind, Sem.run_pure, Result.andThen_ok, List.map_toArray, List.map_cons, List.map_nil, hd, hs, hr]
  exact h

def keepBit (keep number : Int) : Bool := bits BinOp.and IntKind.i64 (keep / 2 ^ number.toNat) 1 == 1
def St.torn (s n : St) (c : Int) : St := ⟨n.bytes.take c.toNat ++ s.bytes.drop c.toNat, s.wr⟩
def surv (s n : St) (number keep torn cut : Int) : St :=
  if number = torn then (if 32 ≤ cut then n else s.torn n cut) else if number < 62 ∧ keepBit keep number = true then n else s
theorem surv_ok {s n : St} (hs : s.Ok) (hn : n.Ok) (number keep torn cut : Int) : (surv s n number keep torn cut).Ok := by
  unfold surv
  split
  · split
    · exact hn
    · refine ⟨by simp [St.torn, hs.1, hn.1]; omega, fun x hx => ?_⟩
      simp only [St.torn, List.mem_append] at hx
      rcases hx with hx | hx
      · exact hn.2 x (List.mem_of_mem_take hx)
      · exact hs.2 x (List.mem_of_mem_drop hx)
  · split <;> assumption

set_option maxRecDepth 100000 in
set_option maxHeartbeats 1000000 in
theorem surv_now (s n : St) (number keep torn cut : Int) (w : World) (hn : n.Ok) (h : number = torn ∧ 32 ≤ cut) :
    Calls Tryd.prog 43 #[s.val, n.val, .int .i64 number, .int .i64 keep, .int .i64 torn, .int .i64 cut] w fun e w' => e = .returned n.val ∧ Ext0 w w' := by
  obtain ⟨rfl, hc⟩ := h
  have H : SH (fun _ => False) w w [] := SH.nil _ _
  have hsz := St.size_arr hn
  have hone := St.one_cells n
  go_enter Tryd.func43, Tryd.ntmps43
  go_wp2_with (first | (refine L_alloc rfl rfl H zero83 ?_; clear H; intro g w H; (try simp only [Act.put, List.setIfInBounds_toArray, List.set_cons_succ, List.set_cons_zero, List.getElem_toArray, List.getElem_cons_succ, List.getElem_cons_zero])) | (refine L_loadrow rfl rfl H 0 rfl rfl Tryd.underlying83 rfl info83 ?hn ?_; (case hn => first | rfl | assumption | (simp only [List.size_toArray]; assumption)); (try simp only [Act.put, List.setIfInBounds_toArray, List.set_cons_succ, List.set_cons_zero, List.getElem_toArray, List.getElem_cons_succ, List.getElem_cons_zero])) | (refine L_loadrow rfl rfl H 1 rfl rfl Tryd.underlying83 rfl info83 ?hn ?_; (case hn => first | rfl | assumption | (simp only [List.size_toArray]; assumption)); (try simp only [Act.put, List.setIfInBounds_toArray, List.set_cons_succ, List.set_cons_zero, List.getElem_toArray, List.getElem_cons_succ, List.getElem_cons_zero])) | (refine L_loadrow rfl rfl H 2 rfl rfl Tryd.underlying83 rfl info83 ?hn ?_; (case hn => first | rfl | assumption | (simp only [List.size_toArray]; assumption)); (try simp only [Act.put, List.setIfInBounds_toArray, List.set_cons_succ, List.set_cons_zero, List.getElem_toArray, List.getElem_cons_succ, List.getElem_cons_zero])) | (refine L_storerow rfl rfl H 0 rfl rfl rfl info83 ?hn ?ho ?h1 ?_; (case hn => first | rfl | assumption); (case ho => first | rfl | assumption); (case h1 => first | assumption | exact St.one_cells _ | rfl); clear H; intro w H; simp only [List.set_cons_zero, List.set_cons_succ, List.setIfInBounds_toArray, Act.eval, Array.getD_eq_getD_getElem?, List.getElem?_toArray, List.getElem?_cons_succ, List.getElem?_cons_zero, Option.getD_some] at H; (try simp only [Act.put, List.setIfInBounds_toArray, List.set_cons_succ, List.set_cons_zero, List.getElem_toArray, List.getElem_cons_succ, List.getElem_cons_zero])) | (refine L_storerow rfl rfl H 1 rfl rfl rfl info83 ?hn ?ho ?h1 ?_; (case hn => first | rfl | assumption); (case ho => first | rfl | assumption); (case h1 => first | assumption | exact St.one_cells _ | rfl); clear H; intro w H; simp only [List.set_cons_zero, List.set_cons_succ, List.setIfInBounds_toArray, Act.eval, Array.getD_eq_getD_getElem?, List.getElem?_toArray, List.getElem?_cons_succ, List.getElem?_cons_zero, Option.getD_some] at H; (try simp only [Act.put, List.setIfInBounds_toArray, List.set_cons_succ, List.set_cons_zero, List.getElem_toArray, List.getElem_cons_succ, List.getElem_cons_zero])) | (refine L_storerow rfl rfl H 2 rfl rfl rfl info83 ?hn ?ho ?h1 ?_; (case hn => first | rfl | assumption); (case ho => first | rfl | assumption); (case h1 => first | assumption | exact St.one_cells _ | rfl); clear H; intro w H; simp only [List.set_cons_zero, List.set_cons_succ, List.setIfInBounds_toArray, Act.eval, Array.getD_eq_getD_getElem?, List.getElem?_toArray, List.getElem?_cons_succ, List.getElem?_cons_zero, Option.getD_some] at H; (try simp only [Act.put, List.setIfInBounds_toArray, List.set_cons_succ, List.set_cons_zero, List.getElem_toArray, List.getElem_cons_succ, List.getElem_cons_zero])) | (refine L_box rfl rfl H rfl rfl ?_; clear H; intro g w H; (try simp only [Act.eval, Array.getD_eq_getD_getElem?, List.getElem?_toArray, List.getElem?_cons_succ, List.getElem?_cons_zero, Option.getD_some, Value.cells] at H); (try simp only [Act.put, List.setIfInBounds_toArray, List.set_cons_succ, List.set_cons_zero, List.getElem_toArray, List.getElem_cons_succ, List.getElem_cons_zero])))
  (try simp only [Exit.inBlock, Exit.then])
  exact L_retrow rfl H 0 rfl rfl Tryd.underlying83 rfl info83 hsz rfl ⟨rfl, H.ext⟩

set_option maxRecDepth 100000 in
set_option maxHeartbeats 1000000 in
theorem surv_bit1 (s n : St) (number keep torn cut : Int) (w : World) (hs : s.Ok) (hn : n.Ok) (h : number ≠ torn) (h0 : 0 ≤ number) (h62 : number < 62) (hb : keepBit keep number = true) :
    Calls Tryd.prog 43 #[s.val, n.val, .int .i64 number, .int .i64 keep, .int .i64 torn, .int .i64 cut] w fun e w' => e = .returned n.val ∧ Ext0 w w' := by
  unfold keepBit at hb
  have he : (number == torn) = false := by simp [h]
  have H : SH (fun _ => False) w w [] := SH.nil _ _
  have hsz := St.size_arr hn
  have hsz2 := St.size_arr hs
  go_enter Tryd.func43, Tryd.ntmps43
  go_wp2_with (first | (refine L_alloc rfl rfl H zero83 ?_; clear H; intro g w H; (try simp only [Act.put, List.setIfInBounds_toArray, List.set_cons_succ, List.set_cons_zero, List.getElem_toArray, List.getElem_cons_succ, List.getElem_cons_zero])) | (refine L_loadrow rfl rfl H 0 rfl rfl Tryd.underlying83 rfl info83 ?hn ?_; (case hn => first | rfl | assumption | (simp only [List.size_toArray]; assumption)); (try simp only [Act.put, List.setIfInBounds_toArray, List.set_cons_succ, List.set_cons_zero, List.getElem_toArray, List.getElem_cons_succ, List.getElem_cons_zero])) | (refine L_loadrow rfl rfl H 1 rfl rfl Tryd.underlying83 rfl info83 ?hn ?_; (case hn => first | rfl | assumption | (simp only [List.size_toArray]; assumption)); (try simp only [Act.put, List.setIfInBounds_toArray, List.set_cons_succ, List.set_cons_zero, List.getElem_toArray, List.getElem_cons_succ, List.getElem_cons_zero])) | (refine L_loadrow rfl rfl H 2 rfl rfl Tryd.underlying83 rfl info83 ?hn ?_; (case hn => first | rfl | assumption | (simp only [List.size_toArray]; assumption)); (try simp only [Act.put, List.setIfInBounds_toArray, List.set_cons_succ, List.set_cons_zero, List.getElem_toArray, List.getElem_cons_succ, List.getElem_cons_zero])) | (refine L_storerow rfl rfl H 0 rfl rfl rfl info83 ?hn ?ho ?h1 ?_; (case hn => first | rfl | assumption); (case ho => first | rfl | assumption); (case h1 => first | assumption | exact St.one_cells _ | rfl); clear H; intro w H; simp only [List.set_cons_zero, List.set_cons_succ, List.setIfInBounds_toArray, Act.eval, Array.getD_eq_getD_getElem?, List.getElem?_toArray, List.getElem?_cons_succ, List.getElem?_cons_zero, Option.getD_some] at H; (try simp only [Act.put, List.setIfInBounds_toArray, List.set_cons_succ, List.set_cons_zero, List.getElem_toArray, List.getElem_cons_succ, List.getElem_cons_zero])) | (refine L_storerow rfl rfl H 1 rfl rfl rfl info83 ?hn ?ho ?h1 ?_; (case hn => first | rfl | assumption); (case ho => first | rfl | assumption); (case h1 => first | assumption | exact St.one_cells _ | rfl); clear H; intro w H; simp only [List.set_cons_zero, List.set_cons_succ, List.setIfInBounds_toArray, Act.eval, Array.getD_eq_getD_getElem?, List.getElem?_toArray, List.getElem?_cons_succ, List.getElem?_cons_zero, Option.getD_some] at H; (try simp only [Act.put, List.setIfInBounds_toArray, List.set_cons_succ, List.set_cons_zero, List.getElem_toArray, List.getElem_cons_succ, List.getElem_cons_zero])) | (refine L_storerow rfl rfl H 2 rfl rfl rfl info83 ?hn ?ho ?h1 ?_; (case hn => first | rfl | assumption); (case ho => first | rfl | assumption); (case h1 => first | assumption | exact St.one_cells _ | rfl); clear H; intro w H; simp only [List.set_cons_zero, List.set_cons_succ, List.setIfInBounds_toArray, Act.eval, Array.getD_eq_getD_getElem?, List.getElem?_toArray, List.getElem?_cons_succ, List.getElem?_cons_zero, Option.getD_some] at H; (try simp only [Act.put, List.setIfInBounds_toArray, List.set_cons_succ, List.set_cons_zero, List.getElem_toArray, List.getElem_cons_succ, List.getElem_cons_zero])) | (refine L_box rfl rfl H rfl rfl ?_; clear H; intro g w H; (try simp only [Act.eval, Array.getD_eq_getD_getElem?, List.getElem?_toArray, List.getElem?_cons_succ, List.getElem?_cons_zero, Option.getD_some, Value.cells] at H); (try simp only [Act.put, List.setIfInBounds_toArray, List.set_cons_succ, List.set_cons_zero, List.getElem_toArray, List.getElem_cons_succ, List.getElem_cons_zero])))
  (try simp only [Exit.inBlock, Exit.then])
  exact L_retrow rfl H 0 rfl rfl Tryd.underlying83 rfl info83 hsz rfl ⟨rfl, H.ext⟩
set_option maxRecDepth 100000 in
set_option maxHeartbeats 1000000 in
theorem surv_bit0 (s n : St) (number keep torn cut : Int) (w : World) (hs : s.Ok) (hn : n.Ok) (h : number ≠ torn) (h0 : 0 ≤ number) (h62 : number < 62) (hb : keepBit keep number = false) :
    Calls Tryd.prog 43 #[s.val, n.val, .int .i64 number, .int .i64 keep, .int .i64 torn, .int .i64 cut] w fun e w' => e = .returned s.val ∧ Ext0 w w' := by
  unfold keepBit at hb
  have he : (number == torn) = false := by simp [h]
  have H : SH (fun _ => False) w w [] := SH.nil _ _
  have hsz := St.size_arr hn
  have hsz2 := St.size_arr hs
  go_enter Tryd.func43, Tryd.ntmps43
  go_wp2_with (first | (refine L_alloc rfl rfl H zero83 ?_; clear H; intro g w H; (try simp only [Act.put, List.setIfInBounds_toArray, List.set_cons_succ, List.set_cons_zero, List.getElem_toArray, List.getElem_cons_succ, List.getElem_cons_zero])) | (refine L_loadrow rfl rfl H 0 rfl rfl Tryd.underlying83 rfl info83 ?hn ?_; (case hn => first | rfl | assumption | (simp only [List.size_toArray]; assumption)); (try simp only [Act.put, List.setIfInBounds_toArray, List.set_cons_succ, List.set_cons_zero, List.getElem_toArray, List.getElem_cons_succ, List.getElem_cons_zero])) | (refine L_loadrow rfl rfl H 1 rfl rfl Tryd.underlying83 rfl info83 ?hn ?_; (case hn => first | rfl | assumption | (simp only [List.size_toArray]; assumption)); (try simp only [Act.put, List.setIfInBounds_toArray, List.set_cons_succ, List.set_cons_zero, List.getElem_toArray, List.getElem_cons_succ, List.getElem_cons_zero])) | (refine L_loadrow rfl rfl H 2 rfl rfl Tryd.underlying83 rfl info83 ?hn ?_; (case hn => first | rfl | assumption | (simp only [List.size_toArray]; assumption)); (try simp only [Act.put, List.setIfInBounds_toArray, List.set_cons_succ, List.set_cons_zero, List.getElem_toArray, List.getElem_cons_succ, List.getElem_cons_zero])) | (refine L_storerow rfl rfl H 0 rfl rfl rfl info83 ?hn ?ho ?h1 ?_; (case hn => first | rfl | assumption); (case ho => first | rfl | assumption); (case h1 => first | assumption | exact St.one_cells _ | rfl); clear H; intro w H; simp only [List.set_cons_zero, List.set_cons_succ, List.setIfInBounds_toArray, Act.eval, Array.getD_eq_getD_getElem?, List.getElem?_toArray, List.getElem?_cons_succ, List.getElem?_cons_zero, Option.getD_some] at H; (try simp only [Act.put, List.setIfInBounds_toArray, List.set_cons_succ, List.set_cons_zero, List.getElem_toArray, List.getElem_cons_succ, List.getElem_cons_zero])) | (refine L_storerow rfl rfl H 1 rfl rfl rfl info83 ?hn ?ho ?h1 ?_; (case hn => first | rfl | assumption); (case ho => first | rfl | assumption); (case h1 => first | assumption | exact St.one_cells _ | rfl); clear H; intro w H; simp only [List.set_cons_zero, List.set_cons_succ, List.setIfInBounds_toArray, Act.eval, Array.getD_eq_getD_getElem?, List.getElem?_toArray, List.getElem?_cons_succ, List.getElem?_cons_zero, Option.getD_some] at H; (try simp only [Act.put, List.setIfInBounds_toArray, List.set_cons_succ, List.set_cons_zero, List.getElem_toArray, List.getElem_cons_succ, List.getElem_cons_zero])) | (refine L_storerow rfl rfl H 2 rfl rfl rfl info83 ?hn ?ho ?h1 ?_; (case hn => first | rfl | assumption); (case ho => first | rfl | assumption); (case h1 => first | assumption | exact St.one_cells _ | rfl); clear H; intro w H; simp only [List.set_cons_zero, List.set_cons_succ, List.setIfInBounds_toArray, Act.eval, Array.getD_eq_getD_getElem?, List.getElem?_toArray, List.getElem?_cons_succ, List.getElem?_cons_zero, Option.getD_some] at H; (try simp only [Act.put, List.setIfInBounds_toArray, List.set_cons_succ, List.set_cons_zero, List.getElem_toArray, List.getElem_cons_succ, List.getElem_cons_zero])) | (refine L_box rfl rfl H rfl rfl ?_; clear H; intro g w H; (try simp only [Act.eval, Array.getD_eq_getD_getElem?, List.getElem?_toArray, List.getElem?_cons_succ, List.getElem?_cons_zero, Option.getD_some, Value.cells] at H); (try simp only [Act.put, List.setIfInBounds_toArray, List.set_cons_succ, List.set_cons_zero, List.getElem_toArray, List.getElem_cons_succ, List.getElem_cons_zero])))
  (try simp only [Exit.inBlock, Exit.then])
  exact L_retrow rfl H 0 rfl rfl Tryd.underlying83 rfl info83 hsz2 rfl ⟨rfl, H.ext⟩
set_option maxRecDepth 100000 in
set_option maxHeartbeats 1000000 in
theorem surv_far (s n : St) (number keep torn cut : Int) (w : World) (hs : s.Ok) (hn : n.Ok) (h : number ≠ torn) (h62 : ¬ number < 62) :
    Calls Tryd.prog 43 #[s.val, n.val, .int .i64 number, .int .i64 keep, .int .i64 torn, .int .i64 cut] w fun e w' => e = .returned s.val ∧ Ext0 w w' := by
  have he : (number == torn) = false := by simp [h]
  have hd : decide (number < 62) = false := by simp [h62]
  have H : SH (fun _ => False) w w [] := SH.nil _ _
  have hsz := St.size_arr hn
  have hsz2 := St.size_arr hs
  go_enter Tryd.func43, Tryd.ntmps43
  go_wp2_with (first | (refine L_alloc rfl rfl H zero83 ?_; clear H; intro g w H; (try simp only [Act.put, List.setIfInBounds_toArray, List.set_cons_succ, List.set_cons_zero, List.getElem_toArray, List.getElem_cons_succ, List.getElem_cons_zero])) | (refine L_loadrow rfl rfl H 0 rfl rfl Tryd.underlying83 rfl info83 ?hn ?_; (case hn => first | rfl | assumption | (simp only [List.size_toArray]; assumption)); (try simp only [Act.put, List.setIfInBounds_toArray, List.set_cons_succ, List.set_cons_zero, List.getElem_toArray, List.getElem_cons_succ, List.getElem_cons_zero])) | (refine L_loadrow rfl rfl H 1 rfl rfl Tryd.underlying83 rfl info83 ?hn ?_; (case hn => first | rfl | assumption | (simp only [List.size_toArray]; assumption)); (try simp only [Act.put, List.setIfInBounds_toArray, List.set_cons_succ, List.set_cons_zero, List.getElem_toArray, List.getElem_cons_succ, List.getElem_cons_zero])) | (refine L_loadrow rfl rfl H 2 rfl rfl Tryd.underlying83 rfl info83 ?hn ?_; (case hn => first | rfl | assumption | (simp only [List.size_toArray]; assumption)); (try simp only [Act.put, List.setIfInBounds_toArray, List.set_cons_succ, List.set_cons_zero, List.getElem_toArray, List.getElem_cons_succ, List.getElem_cons_zero])) | (refine L_storerow rfl rfl H 0 rfl rfl rfl info83 ?hn ?ho ?h1 ?_; (case hn => first | rfl | assumption); (case ho => first | rfl | assumption); (case h1 => first | assumption | exact St.one_cells _ | rfl); clear H; intro w H; simp only [List.set_cons_zero, List.set_cons_succ, List.setIfInBounds_toArray, Act.eval, Array.getD_eq_getD_getElem?, List.getElem?_toArray, List.getElem?_cons_succ, List.getElem?_cons_zero, Option.getD_some] at H; (try simp only [Act.put, List.setIfInBounds_toArray, List.set_cons_succ, List.set_cons_zero, List.getElem_toArray, List.getElem_cons_succ, List.getElem_cons_zero])) | (refine L_storerow rfl rfl H 1 rfl rfl rfl info83 ?hn ?ho ?h1 ?_; (case hn => first | rfl | assumption); (case ho => first | rfl | assumption); (case h1 => first | assumption | exact St.one_cells _ | rfl); clear H; intro w H; simp only [List.set_cons_zero, List.set_cons_succ, List.setIfInBounds_toArray, Act.eval, Array.getD_eq_getD_getElem?, List.getElem?_toArray, List.getElem?_cons_succ, List.getElem?_cons_zero, Option.getD_some] at H; (try simp only [Act.put, List.setIfInBounds_toArray, List.set_cons_succ, List.set_cons_zero, List.getElem_toArray, List.getElem_cons_succ, List.getElem_cons_zero])) | (refine L_storerow rfl rfl H 2 rfl rfl rfl info83 ?hn ?ho ?h1 ?_; (case hn => first | rfl | assumption); (case ho => first | rfl | assumption); (case h1 => first | assumption | exact St.one_cells _ | rfl); clear H; intro w H; simp only [List.set_cons_zero, List.set_cons_succ, List.setIfInBounds_toArray, Act.eval, Array.getD_eq_getD_getElem?, List.getElem?_toArray, List.getElem?_cons_succ, List.getElem?_cons_zero, Option.getD_some] at H; (try simp only [Act.put, List.setIfInBounds_toArray, List.set_cons_succ, List.set_cons_zero, List.getElem_toArray, List.getElem_cons_succ, List.getElem_cons_zero])) | (refine L_box rfl rfl H rfl rfl ?_; clear H; intro g w H; (try simp only [Act.eval, Array.getD_eq_getD_getElem?, List.getElem?_toArray, List.getElem?_cons_succ, List.getElem?_cons_zero, Option.getD_some, Value.cells] at H); (try simp only [Act.put, List.setIfInBounds_toArray, List.set_cons_succ, List.set_cons_zero, List.getElem_toArray, List.getElem_cons_succ, List.getElem_cons_zero])))
  (try simp only [Exit.inBlock, Exit.then])
  exact L_retrow rfl H 0 rfl rfl Tryd.underlying83 rfl info83 hsz2 rfl ⟨rfl, H.ext⟩
set_option maxRecDepth 100000 in
set_option maxHeartbeats 1000000 in
theorem surv_torn (s n : St) (number keep torn cut : Int) (w : World) (hs : s.Ok) (hn : n.Ok) (h : number = torn) (hc : cut < 32) :
    Calls Tryd.prog 43 #[s.val, n.val, .int .i64 number, .int .i64 keep, .int .i64 torn, .int .i64 cut] w fun e w' => e = .returned (s.torn n cut).val ∧ Ext0 w w' := by
  subst h
  have H : SH (fun _ => False) w w [] := SH.nil _ _
  have hsz := St.size_arr hn
  have hsz2 := St.size_arr hs
  have hd : decide (32 ≤ cut) = false := by simp; omega
  go_enter Tryd.func43, Tryd.ntmps43
  go_wp2_with (first | (refine L_alloc rfl rfl H zero83 ?_; clear H; intro g w H; (try simp only [Act.put, List.setIfInBounds_toArray, List.set_cons_succ, List.set_cons_zero, List.getElem_toArray, List.getElem_cons_succ, List.getElem_cons_zero])) | (refine L_loadrow rfl rfl H 0 rfl rfl Tryd.underlying83 rfl info83 ?hn ?_; (case hn => first | rfl | assumption | (simp only [List.size_toArray]; assumption)); (try simp only [Act.put, List.setIfInBounds_toArray, List.set_cons_succ, List.set_cons_zero, List.getElem_toArray, List.getElem_cons_succ, List.getElem_cons_zero])) | (refine L_loadrow rfl rfl H 1 rfl rfl Tryd.underlying83 rfl info83 ?hn ?_; (case hn => first | rfl | assumption | (simp only [List.size_toArray]; assumption)); (try simp only [Act.put, List.setIfInBounds_toArray, List.set_cons_succ, List.set_cons_zero, List.getElem_toArray, List.getElem_cons_succ, List.getElem_cons_zero])) | (refine L_loadrow rfl rfl H 2 rfl rfl Tryd.underlying83 rfl info83 ?hn ?_; (case hn => first | rfl | assumption | (simp only [List.size_toArray]; assumption)); (try simp only [Act.put, List.setIfInBounds_toArray, List.set_cons_succ, List.set_cons_zero, List.getElem_toArray, List.getElem_cons_succ, List.getElem_cons_zero])) | (refine L_storerow rfl rfl H 0 rfl rfl rfl info83 ?hn ?ho ?h1 ?_; (case hn => first | rfl | assumption); (case ho => first | rfl | assumption); (case h1 => first | assumption | exact St.one_cells _ | rfl); clear H; intro w H; simp only [List.set_cons_zero, List.set_cons_succ, List.setIfInBounds_toArray, Act.eval, Array.getD_eq_getD_getElem?, List.getElem?_toArray, List.getElem?_cons_succ, List.getElem?_cons_zero, Option.getD_some] at H; (try simp only [Act.put, List.setIfInBounds_toArray, List.set_cons_succ, List.set_cons_zero, List.getElem_toArray, List.getElem_cons_succ, List.getElem_cons_zero])) | (refine L_storerow rfl rfl H 1 rfl rfl rfl info83 ?hn ?ho ?h1 ?_; (case hn => first | rfl | assumption); (case ho => first | rfl | assumption); (case h1 => first | assumption | exact St.one_cells _ | rfl); clear H; intro w H; simp only [List.set_cons_zero, List.set_cons_succ, List.setIfInBounds_toArray, Act.eval, Array.getD_eq_getD_getElem?, List.getElem?_toArray, List.getElem?_cons_succ, List.getElem?_cons_zero, Option.getD_some] at H; (try simp only [Act.put, List.setIfInBounds_toArray, List.set_cons_succ, List.set_cons_zero, List.getElem_toArray, List.getElem_cons_succ, List.getElem_cons_zero])) | (refine L_storerow rfl rfl H 2 rfl rfl rfl info83 ?hn ?ho ?h1 ?_; (case hn => first | rfl | assumption); (case ho => first | rfl | assumption); (case h1 => first | assumption | exact St.one_cells _ | rfl); clear H; intro w H; simp only [List.set_cons_zero, List.set_cons_succ, List.setIfInBounds_toArray, Act.eval, Array.getD_eq_getD_getElem?, List.getElem?_toArray, List.getElem?_cons_succ, List.getElem?_cons_zero, Option.getD_some] at H; (try simp only [Act.put, List.setIfInBounds_toArray, List.set_cons_succ, List.set_cons_zero, List.getElem_toArray, List.getElem_cons_succ, List.getElem_cons_zero])) | (refine L_box rfl rfl H rfl rfl ?_; clear H; intro g w H; (try simp only [Act.eval, Array.getD_eq_getD_getElem?, List.getElem?_toArray, List.getElem?_cons_succ, List.getElem?_cons_zero, Option.getD_some, Value.cells] at H); (try simp only [Act.put, List.setIfInBounds_toArray, List.set_cons_succ, List.set_cons_zero, List.getElem_toArray, List.getElem_cons_succ, List.getElem_cons_zero])))
  rename_i g1 w1 g2 w2 K1 Q1 K2 hK2
  obtain ⟨c, hcut, hc32⟩ : ∃ c : Nat, max cut 0 = (c : Int) ∧ c ≤ 32 := ⟨(max cut 0).toNat, by omega, by omega⟩
  have hct : cut.toNat = c := by omega
  have hsl : ∀ W, (Instr.sliceAt 81 (.pointer (some ⟨g1, 0, none⟩)) none (some (.int .i64 (c : Int))) none).run Tryd.prog W = .ok (.slice (some ⟨g1, 0, none⟩) c 32) W := fun W => by
    have := run_sliceAt_array_h (P := Tryd.prog) W 81 ⟨g1, 0, none⟩ (by rfl) .i64 (c : Int) (by omega) (show (c : Int) ≤ 32 by omega)
    rw [this]
    rfl
  have hn1 := hn.1
  have hs1 := hs.1
  have hrow : ((s.cells.toArray).toList.take 0 ++ (n.bytes.take c).map (Value.int .u8) ++ (s.cells.toArray).toList.drop (0 + ((n.bytes.take c).map (Value.int .u8)).length)).toArray = (s.torn n cut).cells.toArray := by
    simp only [List.take_zero, List.nil_append, Nat.zero_add, List.length_map, List.length_take, hn1, Nat.min_eq_left hc32]
    simp only [St.cells, St.torn, hct]
    rw [List.drop_append_of_le_length (by simp [hs1]; omega)]
    simp
  have hnt : (s.torn n cut).cells.toArray.size = 33 := by simp [St.cells, St.torn, hct, hs1, hn1]; omega
  have H2 : SH (fun _ => False) _ w.drew [pt g (.cells St.zero.val.cells 83 (0, 0)), pt g2 (.cells n.cells.toArray 83 (0, 0)), pt g1 (.cells s.cells.toArray 83 (0, 0))] := H.drew
  have hrun : ∀ ty, (Builtin.copy_ #[23, 23] ty #[.slice (some ⟨g1, 0, none⟩) c 32, .slice (some ⟨g2, 0, none⟩) 32 32]).run Tryd.prog w.drew = .ok (goInt ((n.bytes.take c).map (Value.int .u8)).length) (w.drew.setRow g1 (s.torn n cut).cells.toArray) := fun ty => by
    rw [← hrow]
    refine run_copy_row _ w.drew _ _ ty 5 g1 0 c 32 _ 32 32 _ 83 _ (by rfl) (by kernel_rfl) (H2.at_ 2 rfl) ?_ ?_ ?_ ?_
    · show _ = min 32 c
      simp [hn1]; omega
    · intro j v hj
      have hj2 : j < c := by
        have := (List.getElem?_eq_some_iff.1 hj).1
        simp at this; omega
      have := cell_of_row w.drew g2 j _ _ _ (H2.at_ 1 rfl)
      rw [show (⟨g2, 0, none⟩ : Addr).add j = ⟨g2, j, none⟩ by by_cases hj0 : j = 0 <;> simp [Addr.add, hj0]]
      rw [this]
      simp only [St.cells, List.getElem?_toArray]
      rw [List.getElem?_append_left (by simp [hn1]; omega), ← hj]
      simp [List.getElem?_take, hj2]
    · simp [hn1, hs1, St.cells]; omega
    · intro v hv
      simp only [List.mem_map] at hv
      obtain ⟨x, _, rfl⟩ := hv
      rfl
  have HH := H2.setRow 2 (cs := (s.torn n cut).cells.toArray) rfl
  have H1 := H.drop (L' := [pt g (.cells St.zero.val.cells 83 (0, 0)), pt g2 (.cells n.cells.toArray 83 (0, 0))]) (List.Sublist.cons_cons _ (List.Sublist.cons_cons _ (List.nil_sublist _)))
  clear hrow
  refine D_start H1 (by kernel_rfl) (fun hS => ?_)
  try simp only [Act.put, List.setIfInBounds_toArray, List.set_cons_succ, List.set_cons_zero]
  refine D_take 0 (v := ?_) rfl (by kernel_rfl) (by kernel_rfl) (by kernel_rfl) (fun _ _ _ h => h) rfl (by rfl) (fun W hS => ?_) hS ?_
  rotate_left; (focus (first | (go_simp; done) | (go_simp; with_reducible rfl) | (go_simp; rfl))); all_goals skip; (try simp only [List.set_cons_succ, List.set_cons_zero])
  refine D_take 1 (v := ?_) rfl (by kernel_rfl) (by kernel_rfl) (by kernel_rfl) (fun _ _ _ h => h) rfl (by rfl) (fun W hS => ?_) hS ?_
  rotate_left; (focus (first | (go_simp; done) | (go_simp; with_reducible rfl) | (go_simp; rfl))); all_goals skip; (try simp only [List.set_cons_succ, List.set_cons_zero])
  refine D_take 2 (v := ?_) rfl (by kernel_rfl) (by kernel_rfl) (by kernel_rfl) (fun _ _ _ h => h) rfl (by rfl) (fun W hS => ?_) hS ?_
  rotate_left; (focus (first | (go_simp; done) | (go_simp; with_reducible rfl) | (go_simp; rfl))); all_goals skip; (try simp only [List.set_cons_succ, List.set_cons_zero])
  refine D_take 3 (v := (.slice (some ⟨g1, 0, none⟩) c 32)) rfl (by kernel_rfl) (by kernel_rfl) (by kernel_rfl) (fun _ _ _ h => h) rfl (by rfl) (fun W hS => by first | (go_simp; done) | (go_simp; rw [hcut, hsl])) hS ?_; (try simp only [List.set_cons_succ, List.set_cons_zero])
  refine D_take 4 (v := ?_) rfl (by kernel_rfl) (by kernel_rfl) (by kernel_rfl) (fun _ _ _ h => h) rfl (by rfl) (fun W hS => ?_) hS ?_
  rotate_left; (focus (first | (go_simp; done) | (go_simp; with_reducible rfl) | (go_simp; rfl))); all_goals skip; (try simp only [List.set_cons_succ, List.set_cons_zero])
  refine D_take 5 (v := ?_) rfl (by kernel_rfl) (by kernel_rfl) (by kernel_rfl) (fun _ _ _ h => h) rfl (by rfl) (fun W hS => ?_) hS ?_
  rotate_left; (focus (first | (go_simp; done) | (go_simp; with_reducible rfl) | (go_simp; rfl))); all_goals skip; (try simp only [List.set_cons_succ, List.set_cons_zero])
  refine D_one 6 rfl (by kernel_rfl) (by rfl) ?_
  refine R_copy rfl rfl rfl (hrun _) ⟨HH.drop (List.Sublist.cons_cons _ (List.Sublist.cons_cons _ (List.nil_sublist _))), ?_⟩
  try simp only [Act.put, List.getElem_toArray, List.getElem_cons_succ, List.getElem_cons_zero, List.setIfInBounds_toArray, List.set_cons_succ, List.set_cons_zero]
  refine wpAnyH_done (by kernel_rfl) ?_ _
  replace H := HH
  clear HH H1 H2 hrun hsl
  have hone := St.one_cells (s.torn n cut)
  simp only [List.set_cons_succ, List.set_cons_zero] at H
  go_wp2_with (first | (refine L_loadrow rfl rfl H 0 rfl rfl Tryd.underlying83 rfl info83 ?hn ?_; (case hn => first | rfl | assumption | (simp only [List.size_toArray]; assumption)); (try simp only [Act.put, List.setIfInBounds_toArray, List.set_cons_succ, List.set_cons_zero, List.getElem_toArray, List.getElem_cons_succ, List.getElem_cons_zero])) | (refine L_loadrow rfl rfl H 1 rfl rfl Tryd.underlying83 rfl info83 ?hn ?_; (case hn => first | rfl | assumption | (simp only [List.size_toArray]; assumption)); (try simp only [Act.put, List.setIfInBounds_toArray, List.set_cons_succ, List.set_cons_zero, List.getElem_toArray, List.getElem_cons_succ, List.getElem_cons_zero])) | (refine L_loadrow rfl rfl H 2 rfl rfl Tryd.underlying83 rfl info83 ?hn ?_; (case hn => first | rfl | assumption | (simp only [List.size_toArray]; assumption)); (try simp only [Act.put, List.setIfInBounds_toArray, List.set_cons_succ, List.set_cons_zero, List.getElem_toArray, List.getElem_cons_succ, List.getElem_cons_zero])) | (refine L_storerow rfl rfl H 0 rfl rfl rfl info83 ?hn ?ho ?h1 ?_; (case hn => first | rfl | assumption); (case ho => first | rfl | assumption); (case h1 => first | assumption | exact St.one_cells _ | rfl); clear H; intro w H; simp only [List.set_cons_zero, List.set_cons_succ, List.setIfInBounds_toArray, Act.eval, Array.getD_eq_getD_getElem?, List.getElem?_toArray, List.getElem?_cons_succ, List.getElem?_cons_zero, Option.getD_some] at H; (try simp only [Act.put, List.setIfInBounds_toArray, List.set_cons_succ, List.set_cons_zero, List.getElem_toArray, List.getElem_cons_succ, List.getElem_cons_zero])) | (refine L_storerow rfl rfl H 1 rfl rfl rfl info83 ?hn ?ho ?h1 ?_; (case hn => first | rfl | assumption); (case ho => first | rfl | assumption); (case h1 => first | assumption | exact St.one_cells _ | rfl); clear H; intro w H; simp only [List.set_cons_zero, List.set_cons_succ, List.setIfInBounds_toArray, Act.eval, Array.getD_eq_getD_getElem?, List.getElem?_toArray, List.getElem?_cons_succ, List.getElem?_cons_zero, Option.getD_some] at H; (try simp only [Act.put, List.setIfInBounds_toArray, List.set_cons_succ, List.set_cons_zero, List.getElem_toArray, List.getElem_cons_succ, List.getElem_cons_zero])) | (refine L_storerow rfl rfl H 2 rfl rfl rfl info83 ?hn ?ho ?h1 ?_; (case hn => first | rfl | assumption); (case ho => first | rfl | assumption); (case h1 => first | assumption | exact St.one_cells _ | rfl); clear H; intro w H; simp only [List.set_cons_zero, List.set_cons_succ, List.setIfInBounds_toArray, Act.eval, Array.getD_eq_getD_getElem?, List.getElem?_toArray, List.getElem?_cons_succ, List.getElem?_cons_zero, Option.getD_some] at H; (try simp only [Act.put, List.setIfInBounds_toArray, List.set_cons_succ, List.set_cons_zero, List.getElem_toArray, List.getElem_cons_succ, List.getElem_cons_zero])))
  (try simp only [Exit.inBlock, Exit.then])
  exact L_retrow rfl H 0 rfl rfl Tryd.underlying83 rfl info83 hnt rfl ⟨rfl, H.ext⟩

theorem surv_any (s n : St) (number keep torn cut : Int) (w : World) (hs : s.Ok) (hn : n.Ok) (h0 : 0 ≤ number) :
    Calls Tryd.prog 43 #[s.val, n.val, .int .i64 number, .int .i64 keep, .int .i64 torn, .int .i64 cut] w fun e w' => e = .returned (surv s n number keep torn cut).val ∧ Ext0 w w' := by
  unfold surv
  split
  · rename_i h
    split
    · rename_i h2; exact surv_now s n number keep torn cut w hn ⟨h, h2⟩
    · rename_i h2; exact surv_torn s n number keep torn cut w hs hn h (by omega)
  · rename_i h
    by_cases h62 : number < 62
    · cases hb : keepBit keep number with
      | true => simp only [h62, true_and, if_true]; exact surv_bit1 s n number keep torn cut w hs hn h h0 h62 hb
      | false => simp only [h62, true_and, Bool.false_eq_true, if_false]; exact surv_bit0 s n number keep torn cut w hs hn h h0 h62 hb
    · simp only [h62, false_and, if_false]
      exact surv_far s n number keep torn cut w hs hn h h62
end Go.Proofs.YtgmeahogdjhejaaDoor
