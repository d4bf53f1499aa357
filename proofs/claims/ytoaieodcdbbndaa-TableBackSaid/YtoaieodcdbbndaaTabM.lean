/- Tables: Contains; Without, of a table of one block. -/
import Derived.Test.YtoaieodcdbbndaaTabL
namespace Go.Proofs.Ytoaieodcdbbndaa
set_option linter.unusedVariables false
set_option linter.unusedSimpArgs false
open Go.RowKit

def IntRel (x : Int) (ids : List Int) (w : World) (vi : Value) (wr : World) : Prop :=
  ∃ k : Nat, vi = .int .i64 (k : Int) ∧ k ≤ ids.length ∧ wr = w ∧ Hid (∀ j (hj : j < k) (hj2 : j < ids.length), ids[j] ≠ x)
def IdxE (x : Int) (ids : List Int) (w : World) (e : Ending) (w' : World) : Prop := ∃ q : Int, e = .returned (.int .i64 q) ∧ (decide (0 ≤ q) = decide (x ∈ ids)) ∧ w' = w
set_option maxRecDepth 100000 in
set_option maxHeartbeats 1000000 in
theorem index_any (v : Value) (ids : List Int) (x : Int) (w : World) (hr : RdS (encInt .i64) 1 w v ids) (hn : ids.length ≤ 9223372036854775807) : Calls Try.prog 65 #[v, .int .i64 x] w (IdxE x ids w) := by
  obtain ⟨A, cap, rfl, hcap⟩ := hr.len
  have HR := Lib.hid hr
  clear hr
  go_enter Try.func65, Try.ntmps65
  go_wp2
  go_loopw [8] (fun vi wr => IntRel x ids w vi wr) (fun vi _ => ids.length - (intOf vi).toNat)
  case atStart => exact ⟨0, rfl, Nat.zero_le _, rfl, Lib.hid (fun j hj => absurd hj (Nat.not_lt_zero _))⟩
  case round =>
    obtain ⟨k, rfl, hk, rfl, HA⟩ := hrel
    by_cases hkn : k < ids.length
    · have hki : (k : Int) < (ids.length : Int) := by omega
      obtain ⟨y, hy⟩ : ∃ y, ids[k] = y := ⟨_, rfl⟩
      obtain ⟨bb, off, cs, T, fr, rfl, hbb, hcs⟩ := HR.out.cell hkn
      have hc : wr.cell? ⟨bb, off + k, none⟩ = some (.int .i64 y) := by
        rw [cell_of_row wr bb _ cs T fr hbb]
        have := hcs 0 (by omega)
        rw [Nat.mul_one, Nat.add_zero] at this
        rw [this, hy]; rfl
      have HY := Lib.hid hy
      clear hy hcs hbb
      by_cases hxy : x = y
      · go_wp2
        go_ret
        exact ⟨_, rfl, by
          have : x ∈ ids := by rw [hxy, ← HY.out]; exact List.getElem_mem _
          simp [this], rfl⟩
      · go_wp2
        go_roundw
        case rel => exact ⟨k + 1, by go_num, by omega, rfl, Lib.hid (fun j hj hj2 => by
          by_cases hjk : j < k
          · exact HA.out j hjk hj2
          · obtain rfl : j = k := by omega
            rw [HY.out]
            exact fun h => hxy h.symm)⟩
        case measure => simp [intOf]; omega
    · obtain rfl : k = ids.length := by omega
      have hjn2 : ¬ ((ids.length : Int) < (ids.length : Int)) := by omega
      go_wp2
      go_ret
      exact ⟨-1, rfl, by
        have : ¬ x ∈ ids := fun h => by
          obtain ⟨j, hj, he⟩ := List.mem_iff_getElem.1 h
          exact HA.out j hj hj he
        simp [this], rfl⟩
theorem contains_any (v : Value) (ids : List Int) (x : Int) (w : World) (hr : RdS (encInt .i64) 1 w v ids) (hn : ids.length ≤ 9223372036854775807) : Calls Try.prog 55 #[v, .int .i64 x] w fun e w' => e = .returned (.bool (decide (x ∈ ids))) ∧ w' = w := by
  have hi := index_any v ids x w hr hn
  generalize hq : decide (x ∈ ids) = q
  have HQ := Lib.hid hq
  clear hq
  go_enter Try.func55, Try.ntmps55
  go_wp2_with (go_at_call 65; refine hi.mono ?_; rintro e w2 ⟨q2, rfl, h1, rfl⟩; have HI := Lib.hid h1; clear h1)
  go_ret
  exact ⟨by rw [← HQ.out, ← HI.out]; rfl, rfl⟩
theorem without_closure (v : Value) (ids : List Int) (B : Nat) (w : World) (hB : w.cell? ⟨B, 0, none⟩ = some v) (hr : RdS (encInt .i64) 1 w v ids) (hn : ids.length ≤ 9223372036854775807) : FnGives' 54 #[.pointer (some ⟨B, 0, none⟩)] (fun b => decide (b.id ∈ ids)) w := fun W p hE => by
  have hc := hE.cell hB (fun e => e)
  obtain ⟨⟨WA, wc⟩, b1, b2, b3, b4, b5, f⟩ := p
  simp only [blkV, BV.wv]
  have H : SH (fun _ => False) W W [] := SH.nil _ _
  have HR := Lib.hid (hr.keep hE)
  have hcon := fun {W2 : World} (h : Ext0 W W2) => contains_any v ids b1 W2 (HR.out.keep h) hn
  obtain ⟨A, cap, rfl, _⟩ := hr.len
  generalize decide (b1 ∈ ids) = q at *
  clear hr
  show Calls Try.prog 54 #[.agg #[.int .i64 b1, .int .i64 b2, .int .i64 b3, .int .i64 b4, .int .i64 b5, .slice WA f.length wc], .pointer (some ⟨B, 0, none⟩)] W _
  go_enter Try.func54, Try.ntmps54
  go_wp2_with (first
    | (refine L_loadC rfl rfl rfl (H.ext.cell hc (fun e => e)) Try.isAgg46 ?_; (try simp only [Act.put, List.setIfInBounds_toArray, List.set_cons_succ, List.set_cons_zero, List.getElem_toArray, List.getElem_cons_succ, List.getElem_cons_zero]))
    | (refine L_load1 rfl rfl H 0 rfl rfl rfl Try.isAgg3 ?_; (try simp only [Act.put, List.setIfInBounds_toArray, List.set_cons_succ, List.set_cons_zero, List.getElem_toArray, List.getElem_cons_succ, List.getElem_cons_zero])) | (refine L_box rfl rfl H rfl rfl ?_; clear H; intro g w H; (try simp only [Act.eval, Array.getD_eq_getD_getElem?, List.getElem?_toArray, List.getElem?_cons_succ, List.getElem?_cons_zero, Option.getD_some, Value.cells] at H); (try simp only [Act.put, List.setIfInBounds_toArray, List.set_cons_succ, List.set_cons_zero, List.getElem_toArray, List.getElem_cons_succ, List.getElem_cons_zero]))
    | (go_at_call 55; refine (hcon H.ext).mono ?_; rintro e w2 ⟨rfl, rfl⟩))
  go_ret
  exact ⟨rfl, H.ext⟩

def GivesDel (w0 : World) (L : List Asr) (e : Ending) (w' : World) : Prop := ∃ A c, e = .returned (.slice A 0 c) ∧ SH (fun _ => False) w0 w' (bytesA [] :: L)
theorem clear_run {w : World} {g c : Nat} {cur : Array Value} {T : TypeId} (hg : w.heap[g]? = some (.cells cur T (0, 0))) (hs : 6 ≤ cur.size) (ty : TypeId) :
    ∃ cs, (Builtin.clear_ #[22] ty #[.slice (some ⟨g, 0, none⟩) 1 c]).run Try.prog w = .ok (.tuple #[]) (w.setRow g cs) := by
  have h := run_storeCells_at Try.prog g 0 T [.int .i64 0, .int .i64 0, .int .i64 0, .int .i64 0, .int .i64 0, .slice none 0 0] 0 cur w hg (by simpa using hs) (by intro v hv; simp only [List.mem_cons, List.not_mem_nil, or_false] at hv; rcases hv with rfl | rfl | rfl | rfl | rfl | rfl <;> rfl)
  have hzc : (Builtin.zeroCells (Value.agg #[.int .i64 0, .int .i64 0, .int .i64 0, .int .i64 0, .int .i64 0, .slice none 0 0]).cells 1).toList = [.int .i64 0, .int .i64 0, .int .i64 0, .int .i64 0, .int .i64 0, .slice none 0 0] := by
    simp [Builtin.zeroCells, Value.cells, List.range_succ]
  exact ⟨(cur.toList.take (0 + 0) ++ [Value.int .i64 0, Value.int .i64 0, Value.int .i64 0, Value.int .i64 0, Value.int .i64 0, Value.slice none 0 0] ++ cur.toList.drop (0 + 0 + 6)).toArray, by
    simp only [List.length_cons, List.length_nil] at h
    simp [Builtin.clear_, run_underlying Try.underlying22, Try.zeroValue45, hzc, h]⟩
set_option maxRecDepth 100000 in
set_option maxHeartbeats 1000000 in
theorem deleteOne_any {w0 w : World} {L : List Asr} {v : Value} {q : BV} (H : SH (fun _ => False) w0 w (ownA 45 6 v 1 (cellsOf bvCells [q]) :: L)) (g : Nat) (lb : Array Value) (pr : Blk → Bool) (eg : ∀ args w, (callFunc g args).run Try.prog w = .ok (.enter g args) w) (hcl : FnGives' g lb pr w) (hq : pr q.2 = true) :
    Calls Try.prog 53 #[v, .func (.func g) #[] lb] w (GivesDel w0 L) := by
  obtain ⟨gb, c, rfl⟩ := own_form (H.get 0 rfl) (by omega)
  have hrd := RdS.own bvLen (xs := [q]) rfl (H.get 0 rfl)
  have hix := indexFunc_any g lb pr eg _ [q] w hrd (by simp) hcl
  rw [idxF_hit (k := 0) (by simp) (by simpa using hq) (fun j hj => absurd hj (Nat.not_lt_zero _))] at hix
  have hci : 1 ≤ c := by
    obtain ⟨_, c', he, hc⟩ := hrd.len
    cases he
    exact hc
  clear hrd hq
  go_enter Try.func53, Try.ntmps53
  go_wp2_with (go_at_call 47; refine hix.mono ?_; rintro e w2 ⟨rfl, hE⟩; replace H := H.calls hE; clear hE)
  go_loopw [5, 6] (fun v5 vi wr => v5 = .int .i64 0 ∧ vi = .int .i64 1 ∧ SH (fun _ => False) w0 wr (ownA 45 6 (.slice (some ⟨gb, 0, none⟩) 1 c) 1 (cellsOf bvCells [q]) :: L)) (fun _ _ _ => 0)
  case atStart => exact ⟨rfl, rfl, H⟩
  case round =>
    clear H
    obtain ⟨rfl, rfl, H⟩ := hrel
    obtain ⟨cur, hcur, hcs⟩ : ∃ cur, wr.heap[gb]? = some (.cells cur 45 (0, 0)) ∧ 6 ≤ cur.size := by
      rcases (H.get 0 rfl : wr.ownsRow _ _ _ _ _ _).2 with ⟨h0, _⟩ | ⟨g', c', cur, he, _, hg, _, _, h3, _⟩
      · cases h0
      · cases he
        exact ⟨cur, hg, by omega⟩
    obtain ⟨zs, hz⟩ : ∃ zs, ∀ ty, (Builtin.clear_ #[22] ty #[.slice (some ⟨gb, 0, none⟩) 1 c]).run Try.prog wr = .ok (.tuple #[]) (wr.setRow gb zs) := by
      obtain ⟨zs, h⟩ := clear_run (c := c) hcur hcs 0
      exact ⟨zs, fun ty => h⟩
    have H3 := H.upd 0 rfl (A' := bytesA []) ((Ext.setRow wr gb zs).mono (fun j _ hj => by cases hj; rfl)) (fun p hp => by cases hp) (fun j ⟨p, hp, _⟩ => by cases hp)
    simp only [List.set_cons_zero] at H3
    have HH := Lib.hid H3
    clear H H3 hcur hcs
    go_wp2
    go_ret
    exact ⟨_, _, rfl, HH.out⟩
theorem one_of {qs : List BV} {p : BV} (h : qs.map (·.2) = [p].map (·.2)) : ∃ q, qs = [q] ∧ q.2 = p.2 := by
  cases qs with
  | nil => simp at h
  | cons q l =>
    cases l with
    | nil => exact ⟨q, rfl, by simpa using h⟩
    | cons q2 l => simp at h
def GivesNone (t : Tab) (w : World) (e : Ending) (w' : World) : Prop := ∃ A c, e = .returned (tabV t (.slice A 0 c)) ∧ Ext0 w w'
set_option maxRecDepth 100000 in
set_option maxHeartbeats 2000000 in
/-- Without, of a table of one block that goes. -/
theorem without1_any (epoch old phase mode next gen : Int) (p : BV) (bv iv : Value) (ids : List Int) (w : World) (hb : BsR w bv [p]) (hwl : p.2.wrap.length ≤ 140737488355000) (hr : RdS (encInt .i64) 1 w iv ids) (hn : ids.length ≤ 9223372036854775807) (hin : p.2.id ∈ ids) :
    Calls Try.prog 26 #[tabV ⟨epoch, old, phase, mode, next, gen, [p.2]⟩ bv, iv] w (GivesNone ⟨epoch, old, phase, mode, next, gen, []⟩ w) := by
  have eg : ∀ args w, (callFunc 54 args).run Try.prog w = .ok (.enter 54 args) w := enters_of Try.func54 (by kernel_rfl) rfl
  have hcop := fun {W : World} (h : Ext0 w W) => copied_any bv [p] W (hb.keep h) (by simp) (by intro q hq; rw [List.mem_singleton.1 hq]; exact hwl)
  obtain ⟨A, cap, rfl, _⟩ := hb.row.len
  obtain ⟨B, cap2, rfl, _⟩ := hr.len
  have H : SH (fun _ => False) w w [] := SH.nil _ _
  have HR := Lib.hid hr
  simp only [tabV]
  clear hb hr
  go_enter Try.func26, Try.ntmps26
  go_upto_region 1 with (first
    | (refine L_box rfl rfl H rfl rfl ?_; clear H; intro g w H; (try simp only [Act.eval, Array.getD_eq_getD_getElem?, List.getElem?_toArray, List.getElem?_cons_succ, List.getElem?_cons_zero, Option.getD_some, Value.cells] at H); (try simp only [Act.put, List.setIfInBounds_toArray, List.set_cons_succ, List.set_cons_zero, List.getElem_toArray, List.getElem_cons_succ, List.getElem_cons_zero]))
    | (refine L_alloc rfl rfl H Try.zeroValue24 ?_; clear H; intro g4 w H; simp only [Value.cells] at H; (try simp only [Act.put, List.setIfInBounds_toArray, List.set_cons_succ, List.set_cons_zero, List.getElem_toArray, List.getElem_cons_succ, List.getElem_cons_zero])))
  have hcb := cell_of_row _ g 0 _ _ _ (H.at_ 1 rfl)
  have hcl := without_closure _ ids g _ hcb (HR.out.keep H.ext) hn
  clear hcb

  go_wp2_with (first
    | (refine L_load1 rfl rfl H 2 rfl rfl rfl Try.isAgg22 ?_; (try simp only [Act.put, List.setIfInBounds_toArray, List.set_cons_succ, List.set_cons_zero, List.getElem_toArray, List.getElem_cons_succ, List.getElem_cons_zero]))
    | (go_at_call 49; refine (hcop H.ext).mono ?_; rintro e w2 ⟨vl, qs, by_, rfl, h, hqm, hqb⟩; have HCL := Lib.hid (show FnGives' 54 #[.pointer (some ⟨g, 0, none⟩)] (fun b => decide (b.id ∈ ids)) w2 from fun W q hE => hcl W q (h.ext.trans0 hE)); obtain ⟨q, hq⟩ := one_of hqm; obtain ⟨rfl, hqp⟩ := hq; replace H := H.cat h; simp only [List.length_cons, List.length_nil, Nat.zero_add, List.cons_append, List.nil_append] at H; have HQP := Lib.hid hqp; clear hqm hqb h hqp)
    | (go_at_call 53; refine (deleteOne_any H _ _ _ eg HCL.out (by rw [HQP.out]; exact decide_eq_true hin)).mono ?_; clear H; rintro e w3 ⟨A3, c3, rfl, H⟩)
    | (go_at_call 44; refine (clipBs_any A3 0 c3 _ (Nat.zero_le _) (by omega)).mono ?_; rintro e w3 ⟨rfl, rfl⟩)
    | (refine L_store1 rfl rfl H 4 rfl rfl rfl rfl rfl (Nat.le_of_ble_eq_true rfl) Try.sizeOf22 ?_; clear H; intro w H; simp only [List.set_cons_zero, List.set_cons_succ, List.setIfInBounds_toArray, Act.eval, Array.getD_eq_getD_getElem?, List.getElem?_toArray, List.getElem?_cons_succ, List.getElem?_cons_zero, Option.getD_some] at H; (try simp only [Act.put, List.setIfInBounds_toArray, List.set_cons_succ, List.set_cons_zero, List.getElem_toArray, List.getElem_cons_succ, List.getElem_cons_zero]))
    | (refine L_loadrow rfl rfl H 4 rfl rfl Try.underlying24 rfl info24 rfl ?_; (try simp only [Act.put, List.setIfInBounds_toArray, List.set_cons_succ, List.set_cons_zero, List.getElem_toArray, List.getElem_cons_succ, List.getElem_cons_zero]))
    | (refine L_storerow rfl rfl H 2 rfl rfl rfl info24 rfl rfl (one7s _ _ _ _ _ _ _ _ _) ?_; clear H; intro w H; simp only [List.set_cons_zero, List.set_cons_succ, List.setIfInBounds_toArray, Act.eval, Array.getD_eq_getD_getElem?, List.getElem?_toArray, List.getElem?_cons_succ, List.getElem?_cons_zero, Option.getD_some] at H; (try simp only [Act.put, List.setIfInBounds_toArray, List.set_cons_succ, List.set_cons_zero, List.getElem_toArray, List.getElem_cons_succ, List.getElem_cons_zero])))
  (try simp only [Exit.inBlock, Exit.then])
  refine L_retrow rfl H 2 rfl rfl Try.underlying24 rfl info24 rfl rfl ?_
  exact ⟨_, _, rfl, H.ext⟩
end Go.Proofs.Ytoaieodcdbbndaa
