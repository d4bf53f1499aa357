/- The document's disk: settle, goes, Write, Flush. (Printed by genwal6.py.) -/
import Derived.Test.YtgmeahogdjhejaaGreatDoorWalRA
import Derived.Test.YtgmeahogdjhejaaGreatDoorWalRI
namespace Go.Proofs.YtgmeahogdjhejaaGreatDoor
set_option linter.unusedVariables false
set_option linter.unusedSimpArgs false
open Rf (RefA RM grown row_shape row_len R_store1 infoU8 bytesA)
open Go.RowKit

theorem R_loadCell' {P : Program} {a : Act} {w : World} {o : Oper} {ty : TypeId} {x : Operand} (ho : o.op = .load ty x) {p : Addr} {v : Value} (hx : a.eval x = .pointer (some p)) (hc : w.cell? p = some v) (hag : ∀ w, (isAgg ty).run P w = .ok false w) : (execOp a.eval o).run P w = .ok (.value v) w := by
  unfold execOp
  simp only [ho, hx, Instr.loadAt, Instr.sureAddr, loadVar, Sem.run_bind, Sem.run_pure, Result.andThen_ok, hag]
  simp [hc]
theorem ownSet1 {w : World} {g n cap j : Nat} {T : TypeId} {xs : List Value} (u : Value) (h : w.ownsRow 0 T 1 (.slice (some ⟨g, 0, none⟩) n cap) n xs) (hj : j < n) : (w.setCell ⟨g, j, none⟩ u).ownsRow 0 T 1 (.slice (some ⟨g, 0, none⟩) n cap) n (xs.set j u) := by
  obtain ⟨hl, ⟨h0, _⟩ | ⟨g', cap', cur, he, hb, hg, h1, h2, h3, h4⟩⟩ := h
  · cases h0
  · cases he
    refine ⟨by simpa using hl, .inr ⟨g, cap, _, rfl, hb, heap_setCell_same w g j cur T u hg, h1, h2, by simpa using h3, ?_⟩⟩
    rw [← h4]
    apply List.ext_getElem?
    intro i
    rw [Array.toList_setIfInBounds, List.getElem?_take, List.getElem?_set, List.getElem?_set, List.getElem?_take]
    by_cases hij : j = i
    · subst hij
      have hjc : j < cur.size := by omega
      simp [hj, hjc]
      try omega
    · simp [hij]
theorem ownCell {w : World} {g n cap j : Nat} {T : TypeId} {xs : List Value} (h : w.ownsRow 0 T 1 (.slice (some ⟨g, 0, none⟩) n cap) n xs) (hj : j < n) : ∃ u, w.cell? ⟨g, j, none⟩ = some u ∧ w.frozen? ⟨g, j, none⟩ = false := by
  have hl := h.1
  have h1 := World.ownsRow.cellAt h j (by omega)
  obtain ⟨_, ⟨h0, _⟩ | ⟨g', cap', cur, he, hb, hg, _⟩⟩ := h
  · cases h0
  · cases he
    exact ⟨_, h1.trans (List.getElem?_eq_getElem (by omega)), frozen_of_row w g _ cur T hg⟩
/-- A cell of a row of one's own stored, in a list of assertions. -/
theorem SH.setOwn {M : Nat → Prop} {w0 w : World} {L : List Asr} (H : SH M w0 w L) (k : Nat) {T : TypeId} {g n cap j : Nat} {xs : List Value} (u : Value) (hA : L[k]? = some (ownA T 1 (.slice (some ⟨g, 0, none⟩) n cap) n xs)) (hj : j < n) :
    SH M w0 (w.setCell ⟨g, j, none⟩ u) (L.set k (ownA T 1 (.slice (some ⟨g, 0, none⟩) n cap) n (xs.set j u))) :=
  H.upd k hA ((Ext.setCell w ⟨g, j, none⟩ u).mono (fun i _ hi => by simp only at hi; subst hi; rfl)) (ownSet1 u (H.get k hA) hj) (fun i hi => ⟨.inl hi, by have h5 := (World.ownsRow.lt (H.get k hA) i hi).2; simpa using h5⟩)

def DS.settle (d : DS) (i : Nat) : DS := { d with sure := d.sure.set i (d.is i), pend := d.pend.filter (fun p => p.1 != (i : Int)) }
theorem getE_filter (es : List (Int × St)) (i k : Int) : getE (es.filter (fun p => p.1 != i)) k = if k = i then none else getE es k := by
  induction es with
  | nil => simp [getE_nil]
  | cons p es ih =>
    rw [getE_cons]
    by_cases hp : p.1 = i
    · rw [List.filter_cons_of_neg (by simp [hp]), ih]
      by_cases hk : k = i
      · rw [if_pos hk, if_pos hk]
      · rw [if_neg hk, if_neg hk, if_neg (by omega)]
    · rw [List.filter_cons_of_pos (by simpa using hp), getE_cons]
      by_cases hk : k = p.1
      · rw [if_pos hk, if_neg (by omega), if_pos hk]
      · rw [if_neg hk, ih, if_neg hk]
theorem DS.settle_is (d : DS) (i k : Nat) (hi : i < d.sure.length) : (d.settle i).is (k : Int) = d.is (k : Int) := by
  unfold DS.is DS.settle
  simp only [getE_filter, Int.toNat_natCast]
  by_cases hk : k = i
  · subst hk
    simp [hi, List.getD_eq_getElem?_getD]
    unfold DS.is
    simp [hi, List.getD_eq_getElem?_getD]
  · rw [if_neg (by omega)]
    congr 1
    rw [List.getD_eq_getElem?_getD, List.getD_eq_getElem?_getD, List.getElem?_set_ne (by omega)]
def Rf.RM.settle (r : RM) (i : Nat) : RM := { r with ss := r.ss.set i (r.gs.getD i (.slice none 0 0)), old := r.old.set i (r.age.getD i 0), wet := r.wet.set i false }
theorem Rf.RM.Ok.settle {r : RM} {d : DS} (h : r.Ok d) {i : Nat} (hi : i < d.sure.length) : (r.settle i).Ok (d.settle i) := by
  have hlen : (d.settle i).sure.length = d.sure.length := by simp [DS.settle]
  refine ⟨by rw [hlen]; exact h.gl, by rw [hlen]; simpa [RM.settle] using h.sl, ?_, ?_, ?_, ?_, ?_, h.f, h.m⟩
  · intro k hk
    rw [DS.settle_is d i k hi]
    exact h.g k hk
  · intro k hk
    have hk2 : k < r.ss.length := by simpa [RM.settle] using hk
    show ((r.ss.set i (r.gs.getD i (.slice none 0 0)))[k]'(by simpa using hk2), ((d.sure.set i (d.is i)).getD k St.zero).bytes) ∈ r.bv
    by_cases hki : k = i
    · subst hki
      have hg : k < r.gs.length := by rw [h.gl]; exact hi
      simp [List.getD_eq_getElem?_getD, hi, hg]
      exact h.g k hg
    · rw [List.getElem_set_ne (by omega), show (d.sure.set i (d.is i)).getD k St.zero = d.sure.getD k St.zero by rw [List.getD_eq_getElem?_getD, List.getElem?_set_ne (by omega), ← List.getD_eq_getElem?_getD]]
      exact h.s k hk2
  · rw [hlen]
    show r.age = _
    rw [h.age]
    exact List.map_congr_left fun k _ => by rw [DS.settle_is d i k hi]
  · show r.old.set i (r.age.getD i 0) = (d.sure.set i (d.is i)).map (·.wr)
    rw [List.map_set, h.old, h.age]
    congr 1
    simp [List.getD_eq_getElem?_getD, hi]
  · rw [hlen]
    show r.wet.set i false = _
    rw [h.wet]
    apply List.ext_getElem
    · simp
    · intro k h1 h2
      simp only [List.getElem_set, List.getElem_map, List.getElem_range, DS.settle, getE_filter]
      by_cases hki : i = k
      · subst hki; simp
      · rw [if_neg hki, if_neg (by omega)]

set_option maxRecDepth 100000 in
set_option maxHeartbeats 4000000 in
theorem settle_any {M : Nat → Prop} {w0 w : World} {b : Nat} {r : RM} {d : DS} (H : SH M w0 w (r.L b)) (hr : r.Ok d) (hl : d.sure.length ≤ 4096) (i : Nat) (hi : i < d.sure.length) :
    Calls Tryz.prog 46 #[.pointer (some ⟨b, 0, none⟩), .int .i64 (i : Int)] w fun e w' => e = .returned (.tuple #[]) ∧ SH M w0 w' ((r.settle i).L b) := by
  have e1 := hr.gl
  have e2 := hr.sl
  have e3 : r.age.length = d.sure.length := by rw [hr.age]; simp
  have e4 : r.old.length = d.sure.length := by rw [hr.old]; simp
  have e5 : r.wet.length = d.sure.length := by rw [hr.wet]; simp
  have hrow1 := H.get 1 rfl
  have hrow2 := H.get 2 rfl
  have hrow3 := H.get 3 rfl
  have hrow4 := H.get 4 rfl
  have hrow5 := H.get 5 rfl
  obtain ⟨Ag, cg, hvv, _⟩ := (H.get 6 (A := bytesA r.bv) rfl _ (hr.g i (by omega))).len
  clear hr
  obtain ⟨v1, v2, v3, v4, v5, gs, ss, age, old, wet, f, m, bv⟩ := r
  simp only at e1 e2 e3 e4 e5 hvv
  dsimp only at hrow1 hrow2 hrow3 hrow4 hrow5
  have shape : ∀ {T : TypeId} {v : Value} {n : Nat} {xs : List Value}, w.ownsRow 0 T 1 v n xs → 0 < n → ∃ g c, v = .slice (some ⟨g, 0, none⟩) n c := fun h h0 => by
    rcases h.2 with ⟨_, h1⟩ | ⟨g, c, cur, h1, _⟩
    · omega
    · exact ⟨g, c, h1⟩
  obtain ⟨g1, c1, rfl⟩ := shape hrow1 (by omega)
  obtain ⟨g2, c2, rfl⟩ := shape hrow2 (by omega)
  obtain ⟨g3, c3, rfl⟩ := shape hrow3 (by omega)
  obtain ⟨g4, c4, rfl⟩ := shape hrow4 (by omega)
  obtain ⟨g5, c5, rfl⟩ := shape hrow5 (by omega)
  clear hrow1 hrow2 hrow3 hrow4 hrow5 shape
  simp only [RM.L, RM.cells] at H
  have H1 := H.drop (L' := [_, _, _]) (List.Sublist.cons_cons _ (List.Sublist.cons_cons _ (List.Sublist.cons _ (List.Sublist.cons_cons _ (List.nil_sublist _)))))
  have i1 : i < gs.length := by omega
  have i2 : i < ss.length := by omega
  have i3 : i < age.length := by omega
  have i4 : i < old.length := by omega
  have i5 : i < wet.length := by omega
  have j1 : (i : Int) < (gs.length : Int) := by omega
  have j2 : (i : Int) < (ss.length : Int) := by omega
  have j3 : (i : Int) < (age.length : Int) := by omega
  have j4 : (i : Int) < (old.length : Int) := by omega
  have j5 : (i : Int) < (wet.length : Int) := by omega
  have hvg : ∃ gv, gs[i] = gv := ⟨_, rfl⟩
  obtain ⟨gv, hgv⟩ := hvg
  have hva : ∃ av, age[i] = av := ⟨_, rfl⟩
  obtain ⟨av, hav⟩ := hva
  have hl1 : ∀ {w' : World}, SH M w0 w' [pt b (.cells #[.slice (some ⟨g1, 0, none⟩) gs.length c1, .slice (some ⟨g2, 0, none⟩) ss.length c2, .slice (some ⟨g3, 0, none⟩) age.length c3, .slice (some ⟨g4, 0, none⟩) old.length c4, .slice (some ⟨g5, 0, none⟩) wet.length c5, .int .i64 f, .int .i64 m] 48 (0, 0)), ownA 22 1 (.slice (some ⟨g1, 0, none⟩) gs.length c1) gs.length gs, ownA 3 1 (.slice (some ⟨g3, 0, none⟩) age.length c3) age.length (age.map (Value.int .i64))] →
      w'.cell? ⟨g1, i, none⟩ = some gv ∧ w'.cell? ⟨g3, i, none⟩ = some (.int .i64 av) := fun h => by
    have h1 := World.ownsRow.cellAt (h.get 1 rfl) i (by omega)
    have h3 := World.ownsRow.cellAt (h.get 2 rfl) i (by omega)
    rw [List.getElem?_eq_getElem i1, hgv] at h1
    rw [List.getElem?_map, List.getElem?_eq_getElem i3, hav] at h3
    exact ⟨h1, h3⟩
  have hgv1 : gv.cells = #[gv] ∧ gv.oneCell' = true := by rw [← hgv, hvv]; exact ⟨rfl, rfl⟩
  go_enter Tryz.func46, Tryz.ntmps46
  go_wp2_with fail
  refine D_start H1 (by kernel_rfl) (fun hS => ?_)
  try simp only [Act.put, List.setIfInBounds_toArray, List.set_cons_succ, List.set_cons_zero]
  refine D_take 0 (v := ?_) rfl (by kernel_rfl) (by kernel_rfl) (by kernel_rfl) (fun _ _ _ h => h) rfl (by rfl) (fun W hS => ?_) hS ?_
  rotate_left; (focus (first | (go_simp; done) | (go_simp; with_reducible rfl) | (go_simp; rfl))); all_goals skip; (try simp only [List.set_cons_succ, List.set_cons_zero])
  refine D_take 1 (v := ?_) rfl (by kernel_rfl) (by kernel_rfl) (by kernel_rfl) (fun _ _ _ h => h) rfl (by rfl) (fun W hS => ?_) hS ?_
  rotate_left; (focus (first | (go_simp; done) | (go_simp; with_reducible rfl) | (go_simp; rfl))); all_goals skip; (try simp only [List.set_cons_succ, List.set_cons_zero])
  refine D_take 2 (v := ?_) rfl (by kernel_rfl) (by kernel_rfl) (by kernel_rfl) (fun _ _ _ h => h) rfl (by rfl) (fun W hS => ?_) hS ?_
  rotate_left; (focus (first | (go_simp; done) | (go_simp; with_reducible rfl) | (go_simp; rfl))); all_goals skip; (try simp only [List.set_cons_succ, List.set_cons_zero])
  refine D_take 3 (v := ?_) rfl (by kernel_rfl) (by kernel_rfl) (by kernel_rfl) (fun _ _ _ h => h) rfl (by rfl) (fun W hS => ?_) hS ?_
  rotate_left; (focus (first | (refine R_load1 (ty := 33) (x := Operand.tmp 6) rfl hS 0 rfl rfl ?_ Tryz.isAgg33; rfl))); all_goals skip; (try simp only [List.set_cons_succ, List.set_cons_zero, List.getElem_toArray, List.getElem_cons_succ, List.getElem_cons_zero])
  refine D_take 4 (v := ?_) rfl (by kernel_rfl) (by kernel_rfl) (by kernel_rfl) (fun _ _ _ h => h) rfl (by rfl) (fun W hS => ?_) hS ?_
  rotate_left; (focus (first | (go_simp; done) | (go_simp; with_reducible rfl) | (go_simp; rfl))); all_goals skip; (try simp only [List.set_cons_succ, List.set_cons_zero])
  refine D_take 5 (v := ?_) rfl (by kernel_rfl) (by kernel_rfl) (by kernel_rfl) (fun _ _ _ h => h) rfl (by rfl) (fun W hS => ?_) hS ?_
  rotate_left; (focus (first | (go_simp; done) | (go_simp; with_reducible rfl) | (go_simp; rfl))); all_goals skip; (try simp only [List.set_cons_succ, List.set_cons_zero])
  refine D_take 6 (v := ?_) rfl (by kernel_rfl) (by kernel_rfl) (by kernel_rfl) (fun _ _ _ h => h) rfl (by rfl) (fun W hS => ?_) hS ?_
  rotate_left; (focus (first | (go_simp; done) | (go_simp; with_reducible rfl) | (go_simp; rfl))); all_goals skip; (try simp only [List.set_cons_succ, List.set_cons_zero])
  refine D_take 7 (v := ?_) rfl (by kernel_rfl) (by kernel_rfl) (by kernel_rfl) (fun _ _ _ h => h) rfl (by rfl) (fun W hS => ?_) hS ?_
  rotate_left; (focus (first | (go_simp; done) | (go_simp; with_reducible rfl) | (go_simp; rfl))); all_goals skip; (try simp only [List.set_cons_succ, List.set_cons_zero])
  refine D_take 8 (v := ?_) rfl (by kernel_rfl) (by kernel_rfl) (by kernel_rfl) (fun _ _ _ h => h) rfl (by rfl) (fun W hS => ?_) hS ?_
  rotate_left; (focus (first | (refine R_load1 (ty := 45) (x := Operand.tmp 11) rfl hS 0 rfl rfl ?_ Tryz.isAgg45; rfl))); all_goals skip; (try simp only [List.set_cons_succ, List.set_cons_zero, List.getElem_toArray, List.getElem_cons_succ, List.getElem_cons_zero])
  refine D_take 9 (v := ?_) rfl (by kernel_rfl) (by kernel_rfl) (by kernel_rfl) (fun _ _ _ h => h) rfl (by rfl) (fun W hS => ?_) hS ?_
  rotate_left; (focus (first | (go_simp; done) | (go_simp; with_reducible rfl) | (go_simp; rfl))); all_goals skip; (try simp only [List.set_cons_succ, List.set_cons_zero])
  refine D_take 10 (v := ?_) rfl (by kernel_rfl) (by kernel_rfl) (by kernel_rfl) (fun _ _ _ h => h) rfl (by rfl) (fun W hS => ?_) hS ?_
  rotate_left; (focus (first | (go_simp; done) | (go_simp; with_reducible rfl) | (go_simp; rfl))); all_goals skip; (try simp only [List.set_cons_succ, List.set_cons_zero])
  refine D_take 11 (v := ?_) rfl (by kernel_rfl) (by kernel_rfl) (by kernel_rfl) (fun _ _ _ h => h) rfl (by rfl) (fun W hS => ?_) hS ?_
  rotate_left; (focus (first | (go_simp; done) | (go_simp; with_reducible rfl) | (go_simp; rfl))); all_goals skip; (try simp only [List.set_cons_succ, List.set_cons_zero])
  refine D_take 12 (v := ?_) rfl (by kernel_rfl) (by kernel_rfl) (by kernel_rfl) (fun _ _ _ h => h) rfl (by rfl) (fun W hS => ?_) hS ?_
  rotate_left; (focus (first | (go_simp; done) | (go_simp; with_reducible rfl) | (go_simp; rfl))); all_goals skip; (try simp only [List.set_cons_succ, List.set_cons_zero])
  refine D_take 13 (v := ?_) rfl (by kernel_rfl) (by kernel_rfl) (by kernel_rfl) (fun _ _ _ h => h) rfl (by rfl) (fun W hS => ?_) hS ?_
  rotate_left; (focus (first | (refine R_load1 (ty := 46) (x := Operand.tmp 16) rfl hS 0 rfl rfl ?_ Tryz.isAgg46; rfl))); all_goals skip; (try simp only [List.set_cons_succ, List.set_cons_zero, List.getElem_toArray, List.getElem_cons_succ, List.getElem_cons_zero])
  refine D_take 14 (v := ?_) rfl (by kernel_rfl) (by kernel_rfl) (by kernel_rfl) (fun _ _ _ h => h) rfl (by rfl) (fun W hS => ?_) hS ?_
  rotate_left; (focus (first | (go_simp; done) | (go_simp; with_reducible rfl) | (go_simp; rfl))); all_goals skip; (try simp only [List.set_cons_succ, List.set_cons_zero])
  refine D_take 15 (v := ?_) rfl (by kernel_rfl) (by kernel_rfl) (by kernel_rfl) (fun _ _ _ h => h) rfl (by rfl) (fun W hS => ?_) hS ?_
  rotate_left; (focus (first | (go_simp; done) | (go_simp; with_reducible rfl) | (go_simp; rfl))); all_goals skip; (try simp only [List.set_cons_succ, List.set_cons_zero])
  refine D_take 16 (v := ?_) rfl (by kernel_rfl) (by kernel_rfl) (by kernel_rfl) (fun _ _ _ h => h) rfl (by rfl) (fun W hS => ?_) hS ?_
  rotate_left; (focus (first | (go_simp; done) | (go_simp; with_reducible rfl) | (go_simp; rfl))); all_goals skip; (try simp only [List.set_cons_succ, List.set_cons_zero])
  refine D_take 17 (v := ?_) rfl (by kernel_rfl) (by kernel_rfl) (by kernel_rfl) (fun _ _ _ h => h) rfl (by rfl) (fun W hS => ?_) hS ?_
  rotate_left; (focus (first | (go_simp; done) | (go_simp; with_reducible rfl) | (go_simp; rfl))); all_goals skip; (try simp only [List.set_cons_succ, List.set_cons_zero])
  refine D_take 18 (v := ?_) rfl (by kernel_rfl) (by kernel_rfl) (by kernel_rfl) (fun _ _ _ h => h) rfl (by rfl) (fun W hS => ?_) hS ?_
  rotate_left; (focus (first | (refine R_load1 (ty := 33) (x := Operand.tmp 21) rfl hS 0 rfl rfl ?_ Tryz.isAgg33; rfl))); all_goals skip; (try simp only [List.set_cons_succ, List.set_cons_zero, List.getElem_toArray, List.getElem_cons_succ, List.getElem_cons_zero])
  refine D_take 19 (v := ?_) rfl (by kernel_rfl) (by kernel_rfl) (by kernel_rfl) (fun _ _ _ h => h) rfl (by rfl) (fun W hS => ?_) hS ?_
  rotate_left; (focus (first | (go_simp; done) | (go_simp; with_reducible rfl) | (go_simp; rfl))); all_goals skip; (try simp only [List.set_cons_succ, List.set_cons_zero])
  refine D_take 20 (v := ?_) rfl (by kernel_rfl) (by kernel_rfl) (by kernel_rfl) (fun _ _ _ h => h) rfl (by rfl) (fun W hS => ?_) hS ?_
  rotate_left; (focus (first | (go_simp; done) | (go_simp; with_reducible rfl) | (go_simp; rfl))); all_goals skip; (try simp only [List.set_cons_succ, List.set_cons_zero])
  refine D_take 21 (v := gv) rfl (by kernel_rfl) (by kernel_rfl) (by kernel_rfl) (fun _ _ _ h => h) rfl (by rfl) (fun W hS => R_loadCell' (ty := 22) (x := .tmp 24) (p := ⟨g1, i, none⟩) rfl rfl (hl1 hS).1 Tryz.isAgg22) hS ?_; (try simp only [List.set_cons_succ, List.set_cons_zero])
  refine D_take 22 (v := ?_) rfl (by kernel_rfl) (by kernel_rfl) (by kernel_rfl) (fun _ _ _ h => h) rfl (by rfl) (fun W hS => ?_) hS ?_
  rotate_left; (focus (first | (go_simp; done) | (go_simp; with_reducible rfl) | (go_simp; rfl))); all_goals skip; (try simp only [List.set_cons_succ, List.set_cons_zero])
  refine D_take 23 (v := ?_) rfl (by kernel_rfl) (by kernel_rfl) (by kernel_rfl) (fun _ _ _ h => h) rfl (by rfl) (fun W hS => ?_) hS ?_
  rotate_left; (focus (first | (go_simp; done) | (go_simp; with_reducible rfl) | (go_simp; rfl))); all_goals skip; (try simp only [List.set_cons_succ, List.set_cons_zero])
  refine D_take 24 (v := ?_) rfl (by kernel_rfl) (by kernel_rfl) (by kernel_rfl) (fun _ _ _ h => h) rfl (by rfl) (fun W hS => ?_) hS ?_
  rotate_left; (focus (first | (go_simp; done) | (go_simp; with_reducible rfl) | (go_simp; rfl))); all_goals skip; (try simp only [List.set_cons_succ, List.set_cons_zero])
  refine D_take 25 (v := ?_) rfl (by kernel_rfl) (by kernel_rfl) (by kernel_rfl) (fun _ _ _ h => h) rfl (by rfl) (fun W hS => ?_) hS ?_
  rotate_left; (focus (first | (refine R_load1 (ty := 45) (x := Operand.tmp 28) rfl hS 0 rfl rfl ?_ Tryz.isAgg45; rfl))); all_goals skip; (try simp only [List.set_cons_succ, List.set_cons_zero, List.getElem_toArray, List.getElem_cons_succ, List.getElem_cons_zero])
  refine D_take 26 (v := ?_) rfl (by kernel_rfl) (by kernel_rfl) (by kernel_rfl) (fun _ _ _ h => h) rfl (by rfl) (fun W hS => ?_) hS ?_
  rotate_left; (focus (first | (go_simp; done) | (go_simp; with_reducible rfl) | (go_simp; rfl))); all_goals skip; (try simp only [List.set_cons_succ, List.set_cons_zero])
  refine D_take 27 (v := ?_) rfl (by kernel_rfl) (by kernel_rfl) (by kernel_rfl) (fun _ _ _ h => h) rfl (by rfl) (fun W hS => ?_) hS ?_
  rotate_left; (focus (first | (go_simp; done) | (go_simp; with_reducible rfl) | (go_simp; rfl))); all_goals skip; (try simp only [List.set_cons_succ, List.set_cons_zero])
  refine D_take 28 (v := (.int .i64 av)) rfl (by kernel_rfl) (by kernel_rfl) (by kernel_rfl) (fun _ _ _ h => h) rfl (by rfl) (fun W hS => R_loadCell' (ty := 3) (x := .tmp 31) (p := ⟨g3, i, none⟩) rfl rfl (hl1 hS).2 Tryz.isAgg3) hS ?_; (try simp only [List.set_cons_succ, List.set_cons_zero])
  refine D_take 29 (v := ?_) rfl (by kernel_rfl) (by kernel_rfl) (by kernel_rfl) (fun _ _ _ h => h) rfl (by rfl) (fun W hS => ?_) hS ?_
  rotate_left; (focus (first | (go_simp; done) | (go_simp; with_reducible rfl) | (go_simp; rfl))); all_goals skip; (try simp only [List.set_cons_succ, List.set_cons_zero])
  refine D_one 30 rfl (by kernel_rfl) (by rfl) ?_
  have HW := H.drew
  obtain ⟨u2, hu2, hf2⟩ := ownCell (HW.get 2 rfl) i2
  have HW1 := HW.setOwn 2 gv rfl i2
  simp only [List.set_cons_succ, List.set_cons_zero] at HW1
  clear hS
  have hS := HW1.drop (L' := [_, _, _]) (List.Sublist.cons_cons _ (List.Sublist.cons_cons _ (List.Sublist.cons _ (List.Sublist.cons_cons _ (List.nil_sublist _)))))
  refine wp_of_skip (R_store1 (ty := 22) (x := .tmp 33) (y := .tmp 25) (g := g2) (j := i) (v := gv) rfl rfl rfl hgv1.1 hgv1.2 hu2 hf2 Tryz.sizeOf22) ⟨hS, ?_⟩
  try simp only [Act.put, List.getElem_toArray, List.getElem_cons_succ, List.getElem_cons_zero, List.setIfInBounds_toArray, List.set_cons_succ, List.set_cons_zero]
  refine D_take 31 (v := ?_) rfl (by kernel_rfl) (by kernel_rfl) (by kernel_rfl) (fun _ _ _ h => h) rfl (by rfl) (fun W hS => ?_) hS ?_
  rotate_left; (focus (first | (go_simp; done) | (go_simp; with_reducible rfl) | (go_simp; rfl))); all_goals skip; (try simp only [List.set_cons_succ, List.set_cons_zero])
  refine D_one 32 rfl (by kernel_rfl) (by rfl) ?_
  obtain ⟨u4, hu4, hf4⟩ := ownCell (HW1.get 4 rfl) i4
  have HW2 := HW1.setOwn 4 (.int .i64 av) rfl i4
  simp only [List.set_cons_succ, List.set_cons_zero] at HW2
  clear hS
  have hS := HW2.drop (L' := [_, _, _]) (List.Sublist.cons_cons _ (List.Sublist.cons_cons _ (List.Sublist.cons _ (List.Sublist.cons_cons _ (List.nil_sublist _)))))
  refine wp_of_skip (R_store1 (ty := 3) (x := .tmp 34) (y := .tmp 32) (g := g4) (j := i) (v := .int .i64 av) rfl rfl rfl rfl rfl hu4 hf4 Tryz.sizeOf3) ⟨hS, ?_⟩
  try simp only [Act.put, List.getElem_toArray, List.getElem_cons_succ, List.getElem_cons_zero, List.setIfInBounds_toArray, List.set_cons_succ, List.set_cons_zero]
  refine D_take 33 (v := ?_) rfl (by kernel_rfl) (by kernel_rfl) (by kernel_rfl) (fun _ _ _ h => h) rfl (by rfl) (fun W hS => ?_) hS ?_
  rotate_left; (focus (first | (go_simp; done) | (go_simp; with_reducible rfl) | (go_simp; rfl))); all_goals skip; (try simp only [List.set_cons_succ, List.set_cons_zero])
  refine D_one 34 rfl (by kernel_rfl) (by rfl) ?_
  obtain ⟨u5, hu5, hf5⟩ := ownCell (HW2.get 5 rfl) i5
  have HW3 := HW2.setOwn 5 (.bool false) rfl i5
  simp only [List.set_cons_succ, List.set_cons_zero] at HW3
  clear hS
  have hS := HW3.drop (L' := [_, _, _]) (List.Sublist.cons_cons _ (List.Sublist.cons_cons _ (List.Sublist.cons _ (List.Sublist.cons_cons _ (List.nil_sublist _)))))
  refine wp_of_skip (R_store1 (ty := 4) (x := .tmp 35) (y := .const (.bool false)) (g := g5) (j := i) (v := .bool false) rfl rfl rfl rfl rfl hu5 hf5 Tryz.sizeOf4) ⟨hS, ?_⟩
  try simp only [Act.put, List.getElem_toArray, List.getElem_cons_succ, List.getElem_cons_zero, List.setIfInBounds_toArray, List.set_cons_succ, List.set_cons_zero]
  refine wpAnyH_done (by kernel_rfl) ?_ _
  go_wp2_with fail
  go_end0
  refine ⟨rfl, ?_⟩
  simp only [RM.L, RM.cells, RM.settle, List.length_set, List.map_set]
  rw [show gs.getD i (.slice none 0 0) = gv by rw [List.getD_eq_getElem?_getD, List.getElem?_eq_getElem i1, hgv]; rfl, show age.getD i 0 = av by rw [List.getD_eq_getElem?_getD, List.getElem?_eq_getElem i3, hav]; rfl]
  exact HW3
end Go.Proofs.YtgmeahogdjhejaaGreatDoor
namespace Go.Proofs.YtgmeahogdjhejaaGreatDoor
set_option linter.unusedVariables false
set_option linter.unusedSimpArgs false
open Rf (RefA RM grown row_shape row_len R_store1 infoU8 bytesA)
open Go.RowKit

def Rf.RM.fused (r : RM) (f : Int) : RM := { r with f := f }
theorem Rf.RM.Ok.spend {r : RM} {d : DS} (h : r.Ok d) (hf : -1 ≤ d.fuse) : (r.fused (if 0 < r.f then r.f - 1 else r.f)).Ok d.spend.1 := by
  have h1 := h.f
  unfold DS.spend
  by_cases ha : d.fuse = -1
  · rw [if_pos ha]
    have := h1.2.1 (by omega)
    rw [if_neg (by omega)]
    exact h
  · rw [if_neg ha]
    by_cases hb : d.fuse = 0
    · rw [if_pos hb]
      have := h1.1 (by omega)
      rw [if_neg (by omega)]
      exact h
    · rw [if_neg hb]
      have := h1.1 (by omega)
      rw [if_pos (by omega)]
      exact ⟨h.gl, h.sl, h.g, h.s, h.age, h.old, h.wet, ⟨fun _ => by show r.f - 1 = d.fuse - 1; omega, fun hh => by simp only at hh; omega, by show _ ≤ r.f - 1; omega⟩, h.m⟩
theorem spend_bool {r : RM} {d : DS} (h : r.Ok d) (hf : -1 ≤ d.fuse) : d.spend.2 = (r.f != 0) := by
  have h1 := h.f
  unfold DS.spend
  by_cases ha : d.fuse = -1
  · rw [if_pos ha]
    have := h1.2.1 (by omega)
    simp; omega
  · rw [if_neg ha]
    by_cases hb : d.fuse = 0
    · rw [if_pos hb]
      have := h1.1 (by omega)
      simp; omega
    · rw [if_neg hb]
      have := h1.1 (by omega)
      simp; omega

set_option maxHeartbeats 1000000 in
theorem goes_any {M : Nat → Prop} {w0 w : World} {b : Nat} {r : RM} {d : DS} (H : SH M w0 w (r.L b)) (hr : r.Ok d) (hf : -1 ≤ d.fuse) (hf2 : d.fuse ≤ 9223372036854775807) :
    Calls Tryz.prog 66 #[.pointer (some ⟨b, 0, none⟩)] w fun e w' => e = .returned (.bool d.spend.2) ∧ SH M w0 w' ((r.fused (if 0 < r.f then r.f - 1 else r.f)).L b) := by
  rw [spend_bool hr hf]
  have hb : w.heap[b]? = some (.cells r.cells 48 (0, 0)) := H.at_ 0 rfl
  have hc5 : w.cell? ⟨b, 5, none⟩ = some (.int .i64 r.f) := cell_of_row w b 5 _ _ _ hb
  have hf5 := frozen_of_row w b 5 _ _ hb
  have hbd := hr.f
  have hfb : r.f ≤ 9223372036854775807 := by
    by_cases h0 : 0 ≤ d.fuse
    · have := hbd.1 h0; omega
    · have := hbd.2.1 (by omega); omega
  have hfl := hbd.2.2
  have H5 := H.setCell (off := 5) 0 (.int .i64 (r.f - 1)) rfl
  by_cases h1 : 0 < r.f
  · rw [if_pos h1, show (r.f != 0) = true by simp; omega]
    have HH5 : Hid (SH M w0 (w.setCell ⟨b, 5, none⟩ (.int .i64 (r.f - 1))) ((r.fused (r.f - 1)).L b)) := Lib.hid H5
    clear hb hr hbd H H5
    generalize (r.fused (r.f - 1)).L b = L' at HH5 ⊢
    generalize r.f = f at *
    go_enter Tryz.func66, Tryz.ntmps66
    go_wp2
    go_ret
    exact ⟨rfl, HH5.out⟩
  · rw [if_neg h1]
    have HH : Hid (SH M w0 w ((r.fused r.f).L b)) := Lib.hid H
    clear hb hr hbd H H5
    generalize (r.fused r.f).L b = L' at HH ⊢
    generalize r.f = f at *
    by_cases hz : f = 0
    · subst hz
      go_enter Tryz.func66, Tryz.ntmps66
      go_wp2
      go_ret
      exact ⟨rfl, HH.out⟩
    · have h9 : f < 0 := by omega
      rw [show (f != 0) = true by simp; omega]
      go_enter Tryz.func66, Tryz.ntmps66
      go_wp2
      go_ret
      exact ⟨rfl, HH.out⟩

/-- How many are pending. -/
theorem count_filter (es : List (Int × St)) : ∀ (n : Nat), (es.map (·.1)).Nodup → (∀ p ∈ es, 0 ≤ p.1 ∧ p.1 < (n : Int)) → (((List.range n).map fun (i : Nat) => (getE es (i : Int)).isSome).countP id) = es.length
  | 0, _, h => by
    cases es with
    | nil => rfl
    | cons p es => have := h p List.mem_cons_self; omega
  | n + 1, hn, h => by
    have hf : ∀ k : Int, getE (es.filter (fun p => p.1 != (n : Int))) k = if k = (n : Int) then none else getE es k := getE_filter es n
    have ih := count_filter (es.filter (fun p => p.1 != (n : Int))) n ((List.filter_sublist.map _).nodup hn) (fun p hp => by
      obtain ⟨h1, h2⟩ := List.mem_filter.1 hp
      have h3 := h p h1
      simp only [bne_iff_ne, ne_eq] at h2
      omega)
    have hsame : ((List.range n).map fun (i : Nat) => (getE (es.filter (fun p => p.1 != (n : Int))) (i : Int)).isSome) = (List.range n).map fun (i : Nat) => (getE es (i : Int)).isSome :=
      List.map_congr_left fun i hi => by
        have := List.mem_range.1 hi
        rw [hf, if_neg (by omega)]
    rw [hsame] at ih
    rw [List.range_succ, List.map_append, List.countP_append, ih]
    have hlen : es.length = (es.filter (fun p => p.1 != (n : Int))).length + (if (getE es (n : Int)).isSome then 1 else 0) := by
      clear ih hsame hf h
      induction es with
      | nil => simp [getE_nil]
      | cons p es ih =>
        have hn2 := List.nodup_cons.1 hn
        have ih2 := ih hn2.2
        by_cases hp : p.1 = (n : Int)
        · have hg : getE (p :: es) (n : Int) = some p.2 := by rw [getE_cons, if_pos hp.symm]
          have hno : getE es (n : Int) = none := getE_none.2 (by rw [← hp]; exact hn2.1)
          rw [List.filter_cons_of_neg (by simp [hp]), hg]
          rw [hno] at ih2
          simp at ih2 ⊢
          omega
        · have hg : getE (p :: es) (n : Int) = getE es (n : Int) := by rw [getE_cons, if_neg (fun e => hp e.symm)]
          rw [List.filter_cons_of_pos (by simpa using hp), hg]
          simp only [List.length_cons]
          omega
    rw [hlen]
    congr 1
    simp only [List.map_cons, List.map_nil, List.countP_cons, List.countP_nil, id]
    omega

def DS.settleN (d : DS) : Nat → DS
  | 0 => d
  | n + 1 => (d.settleN n).settle n
def Rf.RM.settleN (r : RM) : Nat → RM
  | 0 => r
  | n + 1 => (r.settleN n).settle n
theorem DS.settleN_len (d : DS) : ∀ n, (d.settleN n).sure.length = d.sure.length
  | 0 => rfl
  | n + 1 => by show ((d.settleN n).sure.set n _).length = _; rw [List.length_set, d.settleN_len n]
theorem Rf.RM.Ok.settleN {r : RM} {d : DS} (h : r.Ok d) : ∀ n, n ≤ d.sure.length → (r.settleN n).Ok (d.settleN n)
  | 0, _ => h
  | n + 1, hn => (h.settleN n (by omega)).settle (by rw [d.settleN_len]; omega)
theorem Rf.RM.settleN_v1 (r : RM) : ∀ n, (r.settleN n).v1 = r.v1 ∧ (r.settleN n).gs = r.gs
  | 0 => ⟨rfl, rfl⟩
  | n + 1 => r.settleN_v1 n
theorem DS.settleN_is (d : DS) (k : Nat) : ∀ n, n ≤ d.sure.length → (d.settleN n).is (k : Int) = d.is (k : Int)
  | 0, _ => rfl
  | n + 1, hn => by
    show ((d.settleN n).settle n).is k = _
    rw [DS.settle_is _ n k (by rw [d.settleN_len]; omega), d.settleN_is k n (by omega)]
theorem DS.settleN_pend (d : DS) : ∀ n, ∀ p ∈ (d.settleN n).pend, p ∈ d.pend ∧ ¬ (0 ≤ p.1 ∧ p.1 < (n : Int))
  | 0, p, hp => ⟨hp, by omega⟩
  | n + 1, p, hp => by
    have h1 : p ∈ (d.settleN n).pend.filter (fun p => p.1 != (n : Int)) := hp
    obtain ⟨h2, h3⟩ := List.mem_filter.1 h1
    have h4 := d.settleN_pend n p h2
    simp only [bne_iff_ne, ne_eq] at h3
    exact ⟨h4.1, by omega⟩
/-- All of them settled. -/
theorem DS.settleN_all (d : DS) (hp : ∀ p ∈ d.pend, 0 ≤ p.1 ∧ p.1 < (d.sure.length : Int)) : (d.settleN d.sure.length).pend = [] ∧ ∀ k : Nat, k < d.sure.length → (d.settleN d.sure.length).sure.getD k St.zero = d.is (k : Int) := by
  have h1 : (d.settleN d.sure.length).pend = [] := by
    apply List.eq_nil_iff_forall_not_mem.2
    intro p h
    have h2 := d.settleN_pend _ p h
    exact h2.2 (hp p h2.1)
  refine ⟨h1, fun k hk => ?_⟩
  have h2 := d.settleN_is k _ (Nat.le_refl _)
  rw [← h2]
  unfold DS.is
  rw [h1, getE_nil]
  simp
theorem DS.settleN_rest (d : DS) : ∀ n, (d.settleN n).fuse = d.fuse ∧ (d.settleN n).writes = d.writes
  | 0 => ⟨rfl, rfl⟩
  | n + 1 => d.settleN_rest n

def FlRel' (b : Nat) (r : RM) (n : Nat) (M : Nat → Prop) (w0 : World) (vi : Value) (wr : World) : Prop :=
  ∃ k : Nat, vi = .int .i64 (k : Int) ∧ k ≤ n ∧ SH M w0 wr ((r.settleN k).L b)
set_option maxRecDepth 100000 in
set_option maxHeartbeats 2000000 in
theorem flush_any {M : Nat → Prop} {w0 w : World} {b : Nat} {r : RM} {d : DS} (H : SH M w0 w (r.L b)) (hr : r.Ok d) (hf : -1 ≤ d.fuse) (hf2 : d.fuse ≤ 9223372036854775807) (hl : d.sure.length ≤ 4096) :
    Calls Tryz.prog 36 #[.pointer (some ⟨b, 0, none⟩)] w fun e w' => (e = .returned (.int .i64 (if d.fuse = 0 then 10 else 0)) ∧ ∃ r' : RM, r'.Ok (if d.fuse = 0 then d else d.spend.1.settleN d.sure.length) ∧ SH M w0 w' (r'.L b)) := by
  have hg := goes_any H hr hf hf2
  have hs := hr.spend hf
  have hsp : d.spend.2 = !(decide (d.fuse = 0)) := by
    unfold DS.spend
    by_cases h1 : d.fuse = -1
    · simp [h1]
    · by_cases h2 : d.fuse = 0 <;> simp [h1, h2]
  have hd1 : d.spend.1.sure.length = d.sure.length := by
    unfold DS.spend
    split
    · rfl
    · split <;> rfl
  by_cases hz : d.fuse = 0
  · rw [if_pos hz, if_pos hz]
    have hb : d.spend.2 = false := by rw [hsp]; simp [hz]
    rw [hb] at hg
    have hsd : d.spend.1 = d := by unfold DS.spend; rw [if_neg (by omega), if_pos hz]
    rw [hsd] at hs
    have HS := Lib.hid hs
    clear hs H hr
    go_enter Tryz.func36, Tryz.ntmps36
    go_wp2_with (go_at_call 66; refine hg.mono ?_; rintro e w1 ⟨rfl, H⟩)
    go_ret
    exact ⟨rfl, _, HS.out, H⟩
  · rw [if_neg hz, if_neg hz]
    have hb : d.spend.2 = true := by rw [hsp]; simp [hz]
    rw [hb] at hg
    generalize d.spend.1 = d1 at hs hd1
    generalize r.fused (if 0 < r.f then r.f - 1 else r.f) = r1 at hg hs
    clear H hr hsp hb
    generalize d.sure.length = n at hd1 hl ⊢
    have HS := Lib.hid hs
    have HD := Lib.hid hd1
    clear hs hd1
    go_enter Tryz.func36, Tryz.ntmps36
    go_wp2_with (go_at_call 66; refine hg.mono ?_; rintro e w1 ⟨rfl, H⟩)
    clear hg
    go_loopw [3] (fun vi wr => FlRel' b r1 n M w0 vi wr) (fun vi _ => n - (intOf vi).toNat)
    case atStart => exact ⟨0, rfl, Nat.zero_le _, H⟩
    case round =>
      clear H
      obtain ⟨k, rfl, hk, H⟩ := hrel
      have hok := HS.out.settleN k (by rw [HD.out]; exact hk)
      have hv := r1.settleN_v1 k
      obtain ⟨hc0, _, _, _, _, _, _⟩ := RM.cellsAt (L := []) (by simpa using H)
      have hrow := H.get 1 rfl
      obtain ⟨A, c, hvs⟩ := row_len hrow
      have hgl : (r1.settleN k).gs.length = n := by rw [hok.gl, DS.settleN_len]; exact HD.out
      rw [hvs, hgl] at hc0
      have hset := fun (hi : k < n) => settle_any H hok (by rw [DS.settleN_len, HD.out]; exact hl) k (by rw [DS.settleN_len, HD.out]; exact hi)
      have HOK := Lib.hid hok
      clear hok hv hrow hvs hgl
      by_cases hkn : k < n
      · have hki : (k : Int) < (n : Int) := by omega
        have hset := hset hkn
        go_wp2_with (go_at_call 46; refine hset.mono ?_; clear hc0 H; rintro e w2 ⟨rfl, H⟩)
        refine ⟨⟨k + 1, by go_num, hkn, H⟩, ?_⟩
        simp [intOf]; omega
      · obtain rfl : k = n := by omega
        go_wp2
        go_ret
        exact ⟨rfl, _, HOK.out, H⟩
end Go.Proofs.YtgmeahogdjhejaaGreatDoor
namespace Go.Proofs.YtgmeahogdjhejaaGreatDoor
set_option linter.unusedVariables false
set_option linter.unusedSimpArgs false
open Rf (RefA RM grown row_shape row_len R_store1 infoU8 bytesA)
open Go.RowKit

def PeRel (wet : List Bool) (wS : World) (vn vi : Value) (wr : World) : Prop :=
  ∃ k : Nat, vn = .int .i64 (((wet.take k).countP id : Nat) : Int) ∧ vi = .int .i64 (k : Int) ∧ k ≤ wet.length ∧ wr = wS
theorem SH.merge {M : Nat → Prop} {w0 w : World} {A B : Asr} {L1 : List Asr} (H : SH M w0 w (A :: (L1 ++ [B]))) (C : Asr) (hs : C.says w) (hf : ∀ i, C.fp i → A.fp i ∨ B.fp i) : SH M w0 w (L1 ++ [C]) := by
  have hA : A ∈ A :: (L1 ++ [B]) := List.mem_cons_self
  have hB : B ∈ A :: (L1 ++ [B]) := by simp
  have h1 := List.pairwise_cons.1 H.apart
  have h2 := List.pairwise_append.1 h1.2
  refine ⟨H.ext, ?_, ?_, ?_, ?_⟩
  · intro X hX
    rcases List.mem_append.1 hX with hX | hX
    · exact H.says X (by simp [hX])
    · rw [List.mem_singleton.1 hX]; exact hs
  · intro X hX i hi
    rcases List.mem_append.1 hX with hX | hX
    · exact H.lt X (by simp [hX]) i hi
    · rw [List.mem_singleton.1 hX] at hi
      rcases hf i hi with h | h
      · exact H.lt A hA i h
      · exact H.lt B hB i h
  · intro X hX i hi
    rcases List.mem_append.1 hX with hX | hX
    · exact H.own X (by simp [hX]) i hi
    · rw [List.mem_singleton.1 hX] at hi
      rcases hf i hi with h | h
      · exact H.own A hA i h
      · exact H.own B hB i h
  · refine List.pairwise_append.2 ⟨h2.1, List.pairwise_singleton _ _, fun X hX Y hY i hi hi' => ?_⟩
    rw [List.mem_singleton.1 hY] at hi'
    rcases hf i hi' with h | h
    · exact h1.1 X (by simp [hX]) i h hi
    · exact h2.2.2 X hX B (by simp) i hi h
theorem RdS.keepMb {α : Type} {enc : α → List Value} {k : Nat} {M : Nat → Prop} {w w' : World} {v : Value} {xs : List α} (h : RdS enc k w v xs) (e : Ext M w w') (hM : ∀ b off n c, v = .slice (some ⟨b, off, none⟩) n c → ¬ M b) : RdS enc k w' v xs := by
  obtain ⟨A, cap, rfl, hc, h | ⟨b, off, cs, T, fr, rfl, hb, hcs⟩⟩ := h
  · exact ⟨A, cap, rfl, hc, .inl h⟩
  · exact ⟨_, cap, rfl, hc, .inr ⟨b, off, cs, T, fr, rfl, e.keep hb (hM b off _ _ rfl), hcs⟩⟩

/-- A sector written. -/
def Rf.RM.write (r : RM) (i : Nat) (gv : Value) (xs : List Int) : RM := { r with gs := r.gs.set i gv, age := r.age.set i (r.m + 1), wet := r.wet.set i true, m := r.m + 1, bv := (gv, xs) :: r.bv }
theorem write_is (d : DS) (hn : (d.pend.map (·.1)).Nodup) (i k : Nat) (xs : List Int) : (d.write (i : Int) xs).is (k : Int) = if k = i then ⟨xs, d.writes + 1⟩ else d.is (k : Int) := by
  unfold DS.write DS.is
  simp only [getE_putE d.pend hn]
  by_cases hk : k = i
  · subst hk; simp
  · rw [if_neg (by omega), if_neg hk]
    unfold DS.spend
    split
    · rfl
    · split <;> rfl
theorem Rf.RM.Ok.write {r : RM} {d d1 : DS} (h : r.Ok d1) (hd : d1 = d.spend.1) (hn : (d.pend.map (·.1)).Nodup) {i : Nat} (hi : i < d.sure.length) (gv : Value) (xs : List Int) : (r.write i gv xs).Ok (d.write (i : Int) xs) := by
  have hs : d1.sure = d.sure ∧ d1.pend = d.pend ∧ d1.writes = d.writes := by
    rw [hd]; unfold DS.spend
    split
    · exact ⟨rfl, rfl, rfl⟩
    · split <;> exact ⟨rfl, rfl, rfl⟩
  have hsw : (d.write (i : Int) xs).sure = d.sure := by rw [← hs.1, hd]; rfl
  have his : ∀ k : Nat, d1.is (k : Int) = d.is (k : Int) := fun k => by unfold DS.is; rw [hs.1, hs.2.1]
  refine ⟨?_, ?_, ?_, ?_, ?_, ?_, ?_, ?_, ?_⟩
  · rw [hsw, ← hs.1]; simpa [RM.write] using h.gl
  · rw [hsw, ← hs.1]; exact h.sl
  · intro k hk
    have hk2 : k < r.gs.length := by simpa [RM.write] using hk
    show ((r.gs.set i gv)[k]'(by simpa using hk2), ((d.write (i : Int) xs).is k).bytes) ∈ (gv, xs) :: r.bv
    rw [write_is d hn]
    by_cases hki : k = i
    · subst hki; simp
    · rw [if_neg hki, List.getElem_set_ne (by omega), ← his]
      exact List.mem_cons_of_mem _ (h.g k hk2)
  · intro k hk
    rw [hsw, ← hs.1]
    exact List.mem_cons_of_mem _ (h.s k hk)
  · rw [hsw]
    show r.age.set i (r.m + 1) = _
    rw [h.age, hs.1, h.m, hs.2.2]
    apply List.ext_getElem
    · simp
    · intro k h1 h2
      simp only [List.getElem_set, List.getElem_map, List.getElem_range, write_is d hn]
      by_cases hki : i = k
      · subst hki; simp
      · rw [if_neg hki, if_neg (fun e => hki e.symm), his]
  · rw [hsw, ← hs.1]; exact h.old
  · rw [hsw]
    show r.wet.set i true = _
    rw [h.wet, hs.1, hs.2.1]
    apply List.ext_getElem
    · simp
    · intro k h1 h2
      simp only [List.getElem_set, List.getElem_map, List.getElem_range, DS.write, getE_putE d.pend hn]
      by_cases hki : i = k
      · subst hki; simp
      · rw [if_neg hki, if_neg (by omega)]
  · have hf := h.f
    rw [hd] at hf
    exact hf
  · show r.m + 1 = _
    rw [h.m, hs.2.2]
    rfl

set_option maxRecDepth 100000 in
set_option maxHeartbeats 8000000 in
theorem write_go {M : Nat → Prop} {w0 w : World} {b : Nat} {r : RM} {d : DS} (H : SH M w0 w (r.L b)) (hr : r.Ok d) (hf : -1 ≤ d.fuse) (hf2 : d.fuse ≤ 9223372036854775807) (hl : d.sure.length ≤ 4096) (hn : (d.pend.map (·.1)).Nodup) (hw : -1 ≤ d.writes ∧ d.writes < 9223372036854775807)
    (i : Nat) (hi : i < d.sure.length) (hz : d.fuse ≠ 0) {v : Value} {xs : List Int} (hx : RdS (encInt .u8) 1 w0 v xs) (hM : ∀ b off n c, v = .slice (some ⟨b, off, none⟩) n c → ¬ M b) (h32 : xs.length = 32) :
    Calls Tryz.prog 65 #[.pointer (some ⟨b, 0, none⟩), .int .i64 (i : Int), v] w fun e w' => e = .returned (.int .i64 0) ∧ ∃ r' : RM, r'.Ok (d.write (i : Int) xs) ∧ SH M w0 w' (r'.L b) := by
  have hg := goes_any H hr hf hf2
  have hs := hr.spend hf
  have hb : d.spend.2 = true := by
    unfold DS.spend
    by_cases h1 : d.fuse = -1
    · simp [h1]
    · simp [h1, hz]
  rw [hb] at hg
  have e1 := hr.gl
  have e3 : r.age.length = d.sure.length := by rw [hr.age]; simp
  have e5 : r.wet.length = d.sure.length := by rw [hr.wet]; simp
  have hm := hr.m
  have hrow1 := H.get 1 rfl
  have hrow3 := H.get 3 rfl
  have hrow5 := H.get 5 rfl
  obtain ⟨hc0, _, _, _, _, _, _⟩ := RM.cellsAt (L := []) (by simpa using H)
  generalize (if 0 < r.f then r.f - 1 else r.f) = f' at hg hs
  have HOK := Lib.hid (fun gv => hs.write rfl hn hi gv xs)
  clear hs hr H
  obtain ⟨v1, v2, v3, v4, v5, gs, ss, age, old, wet, f, m, bv⟩ := r
  simp only at e1 e3 e5 hm hc0
  dsimp only at hrow1 hrow3 hrow5
  have shape : ∀ {T : TypeId} {v : Value} {n : Nat} {xs : List Value}, w.ownsRow 0 T 1 v n xs → 0 < n → ∃ g c, v = .slice (some ⟨g, 0, none⟩) n c := fun h h0 => by
    rcases h.2 with ⟨_, h1⟩ | ⟨g, c, cur, h1, _⟩
    · omega
    · exact ⟨g, c, h1⟩
  obtain ⟨g1, c1, rfl⟩ := shape hrow1 (by omega)
  obtain ⟨g3, c3, rfl⟩ := shape hrow3 (by omega)
  obtain ⟨g5, c5, rfl⟩ := shape hrow5 (by omega)
  simp only [RM.fused, RM.L, RM.cells] at hg
  simp only [RM.fused] at HOK
  clear hrow1 hrow3 hrow5 shape
  have i1 : i < gs.length := by omega
  have i3 : i < age.length := by omega
  have i5 : i < wet.length := by omega
  have j1 : (i : Int) < (gs.length : Int) := by omega
  have j3 : (i : Int) < (age.length : Int) := by omega
  have j5 : (i : Int) < (wet.length : Int) := by omega
  have hi0 : ¬ (i : Int) < 0 := by omega
  have m1 : -1 ≤ m := by omega
  have m2 : m < 9223372036854775807 := by omega
  obtain ⟨Av, cv, rfl, hcv⟩ := hx.len
  have hlb : ((xs.length : Nat) : Int) = 32 := by omega
  have hnb : (0 + xs.length) * 1 ≤ 140737488355328 := by omega
  have hnm : 0 + xs.length ≤ maxLen := by simp only [maxLen]; omega
  have HX : Hid (RdS (encInt .u8) 1 w0 (.slice Av 32 cv) xs) := Lib.hid (by rw [← h32]; exact hx)
  have HMM : Hid (∀ b off n c, Value.slice Av 32 cv = .slice (some ⟨b, off, none⟩) n c → ¬ M b) := Lib.hid (by rw [← h32]; exact hM)
  have hgl4 : gs.length ≤ 4096 := by omega
  clear hx hM hb hm e1 e3 e5
  rw [h32]
  go_enter Tryz.func65, Tryz.ntmps65
  go_wp2_with (go_at_call 66; refine hg.mono ?_; clear hc0; rintro e w1 ⟨rfl, H⟩; have hbk := H.at_ 0 rfl; have hc6 := cell_of_row w1 b 6 _ _ _ hbk; have hf6 := frozen_of_row w1 b 6 _ _ hbk; clear hbk)
  have H2 := H.setCell (off := 6) 0 (.int .i64 (m + 1)) rfl
  simp only [List.set_cons_zero] at H2
  have H2' : SH M w0 (w1.setCell ⟨b, 6, none⟩ (.int .i64 (m + 1))) [pt b (.cells #[.slice (some ⟨g1, 0, none⟩) gs.length c1, v2, .slice (some ⟨g3, 0, none⟩) age.length c3, v4, .slice (some ⟨g5, 0, none⟩) wet.length c5, .int .i64 f', .int .i64 (m + 1)] 48 (0, 0)),
      ownA 22 1 (.slice (some ⟨g1, 0, none⟩) gs.length c1) gs.length gs, ownA 22 1 v2 ss.length ss, ownA 3 1 (.slice (some ⟨g3, 0, none⟩) age.length c3) age.length (age.map (Value.int .i64)), ownA 3 1 v4 old.length (old.map (Value.int .i64)),
      ownA 4 1 (.slice (some ⟨g5, 0, none⟩) wet.length c5) wet.length (wet.map Value.bool), bytesA bv] := H2
  clear H H2 hc6 hf6
  have H := H2'
  clear H2'
  generalize w1.setCell ⟨b, 6, none⟩ (.int .i64 (m + 1)) = w2 at H ⊢
  have H3 := H.drop (L' := [_]) (List.Sublist.cons_cons _ (List.nil_sublist _))
  refine D_start H3 (by kernel_rfl) (fun hS => ?_)
  try simp only [Act.put, List.setIfInBounds_toArray, List.set_cons_succ, List.set_cons_zero]
  refine D_take 0 (v := ?_) rfl (by kernel_rfl) (by kernel_rfl) (by kernel_rfl) (fun _ _ _ h => h) rfl (by rfl) (fun W hS => ?_) hS ?_
  rotate_left; (focus (first | (go_simp; done) | (go_simp; with_reducible rfl) | (go_simp; rfl))); all_goals skip; (try simp only [List.set_cons_succ, List.set_cons_zero])
  refine D_take 1 (v := ?_) rfl (by kernel_rfl) (by kernel_rfl) (by kernel_rfl) (fun _ _ _ h => h) rfl (by rfl) (fun W hS => ?_) hS ?_
  rotate_left; (focus (first | (go_simp; done) | (go_simp; with_reducible rfl) | (go_simp; rfl))); all_goals skip; (try simp only [List.set_cons_succ, List.set_cons_zero])
  refine D_take 2 (v := ?_) rfl (by kernel_rfl) (by kernel_rfl) (by kernel_rfl) (fun _ _ _ h => h) rfl (by rfl) (fun W hS => ?_) hS ?_
  rotate_left; (focus (first | (go_simp; done) | (go_simp; with_reducible rfl) | (go_simp; rfl))); all_goals skip; (try simp only [List.set_cons_succ, List.set_cons_zero])
  refine D_take 3 (v := ?_) rfl (by kernel_rfl) (by kernel_rfl) (by kernel_rfl) (fun _ _ _ h => h) rfl (by rfl) (fun W hS => ?_) hS ?_
  rotate_left; (focus (first | (refine R_load1 (ty := 33) (x := Operand.tmp 35) rfl hS 0 rfl rfl ?_ Tryz.isAgg33; rfl))); all_goals skip; (try simp only [List.set_cons_succ, List.set_cons_zero, List.getElem_toArray, List.getElem_cons_succ, List.getElem_cons_zero])
  refine D_take 4 (v := ?_) rfl (by kernel_rfl) (by kernel_rfl) (by kernel_rfl) (fun _ _ _ h => h) rfl (by rfl) (fun W hS => ?_) hS ?_
  rotate_left; (focus (first | (go_simp; done) | (go_simp; with_reducible rfl) | (go_simp; rfl))); all_goals skip; (try simp only [List.set_cons_succ, List.set_cons_zero])
  refine D_take 5 (v := ?_) rfl (by kernel_rfl) (by kernel_rfl) (by kernel_rfl) (fun _ _ _ h => h) rfl (by rfl) (fun W hS => ?_) hS ?_
  rotate_left; (focus (first | (go_simp; done) | (go_simp; with_reducible rfl) | (go_simp; rfl))); all_goals skip; (try simp only [List.set_cons_succ, List.set_cons_zero])
  refine D_take 6 (v := ?_) rfl (by kernel_rfl) (by kernel_rfl) (by kernel_rfl) (fun _ _ _ h => h) rfl (by rfl) (fun W hS => ?_) hS ?_
  rotate_left; (focus (first | (go_simp; done) | (go_simp; with_reducible rfl) | (go_simp; rfl))); all_goals skip; (try simp only [List.set_cons_succ, List.set_cons_zero])
  refine D_take 7 (v := ?_) rfl (by kernel_rfl) (by kernel_rfl) (by kernel_rfl) (fun _ _ _ h => h) rfl (by rfl) (fun W hS => ?_) hS ?_
  rotate_left; (focus (first | (go_simp; done) | (go_simp; with_reducible rfl) | (go_simp; rfl))); all_goals skip; (try simp only [List.set_cons_succ, List.set_cons_zero])
  refine D_take 8 (v := ?_) rfl (by kernel_rfl) (by kernel_rfl) (by kernel_rfl) (fun _ _ _ h => h) rfl (by rfl) (fun W hS => ?_) hS ?_
  rotate_left; (focus (first | (refine R_load1 (ty := 45) (x := Operand.tmp 40) rfl hS 0 rfl rfl ?_ Tryz.isAgg45; rfl))); all_goals skip; (try simp only [List.set_cons_succ, List.set_cons_zero, List.getElem_toArray, List.getElem_cons_succ, List.getElem_cons_zero])
  refine D_take 9 (v := ?_) rfl (by kernel_rfl) (by kernel_rfl) (by kernel_rfl) (fun _ _ _ h => h) rfl (by rfl) (fun W hS => ?_) hS ?_
  rotate_left; (focus (first | (go_simp; done) | (go_simp; with_reducible rfl) | (go_simp; rfl))); all_goals skip; (try simp only [List.set_cons_succ, List.set_cons_zero])
  refine D_take 10 (v := ?_) rfl (by kernel_rfl) (by kernel_rfl) (by kernel_rfl) (fun _ _ _ h => h) rfl (by rfl) (fun W hS => ?_) hS ?_
  rotate_left; (focus (first | (go_simp; done) | (go_simp; with_reducible rfl) | (go_simp; rfl))); all_goals skip; (try simp only [List.set_cons_succ, List.set_cons_zero])
  refine D_take 11 (v := ?_) rfl (by kernel_rfl) (by kernel_rfl) (by kernel_rfl) (fun _ _ _ h => h) rfl (by rfl) (fun W hS => ?_) hS ?_
  rotate_left; (focus (first | (go_simp; done) | (go_simp; with_reducible rfl) | (go_simp; rfl))); all_goals skip; (try simp only [List.set_cons_succ, List.set_cons_zero])
  refine D_take 12 (v := ?_) rfl (by kernel_rfl) (by kernel_rfl) (by kernel_rfl) (fun _ _ _ h => h) rfl (by rfl) (fun W hS => ?_) hS ?_
  rotate_left; (focus (first | (go_simp; done) | (go_simp; with_reducible rfl) | (go_simp; rfl))); all_goals skip; (try simp only [List.set_cons_succ, List.set_cons_zero])
  refine D_take 13 (v := ?_) rfl (by kernel_rfl) (by kernel_rfl) (by kernel_rfl) (fun _ _ _ h => h) rfl (by rfl) (fun W hS => ?_) hS ?_
  rotate_left; (focus (first | (refine R_load1 (ty := 46) (x := Operand.tmp 45) rfl hS 0 rfl rfl ?_ Tryz.isAgg46; rfl))); all_goals skip; (try simp only [List.set_cons_succ, List.set_cons_zero, List.getElem_toArray, List.getElem_cons_succ, List.getElem_cons_zero])
  refine D_take 14 (v := ?_) rfl (by kernel_rfl) (by kernel_rfl) (by kernel_rfl) (fun _ _ _ h => h) rfl (by rfl) (fun W hS => ?_) hS ?_
  rotate_left; (focus (first | (go_simp; done) | (go_simp; with_reducible rfl) | (go_simp; rfl))); all_goals skip; (try simp only [List.set_cons_succ, List.set_cons_zero])
  refine D_take 16 (v := ?_) rfl (by kernel_rfl) (by kernel_rfl) (by kernel_rfl) (fun _ _ _ h => h) rfl (by rfl) (fun W hS => ?_) hS ?_
  rotate_left; (focus (first | (go_simp; done) | (go_simp; with_reducible rfl) | (go_simp; rfl))); all_goals skip; (try simp only [List.set_cons_succ, List.set_cons_zero])
  refine D_take 18 (v := ?_) rfl (by kernel_rfl) (by kernel_rfl) (by kernel_rfl) (fun _ _ _ h => h) rfl (by rfl) (fun W hS => ?_) hS ?_
  rotate_left; (focus (first | (go_simp; done) | (go_simp; with_reducible rfl) | (go_simp; rfl))); all_goals skip; (try simp only [List.set_cons_succ, List.set_cons_zero])
  refine D_take 19 (v := ?_) rfl (by kernel_rfl) (by kernel_rfl) (by kernel_rfl) (fun _ _ _ h => h) rfl (by rfl) (fun W hS => ?_) hS ?_
  rotate_left; (focus (first | (go_simp; done) | (go_simp; with_reducible rfl) | (go_simp; rfl))); all_goals skip; (try simp only [List.set_cons_succ, List.set_cons_zero])
  refine D_take 20 (v := ?_) rfl (by kernel_rfl) (by kernel_rfl) (by kernel_rfl) (fun _ _ _ h => h) rfl (by rfl) (fun W hS => ?_) hS ?_
  rotate_left; (focus (first | (go_simp; done) | (go_simp; with_reducible rfl) | (go_simp; rfl))); all_goals skip; (try simp only [List.set_cons_succ, List.set_cons_zero])
  refine D_take 21 (v := ?_) rfl (by kernel_rfl) (by kernel_rfl) (by kernel_rfl) (fun _ _ _ h => h) rfl (by rfl) (fun W hS => ?_) hS ?_
  rotate_left; (focus (first | (refine R_load1 (ty := 3) (x := Operand.tmp 53) rfl hS 0 rfl rfl ?_ Tryz.isAgg3; rfl))); all_goals skip; (try simp only [List.set_cons_succ, List.set_cons_zero, List.getElem_toArray, List.getElem_cons_succ, List.getElem_cons_zero])
  refine D_one 15 rfl (by kernel_rfl) (by rfl) ?_
  have HW := H.drew.alloc (.cells #[] 5)
  have HW2 := HW.toOwn 0 rfl 1 0 0 (Nat.le_refl _) (Nat.zero_le _) rfl [] rfl
  simp only [List.set_cons_zero] at HW2
  clear hS
  have hS := HW2.drop (L' := [_]) (List.Sublist.cons _ (List.Sublist.cons_cons _ (List.nil_sublist _)))
  refine wp_of_value (v := .slice (some ⟨w2.drew.heap.size, 0, none⟩) 0 0) (w' := w2.drew.alloc (.cells #[] 5)) (by first | (go_simp; done) | (go_simp; rfl)) ⟨hS, ?_⟩
  try simp only [Act.put, List.getElem_toArray, List.getElem_cons_succ, List.getElem_cons_zero, List.setIfInBounds_toArray, List.set_cons_succ, List.set_cons_zero]
  refine D_one 17 rfl (by kernel_rfl) (by rfl) ?_
  refine W_append (encInt_len .u8) (encInt_one .u8) (s := .tmp 48) (x := .tmp 49) (xv := .slice Av 32 cv) (ys := xs) rfl Tryz.underlying22 infoU8 rfl (by decide) HW2 0 rfl rfl rfl (HX.out.keepMb HW2.ext HMM.out) hnb hnm ?_
  intro vn w4 HW3 hnn
  simp only [List.set_cons_zero, List.nil_append, Nat.zero_add] at HW3
  obtain ⟨gn, cn, rfl⟩ : ∃ gn cn, vn = .slice (some ⟨gn, 0, none⟩) xs.length cn := by
    rcases (HW3.get 0 rfl).2 with ⟨_, h1⟩ | ⟨g, c, cur, h1, _⟩
    · omega
    · exact ⟨g, c, h1⟩
  clear hS
  have hS := HW3.drop (L' := [_]) (List.Sublist.cons _ (List.Sublist.cons_cons _ (List.nil_sublist _)))
  refine ⟨hS, ?_⟩
  try simp only [Act.put, List.getElem_toArray, List.getElem_cons_succ, List.getElem_cons_zero, List.setIfInBounds_toArray, List.set_cons_succ, List.set_cons_zero]
  refine D_take 22 (v := ?_) rfl (by kernel_rfl) (by kernel_rfl) (by kernel_rfl) (fun _ _ _ h => h) rfl (by rfl) (fun W hS => ?_) hS ?_
  rotate_left; (focus (first | (go_simp; done) | (go_simp; with_reducible rfl) | (go_simp; rfl))); all_goals skip; (try simp only [List.set_cons_succ, List.set_cons_zero])
  refine D_one 23 rfl (by kernel_rfl) (by rfl) ?_
  obtain ⟨u1, hu1, hf1⟩ := ownCell (HW3.get 2 rfl) i1
  have HW4 := HW3.setOwn 2 (.slice (some ⟨gn, 0, none⟩) xs.length cn) rfl i1
  simp only [List.set_cons_succ, List.set_cons_zero] at HW4
  clear hS
  have hS := HW4.drop (L' := [_]) (List.Sublist.cons _ (List.Sublist.cons_cons _ (List.nil_sublist _)))
  refine wp_of_skip (R_store1 (ty := 22) (x := .tmp 55) (y := .tmp 50) (g := g1) (j := i) (v := .slice (some ⟨gn, 0, none⟩) xs.length cn) rfl rfl rfl rfl rfl hu1 hf1 Tryz.sizeOf22) ⟨hS, ?_⟩
  try simp only [Act.put, List.getElem_toArray, List.getElem_cons_succ, List.getElem_cons_zero, List.setIfInBounds_toArray, List.set_cons_succ, List.set_cons_zero]
  refine D_take 24 (v := ?_) rfl (by kernel_rfl) (by kernel_rfl) (by kernel_rfl) (fun _ _ _ h => h) rfl (by rfl) (fun W hS => ?_) hS ?_
  rotate_left; (focus (first | (go_simp; done) | (go_simp; with_reducible rfl) | (go_simp; rfl))); all_goals skip; (try simp only [List.set_cons_succ, List.set_cons_zero])
  refine D_one 25 rfl (by kernel_rfl) (by rfl) ?_
  obtain ⟨u3, hu3, hf3⟩ := ownCell (HW4.get 4 rfl) i3
  have HW5 := HW4.setOwn 4 (.int .i64 (m + 1)) rfl i3
  simp only [List.set_cons_succ, List.set_cons_zero] at HW5
  clear hS
  have hS := HW5.drop (L' := [_]) (List.Sublist.cons _ (List.Sublist.cons_cons _ (List.nil_sublist _)))
  refine wp_of_skip (R_store1 (ty := 3) (x := .tmp 56) (y := .tmp 54) (g := g3) (j := i) (v := .int .i64 (m + 1)) rfl rfl rfl rfl rfl hu3 hf3 Tryz.sizeOf3) ⟨hS, ?_⟩
  try simp only [Act.put, List.getElem_toArray, List.getElem_cons_succ, List.getElem_cons_zero, List.setIfInBounds_toArray, List.set_cons_succ, List.set_cons_zero]
  refine D_take 26 (v := ?_) rfl (by kernel_rfl) (by kernel_rfl) (by kernel_rfl) (fun _ _ _ h => h) rfl (by rfl) (fun W hS => ?_) hS ?_
  rotate_left; (focus (first | (go_simp; done) | (go_simp; with_reducible rfl) | (go_simp; rfl))); all_goals skip; (try simp only [List.set_cons_succ, List.set_cons_zero])
  refine D_one 27 rfl (by kernel_rfl) (by rfl) ?_
  obtain ⟨u5, hu5, hf5⟩ := ownCell (HW5.get 6 rfl) i5
  have HW6 := HW5.setOwn 6 (.bool true) rfl i5
  simp only [List.set_cons_succ, List.set_cons_zero] at HW6
  clear hS
  have hS := HW6.drop (L' := [_]) (List.Sublist.cons _ (List.Sublist.cons_cons _ (List.nil_sublist _)))
  refine wp_of_skip (R_store1 (ty := 4) (x := .tmp 57) (y := .const (.bool true)) (g := g5) (j := i) (v := .bool true) rfl rfl rfl rfl rfl hu5 hf5 Tryz.sizeOf4) ⟨hS, ?_⟩
  try simp only [Act.put, List.getElem_toArray, List.getElem_cons_succ, List.getElem_cons_zero, List.setIfInBounds_toArray, List.set_cons_succ, List.set_cons_zero]
  refine wpAnyH_done (by kernel_rfl) ?_ _
  go_wp2_with fail
  go_ret
  refine ⟨rfl, _, HOK.out (.slice (some ⟨gn, 0, none⟩) xs.length cn), ?_⟩
  have hown := RdS.own (encInt_len .u8) rfl (HW6.get 0 rfl)
  have hbv := HW6.get 7 rfl
  have HF := SH.merge (L1 := [_, _, _, _, _, _]) HW6 (bytesA ((.slice (some ⟨gn, 0, none⟩) xs.length cn, xs) :: bv)) (fun p hp => by
    rcases List.mem_cons.1 hp with rfl | hp
    · exact hown
    · exact hbv p hp) (fun i hi => by
    obtain ⟨p, hp, off, n, c, he⟩ := hi
    rcases List.mem_cons.1 hp with rfl | hp
    · left
      simp only [Value.slice.injEq, Option.some.injEq, Addr.mk.injEq] at he
      show Value.ownBlock _ = some i
      simp [Value.ownBlock, he.1.1]
    · exact .inr ⟨p, hp, off, n, c, he⟩)
  simp only [RM.L, RM.cells, RM.write, List.length_set, List.map_set]
  exact HF
end Go.Proofs.YtgmeahogdjhejaaGreatDoor
namespace Go.Proofs.YtgmeahogdjhejaaGreatDoor
set_option linter.unusedVariables false
set_option linter.unusedSimpArgs false
open Rf (RefA RM grown row_shape row_len R_store1 infoU8 bytesA)
open Go.RowKit

theorem Fine_len {d : DS} {W : Int} (h : d.Fine W) : d.sure.length ≤ 4096 := h.len
set_option maxHeartbeats 1000000 in
theorem write_bad {M : Nat → Prop} {w0 w : World} {b : Nat} {r : RM} {d : DS} (H : SH M w0 w (r.L b)) (hr : r.Ok d) (hl : d.sure.length ≤ 4096) (i : Int) {A : Option Addr} {n c : Nat} (hn : n ≤ 1000000000) (hbad : ¬ ((0 ≤ i ∧ i < d.sure.length) ∧ n = 32)) :
    Calls Tryz.prog 65 #[.pointer (some ⟨b, 0, none⟩), .int .i64 i, .slice A n c] w fun e w' => e = .returned (.int .i64 1) ∧ w' = w := by
  obtain ⟨hc0, _, _, _, _, _, _⟩ := RM.cellsAt (L := []) (by simpa using H)
  obtain ⟨Ag, cg, hv⟩ := row_len (H.get 1 rfl)
  rw [hv, hr.gl] at hc0
  clear H hr hv
  generalize d.sure.length = m at *
  by_cases h0 : i < 0
  · go_enter Tryz.func65, Tryz.ntmps65
    go_wp2
    go_ret
    exact ⟨rfl, rfl⟩
  · by_cases h1 : (m : Int) ≤ i
    · go_enter Tryz.func65, Tryz.ntmps65
      go_wp2
      go_ret
      exact ⟨rfl, rfl⟩
    · have h2 : ((n : Int) != 32) = true := by simp; omega
      go_enter Tryz.func65, Tryz.ntmps65
      go_wp2
      go_ret
      exact ⟨rfl, rfl⟩
set_option maxHeartbeats 1000000 in
theorem write_out {M : Nat → Prop} {w0 w : World} {b : Nat} {r : RM} {d : DS} (H : SH M w0 w (r.L b)) (hr : r.Ok d) (hf : -1 ≤ d.fuse) (hf2 : d.fuse ≤ 9223372036854775807) (hl : d.sure.length ≤ 4096) (i : Int) (h0 : 0 ≤ i) (h1 : i < d.sure.length) (hz : d.fuse = 0) {A : Option Addr} {c : Nat} :
    Calls Tryz.prog 65 #[.pointer (some ⟨b, 0, none⟩), .int .i64 i, .slice A 32 c] w fun e w' => e = .returned (.int .i64 10) ∧ ∃ r' : RM, r'.Ok d ∧ SH M w0 w' (r'.L b) := by
  have hg := goes_any H hr hf hf2
  have hs := hr.spend hf
  have hsd : d.spend = (d, false) := by unfold DS.spend; rw [if_neg (by omega), if_pos hz]
  rw [hsd] at hg hs
  dsimp only at hg hs
  obtain ⟨hc0, _, _, _, _, _, _⟩ := RM.cellsAt (L := []) (by simpa using H)
  obtain ⟨Ag, cg, hv⟩ := row_len (H.get 1 rfl)
  rw [hv, hr.gl] at hc0
  generalize (r.fused (if 0 < r.f then r.f - 1 else r.f)) = r1 at hg hs
  have HS := Lib.hid hs
  clear H hr hv hs hz hf hf2 hsd
  generalize d.sure.length = m at *
  go_enter Tryz.func65, Tryz.ntmps65
  go_wp2_with (go_at_call 66; refine hg.mono ?_; clear hc0; rintro e w1 ⟨rfl, H⟩)
  go_ret
  exact ⟨rfl, _, HS.out, H⟩
/-- Write, whatever the arguments. -/
theorem refWrite_any {b : Nat} {S : Nat → Prop} {d : DS} {W : Int} {w : World} (h : (RefA b S d).says w) (hf : d.Fine W) (hW : W < 9223372036854775807) (i : Int) {v : Value} {xs : List Int} (hx : RdS (encInt .u8) 1 w v xs) (hM : ∀ b off n c, v = .slice (some ⟨b, off, none⟩) n c → ¬ S b) (hxl : xs.length ≤ 1000) :
    Calls Tryz.prog 65 #[.pointer (some ⟨b, 0, none⟩), .int .i64 i, v] w fun e w' => e = .returned (.int .i64 (d.writeR i xs).2) ∧ Ext S w w' ∧ (RefA b (grown S w w') (d.writeR i xs).1).says w' := by
  obtain ⟨r, hr, H⟩ := RefA.opens h
  have hlt := RefA.lt h
  by_cases hok : d.has i ∧ xs.length = 32
  · have hi := hok.1
    unfold DS.has at hi
    obtain ⟨j, rfl⟩ := Int.eq_ofNat_of_zero_le hi.1
    by_cases hz : d.fuse = 0
    · have hw : d.writeR (j : Int) xs = (d, 10) := by unfold DS.writeR; rw [if_neg (by simp [hok.1, hok.2]), if_pos hz]
      rw [hw]
      obtain ⟨A, c, rfl, _⟩ := hx.len
      rw [hok.2]
      exact (write_out H hr hf.fuse.1 hf.fuse.2 hf.len j hi.1 hi.2 hz).mono fun e w' ⟨he, r', hr', H'⟩ => ⟨he, H'.ext, RefA.closes hlt H' hr'⟩
    · have hw : d.writeR (j : Int) xs = (d.write j xs, 0) := by unfold DS.writeR; rw [if_neg (by simp [hok.1, hok.2]), if_neg hz]
      rw [hw]
      exact (write_go H hr hf.fuse.1 hf.fuse.2 hf.len hf.keys ⟨by have := hf.writes; omega, by have := hf.writes; omega⟩ j (by omega) hz hx hM hok.2).mono fun e w' ⟨he, r', hr', H'⟩ => ⟨he, H'.ext, RefA.closes hlt H' hr'⟩
  · have hw : d.writeR i xs = (d, 1) := by unfold DS.writeR; rw [if_pos hok]
    rw [hw]
    obtain ⟨A, c, rfl, _⟩ := hx.len
    exact (write_bad H hr hf.len i (by omega) hok).mono fun e w' ⟨he, hww⟩ => by subst hww; exact ⟨he, H.ext, RefA.closes hlt H hr⟩

theorem settleN_flush {d : DS} {W : Int} (hf : d.Fine W) (hz : d.fuse ≠ 0) : d.spend.1.settleN d.sure.length = d.flush := by
  have hs : d.spend.1.sure = d.sure ∧ d.spend.1.pend = d.pend := by
    by_cases h1 : d.fuse = -1
    · simp [DS.spend, h1]
    · simp [DS.spend, h1, hz]
  have h1 := d.spend.1.settleN_all (by rw [hs.1, hs.2]; exact fun p hp => (hf.pend p hp).2)
  have h2 := d.spend.1.settleN_rest d.sure.length
  have h3 := d.spend.1.settleN_len d.sure.length
  rw [hs.1] at h1 h3
  have hsure : (d.spend.1.settleN d.sure.length).sure = applyAll d.sure d.pend := by
    apply List.ext_getElem
    · rw [h3, applyAll_length]
    · intro k hk1 hk2
      have hk : k < d.sure.length := by rw [h3] at hk1; exact hk1
      have h4 := h1.2 k hk
      rw [List.getD_eq_getElem?_getD, List.getElem?_eq_getElem hk1] at h4
      have h5 := applyAll_get d.pend hf.keys (fun p hp => (hf.pend p hp).2.1) d.sure k hk
      rw [List.getElem?_eq_getElem hk2] at h5
      have h6 := Option.some.inj h5
      rw [h6]
      refine h4.trans ?_
      unfold DS.is
      rw [hs.1, hs.2]
      simp [List.getD_eq_getElem?_getD, hk]
  have hfl : d.flush = ⟨d.spend.1.fuse, applyAll d.sure d.pend, [], d.spend.1.writes⟩ := by unfold DS.flush; rfl
  rw [hfl, ← hsure, ← h1.1, ← h2.1, ← h2.2]
theorem refFlush_any {b : Nat} {S : Nat → Prop} {d : DS} {W : Int} {w : World} (h : (RefA b S d).says w) (hf : d.Fine W) :
    Calls Tryz.prog 36 #[.pointer (some ⟨b, 0, none⟩)] w fun e w' => e = .returned (.int .i64 d.flushR.2) ∧ Ext S w w' ∧ (RefA b (grown S w w') d.flushR.1).says w' := by
  obtain ⟨r, hr, H⟩ := RefA.opens h
  have hlt := RefA.lt h
  have hc := flush_any H hr hf.fuse.1 hf.fuse.2 hf.len
  by_cases hz : d.fuse = 0
  · have hw : d.flushR = (d, 10) := by unfold DS.flushR; rw [if_pos hz]
    rw [hw]
    rw [if_pos hz, if_pos hz] at hc
    exact hc.mono fun e w' ⟨he, r', hr', H'⟩ => ⟨he, H'.ext, RefA.closes hlt H' hr'⟩
  · have hw : d.flushR = (d.flush, 0) := by unfold DS.flushR; rw [if_neg hz]
    rw [hw]
    rw [if_neg hz, if_neg hz, settleN_flush hf hz] at hc
    exact hc.mono fun e w' ⟨he, r', hr', H'⟩ => ⟨he, H'.ext, RefA.closes hlt H' hr'⟩
end Go.Proofs.YtgmeahogdjhejaaGreatDoor
