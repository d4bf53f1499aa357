/- The document's disk: settle, goes, Write, Flush. -/
import Derived.Test.YtjdfeagjbhdceaaRefA
import Derived.Test.YtjdfeagjbhdceaaDiskH
namespace Go.Proofs.Ytjdfeagjbhdceaa
set_option linter.unusedVariables false
set_option linter.unusedSimpArgs false
open Go.RowKit

theorem R_store1 {P : Program} {a : Act} {w : World} {o : Oper} {ty : TypeId} {x y : Operand} (ho : o.op = .store ty x y) {g j : Nat} {v u : Value} (hx : a.eval x = .pointer (some ⟨g, j, none⟩)) (hy : a.eval y = v) (h1 : v.cells = #[v]) (hc1 : v.oneCell' = true) (hc : w.cell? ⟨g, j, none⟩ = some u) (hf : w.frozen? ⟨g, j, none⟩ = false)
    (hsz : ∀ w, (sizeOf ty).run P w = .ok 1 w) : (execOp a.eval o).run P w = .ok .skip (w.setCell ⟨g, j, none⟩ v) := by
  have hr := run_storeCells_cells (P := P) g j [v] 0 w (fun k hk => (by simp at hk; simp [hk, hc])) (fun k hk => (by simp at hk; simpa [hk] using hf)) (fun u hu => (by simp at hu; simpa [hu] using hc1))
  unfold execOp
  simp only [ho, hx, hy, Instr.storeAt, Instr.sureAddr, storeVar, Sem.run_bind, Sem.run_pure, Result.andThen_ok, h1, hsz]
  simp only [Nat.add_zero] at hr
  simp [hr, World.setCells]
theorem R_loadCell' {P : Program} {a : Act} {w : World} {o : Oper} {ty : TypeId} {x : Operand} (ho : o.op = .load ty x) {p : Addr} {v : Value} (hx : a.eval x = .pointer (some p)) (hc : w.cell? p = some v) (hag : ∀ w, (isAgg ty).run P w = .ok false w) : (execOp a.eval o).run P w = .ok (.value v) w := by
  unfold execOp
  simp only [ho, hx, Instr.loadAt, Instr.sureAddr, loadVar, Sem.run_bind, Sem.run_pure, Result.andThen_ok, hag]
  simp [hc]
theorem ownSet1 {w : World} {g n cap j : Nat} {T : TypeId} {xs : List Value} (u : Value) (h : w.ownsRow 0 T 1 (.slice (some ⟨g, 0, none⟩) n cap) n xs) (hj : j < n) : (w.setCell ⟨g, j, none⟩ u).ownsRow 0 T 1 (.slice (some ⟨g, 0, none⟩) n cap) n (xs.set j u) := by
  obtain ⟨hl, ⟨h0, _⟩ | ⟨g', cap', cur, he, hb, hg, h1, h2, h3, h4⟩⟩ := h
  · cases h0
  · cases he
    refine ⟨by simpa using hl, .inr ⟨g, cap, _, rfl, hb, heap_setCell_same w g j cur T u hg, h1, h2, by simpa using h3, ?_⟩⟩
    rw [← h4]
    apply List.ext_getElem?
    intro i
    rw [Array.toList_setIfInBounds, List.getElem?_take, List.getElem?_set, List.getElem?_set, List.getElem?_take]
    by_cases hij : j = i
    · subst hij
      have hjc : j < cur.size := by omega
      simp [hj, hjc]
      try omega
    · simp [hij]
theorem ownCell {w : World} {g n cap j : Nat} {T : TypeId} {xs : List Value} (h : w.ownsRow 0 T 1 (.slice (some ⟨g, 0, none⟩) n cap) n xs) (hj : j < n) : ∃ u, w.cell? ⟨g, j, none⟩ = some u ∧ w.frozen? ⟨g, j, none⟩ = false := by
  have hl := h.1
  have h1 := World.ownsRow.cellAt h j (by omega)
  obtain ⟨_, ⟨h0, _⟩ | ⟨g', cap', cur, he, hb, hg, _⟩⟩ := h
  · cases h0
  · cases he
    exact ⟨_, h1.trans (List.getElem?_eq_getElem (by omega)), frozen_of_row w g _ cur T hg⟩
/-- A cell of a row of one's own stored, in a list of assertions. -/
theorem SH.setOwn {M : Nat → Prop} {w0 w : World} {L : List Asr} (H : SH M w0 w L) (k : Nat) {T : TypeId} {g n cap j : Nat} {xs : List Value} (u : Value) (hA : L[k]? = some (ownA T 1 (.slice (some ⟨g, 0, none⟩) n cap) n xs)) (hj : j < n) :
    SH M w0 (w.setCell ⟨g, j, none⟩ u) (L.set k (ownA T 1 (.slice (some ⟨g, 0, none⟩) n cap) n (xs.set j u))) :=
  H.upd k hA ((Ext.setCell w ⟨g, j, none⟩ u).mono (fun i _ hi => by simp only at hi; subst hi; rfl)) (ownSet1 u (H.get k hA) hj) (fun i hi => ⟨.inl hi, by have h5 := (World.ownsRow.lt (H.get k hA) i hi).2; simpa using h5⟩)

def DS.settle (d : DS) (i : Nat) : DS := { d with sure := d.sure.set i (d.is i), pend := d.pend.filter (fun p => p.1 != (i : Int)) }
theorem getE_filter (es : List (Int × St)) (i k : Int) : getE (es.filter (fun p => p.1 != i)) k = if k = i then none else getE es k := by
  induction es with
  | nil => simp [getE_nil]
  | cons p es ih =>
    rw [getE_cons]
    by_cases hp : p.1 = i
    · rw [List.filter_cons_of_neg (by simp [hp]), ih]
      by_cases hk : k = i
      · rw [if_pos hk, if_pos hk]
      · rw [if_neg hk, if_neg hk, if_neg (by omega)]
    · rw [List.filter_cons_of_pos (by simpa using hp), getE_cons]
      by_cases hk : k = p.1
      · rw [if_pos hk, if_neg (by omega), if_pos hk]
      · rw [if_neg hk, ih, if_neg hk]
theorem DS.settle_is (d : DS) (i k : Nat) (hi : i < d.sure.length) : (d.settle i).is (k : Int) = d.is (k : Int) := by
  unfold DS.is DS.settle
  simp only [getE_filter, Int.toNat_natCast]
  by_cases hk : k = i
  · subst hk
    simp [hi, List.getD_eq_getElem?_getD]
    unfold DS.is
    simp [hi, List.getD_eq_getElem?_getD]
  · rw [if_neg (by omega)]
    congr 1
    rw [List.getD_eq_getElem?_getD, List.getD_eq_getElem?_getD, List.getElem?_set_ne (by omega)]
def RM.settle (r : RM) (i : Nat) : RM := { r with ss := r.ss.set i (r.gs.getD i (.slice none 0 0)), old := r.old.set i (r.age.getD i 0), wet := r.wet.set i false }
theorem RM.Ok.settle {r : RM} {d : DS} (h : r.Ok d) {i : Nat} (hi : i < d.sure.length) : (r.settle i).Ok (d.settle i) := by
  have hlen : (d.settle i).sure.length = d.sure.length := by simp [DS.settle]
  refine ⟨by rw [hlen]; exact h.gl, by rw [hlen]; simpa [RM.settle] using h.sl, ?_, ?_, ?_, ?_, ?_, h.f, h.m⟩
  · intro k hk
    rw [DS.settle_is d i k hi]
    exact h.g k hk
  · intro k hk
    have hk2 : k < r.ss.length := by simpa [RM.settle] using hk
    show ((r.ss.set i (r.gs.getD i (.slice none 0 0)))[k]'(by simpa using hk2), ((d.sure.set i (d.is i)).getD k St.zero).bytes) ∈ r.bv
    by_cases hki : k = i
    · subst hki
      have hg : k < r.gs.length := by rw [h.gl]; exact hi
      simp [List.getD_eq_getElem?_getD, hi, hg]
      exact h.g k hg
    · rw [List.getElem_set_ne (by omega), show (d.sure.set i (d.is i)).getD k St.zero = d.sure.getD k St.zero by rw [List.getD_eq_getElem?_getD, List.getElem?_set_ne (by omega), ← List.getD_eq_getElem?_getD]]
      exact h.s k hk2
  · rw [hlen]
    show r.age = _
    rw [h.age]
    exact List.map_congr_left fun k _ => by rw [DS.settle_is d i k hi]
  · show r.old.set i (r.age.getD i 0) = (d.sure.set i (d.is i)).map (·.wr)
    rw [List.map_set, h.old, h.age]
    congr 1
    simp [List.getD_eq_getElem?_getD, hi]
  · rw [hlen]
    show r.wet.set i false = _
    rw [h.wet]
    apply List.ext_getElem
    · simp
    · intro k h1 h2
      simp only [List.getElem_set, List.getElem_map, List.getElem_range, DS.settle, getE_filter]
      by_cases hki : i = k
      · subst hki; simp
      · rw [if_neg hki, if_neg (by omega)]

set_option maxRecDepth 100000 in
set_option maxHeartbeats 4000000 in
theorem settle_any {M : Nat → Prop} {w0 w : World} {b : Nat} {r : RM} {d : DS} (H : SH M w0 w (r.L b)) (hr : r.Ok d) (hl : d.sure.length ≤ 4096) (i : Nat) (hi : i < d.sure.length) :
    Calls Try.prog 56 #[.pointer (some ⟨b, 0, none⟩), .int .i64 (i : Int)] w fun e w' => e = .returned (.tuple #[]) ∧ SH M w0 w' ((r.settle i).L b) := by
  have e1 := hr.gl
  have e2 := hr.sl
  have e3 : r.age.length = d.sure.length := by rw [hr.age]; simp
  have e4 : r.old.length = d.sure.length := by rw [hr.old]; simp
  have e5 : r.wet.length = d.sure.length := by rw [hr.wet]; simp
  have hrow1 := H.get 1 rfl
  have hrow2 := H.get 2 rfl
  have hrow3 := H.get 3 rfl
  have hrow4 := H.get 4 rfl
  have hrow5 := H.get 5 rfl
  obtain ⟨Ag, cg, hvv, _⟩ := (H.get 6 (A := bytesA r.bv) rfl _ (hr.g i (by omega))).len
  clear hr
  obtain ⟨v1, v2, v3, v4, v5, gs, ss, age, old, wet, f, m, bv⟩ := r
  simp only at e1 e2 e3 e4 e5 hvv
  dsimp only at hrow1 hrow2 hrow3 hrow4 hrow5
  have shape : ∀ {T : TypeId} {v : Value} {n : Nat} {xs : List Value}, w.ownsRow 0 T 1 v n xs → 0 < n → ∃ g c, v = .slice (some ⟨g, 0, none⟩) n c := fun h h0 => by
    rcases h.2 with ⟨_, h1⟩ | ⟨g, c, cur, h1, _⟩
    · omega
    · exact ⟨g, c, h1⟩
  obtain ⟨g1, c1, rfl⟩ := shape hrow1 (by omega)
  obtain ⟨g2, c2, rfl⟩ := shape hrow2 (by omega)
  obtain ⟨g3, c3, rfl⟩ := shape hrow3 (by omega)
  obtain ⟨g4, c4, rfl⟩ := shape hrow4 (by omega)
  obtain ⟨g5, c5, rfl⟩ := shape hrow5 (by omega)
  clear hrow1 hrow2 hrow3 hrow4 hrow5 shape
  simp only [RM.L, RM.cells] at H
  have H1 := H.drop (L' := [_, _, _]) (List.Sublist.cons_cons _ (List.Sublist.cons_cons _ (List.Sublist.cons _ (List.Sublist.cons_cons _ (List.nil_sublist _)))))
  have i1 : i < gs.length := by omega
  have i2 : i < ss.length := by omega
  have i3 : i < age.length := by omega
  have i4 : i < old.length := by omega
  have i5 : i < wet.length := by omega
  have j1 : (i : Int) < (gs.length : Int) := by omega
  have j2 : (i : Int) < (ss.length : Int) := by omega
  have j3 : (i : Int) < (age.length : Int) := by omega
  have j4 : (i : Int) < (old.length : Int) := by omega
  have j5 : (i : Int) < (wet.length : Int) := by omega
  have hvg : ∃ gv, gs[i] = gv := ⟨_, rfl⟩
  obtain ⟨gv, hgv⟩ := hvg
  have hva : ∃ av, age[i] = av := ⟨_, rfl⟩
  obtain ⟨av, hav⟩ := hva
  have hl1 : ∀ {w' : World}, SH M w0 w' [pt b (.cells #[.slice (some ⟨g1, 0, none⟩) gs.length c1, .slice (some ⟨g2, 0, none⟩) ss.length c2, .slice (some ⟨g3, 0, none⟩) age.length c3, .slice (some ⟨g4, 0, none⟩) old.length c4, .slice (some ⟨g5, 0, none⟩) wet.length c5, .int .i64 f, .int .i64 m] 63 (0, 0)), ownA 48 1 (.slice (some ⟨g1, 0, none⟩) gs.length c1) gs.length gs, ownA 3 1 (.slice (some ⟨g3, 0, none⟩) age.length c3) age.length (age.map (Value.int .i64))] →
      w'.cell? ⟨g1, i, none⟩ = some gv ∧ w'.cell? ⟨g3, i, none⟩ = some (.int .i64 av) := fun h => by
    have h1 := World.ownsRow.cellAt (h.get 1 rfl) i (by omega)
    have h3 := World.ownsRow.cellAt (h.get 2 rfl) i (by omega)
    rw [List.getElem?_eq_getElem i1, hgv] at h1
    rw [List.getElem?_map, List.getElem?_eq_getElem i3, hav] at h3
    exact ⟨h1, h3⟩
  have hgv1 : gv.cells = #[gv] ∧ gv.oneCell' = true := by rw [← hgv, hvv]; exact ⟨rfl, rfl⟩
  go_enter Try.func56, Try.ntmps56
  go_wp2_with fail
  refine D_start H1 (by kernel_rfl) (fun hS => ?_)
  try simp only [Act.put, List.setIfInBounds_toArray, List.set_cons_succ, List.set_cons_zero]
  refine D_take 0 (v := ?_) rfl (by kernel_rfl) (by kernel_rfl) (by kernel_rfl) (fun _ _ _ h => h) rfl (by rfl) (fun W hS => ?_) hS ?_
  rotate_left; (focus (first | (go_simp; done) | (go_simp; with_reducible rfl) | (go_simp; rfl))); all_goals skip; (try simp only [List.set_cons_succ, List.set_cons_zero])
  refine D_take 1 (v := ?_) rfl (by kernel_rfl) (by kernel_rfl) (by kernel_rfl) (fun _ _ _ h => h) rfl (by rfl) (fun W hS => ?_) hS ?_
  rotate_left; (focus (first | (go_simp; done) | (go_simp; with_reducible rfl) | (go_simp; rfl))); all_goals skip; (try simp only [List.set_cons_succ, List.set_cons_zero])
  refine D_take 2 (v := ?_) rfl (by kernel_rfl) (by kernel_rfl) (by kernel_rfl) (fun _ _ _ h => h) rfl (by rfl) (fun W hS => ?_) hS ?_
  rotate_left; (focus (first | (go_simp; done) | (go_simp; with_reducible rfl) | (go_simp; rfl))); all_goals skip; (try simp only [List.set_cons_succ, List.set_cons_zero])
  refine D_take 3 (v := ?_) rfl (by kernel_rfl) (by kernel_rfl) (by kernel_rfl) (fun _ _ _ h => h) rfl (by rfl) (fun W hS => ?_) hS ?_
  rotate_left; (focus (first | (refine R_load1 (ty := 59) (x := Operand.tmp 6) rfl hS 0 rfl rfl ?_ Try.isAgg59; rfl))); all_goals skip; (try simp only [List.set_cons_succ, List.set_cons_zero, List.getElem_toArray, List.getElem_cons_succ, List.getElem_cons_zero])
  refine D_take 4 (v := ?_) rfl (by kernel_rfl) (by kernel_rfl) (by kernel_rfl) (fun _ _ _ h => h) rfl (by rfl) (fun W hS => ?_) hS ?_
  rotate_left; (focus (first | (go_simp; done) | (go_simp; with_reducible rfl) | (go_simp; rfl))); all_goals skip; (try simp only [List.set_cons_succ, List.set_cons_zero])
  refine D_take 5 (v := ?_) rfl (by kernel_rfl) (by kernel_rfl) (by kernel_rfl) (fun _ _ _ h => h) rfl (by rfl) (fun W hS => ?_) hS ?_
  rotate_left; (focus (first | (go_simp; done) | (go_simp; with_reducible rfl) | (go_simp; rfl))); all_goals skip; (try simp only [List.set_cons_succ, List.set_cons_zero])
  refine D_take 6 (v := ?_) rfl (by kernel_rfl) (by kernel_rfl) (by kernel_rfl) (fun _ _ _ h => h) rfl (by rfl) (fun W hS => ?_) hS ?_
  rotate_left; (focus (first | (go_simp; done) | (go_simp; with_reducible rfl) | (go_simp; rfl))); all_goals skip; (try simp only [List.set_cons_succ, List.set_cons_zero])
  refine D_take 7 (v := ?_) rfl (by kernel_rfl) (by kernel_rfl) (by kernel_rfl) (fun _ _ _ h => h) rfl (by rfl) (fun W hS => ?_) hS ?_
  rotate_left; (focus (first | (go_simp; done) | (go_simp; with_reducible rfl) | (go_simp; rfl))); all_goals skip; (try simp only [List.set_cons_succ, List.set_cons_zero])
  refine D_take 8 (v := ?_) rfl (by kernel_rfl) (by kernel_rfl) (by kernel_rfl) (fun _ _ _ h => h) rfl (by rfl) (fun W hS => ?_) hS ?_
  rotate_left; (focus (first | (refine R_load1 (ty := 60) (x := Operand.tmp 11) rfl hS 0 rfl rfl ?_ Try.isAgg60; rfl))); all_goals skip; (try simp only [List.set_cons_succ, List.set_cons_zero, List.getElem_toArray, List.getElem_cons_succ, List.getElem_cons_zero])
  refine D_take 9 (v := ?_) rfl (by kernel_rfl) (by kernel_rfl) (by kernel_rfl) (fun _ _ _ h => h) rfl (by rfl) (fun W hS => ?_) hS ?_
  rotate_left; (focus (first | (go_simp; done) | (go_simp; with_reducible rfl) | (go_simp; rfl))); all_goals skip; (try simp only [List.set_cons_succ, List.set_cons_zero])
  refine D_take 10 (v := ?_) rfl (by kernel_rfl) (by kernel_rfl) (by kernel_rfl) (fun _ _ _ h => h) rfl (by rfl) (fun W hS => ?_) hS ?_
  rotate_left; (focus (first | (go_simp; done) | (go_simp; with_reducible rfl) | (go_simp; rfl))); all_goals skip; (try simp only [List.set_cons_succ, List.set_cons_zero])
  refine D_take 11 (v := ?_) rfl (by kernel_rfl) (by kernel_rfl) (by kernel_rfl) (fun _ _ _ h => h) rfl (by rfl) (fun W hS => ?_) hS ?_
  rotate_left; (focus (first | (go_simp; done) | (go_simp; with_reducible rfl) | (go_simp; rfl))); all_goals skip; (try simp only [List.set_cons_succ, List.set_cons_zero])
  refine D_take 12 (v := ?_) rfl (by kernel_rfl) (by kernel_rfl) (by kernel_rfl) (fun _ _ _ h => h) rfl (by rfl) (fun W hS => ?_) hS ?_
  rotate_left; (focus (first | (go_simp; done) | (go_simp; with_reducible rfl) | (go_simp; rfl))); all_goals skip; (try simp only [List.set_cons_succ, List.set_cons_zero])
  refine D_take 13 (v := ?_) rfl (by kernel_rfl) (by kernel_rfl) (by kernel_rfl) (fun _ _ _ h => h) rfl (by rfl) (fun W hS => ?_) hS ?_
  rotate_left; (focus (first | (refine R_load1 (ty := 61) (x := Operand.tmp 16) rfl hS 0 rfl rfl ?_ Try.isAgg61; rfl))); all_goals skip; (try simp only [List.set_cons_succ, List.set_cons_zero, List.getElem_toArray, List.getElem_cons_succ, List.getElem_cons_zero])
  refine D_take 14 (v := ?_) rfl (by kernel_rfl) (by kernel_rfl) (by kernel_rfl) (fun _ _ _ h => h) rfl (by rfl) (fun W hS => ?_) hS ?_
  rotate_left; (focus (first | (go_simp; done) | (go_simp; with_reducible rfl) | (go_simp; rfl))); all_goals skip; (try simp only [List.set_cons_succ, List.set_cons_zero])
  refine D_take 15 (v := ?_) rfl (by kernel_rfl) (by kernel_rfl) (by kernel_rfl) (fun _ _ _ h => h) rfl (by rfl) (fun W hS => ?_) hS ?_
  rotate_left; (focus (first | (go_simp; done) | (go_simp; with_reducible rfl) | (go_simp; rfl))); all_goals skip; (try simp only [List.set_cons_succ, List.set_cons_zero])
  refine D_take 16 (v := ?_) rfl (by kernel_rfl) (by kernel_rfl) (by kernel_rfl) (fun _ _ _ h => h) rfl (by rfl) (fun W hS => ?_) hS ?_
  rotate_left; (focus (first | (go_simp; done) | (go_simp; with_reducible rfl) | (go_simp; rfl))); all_goals skip; (try simp only [List.set_cons_succ, List.set_cons_zero])
  refine D_take 17 (v := ?_) rfl (by kernel_rfl) (by kernel_rfl) (by kernel_rfl) (fun _ _ _ h => h) rfl (by rfl) (fun W hS => ?_) hS ?_
  rotate_left; (focus (first | (go_simp; done) | (go_simp; with_reducible rfl) | (go_simp; rfl))); all_goals skip; (try simp only [List.set_cons_succ, List.set_cons_zero])
  refine D_take 18 (v := ?_) rfl (by kernel_rfl) (by kernel_rfl) (by kernel_rfl) (fun _ _ _ h => h) rfl (by rfl) (fun W hS => ?_) hS ?_
  rotate_left; (focus (first | (refine R_load1 (ty := 59) (x := Operand.tmp 21) rfl hS 0 rfl rfl ?_ Try.isAgg59; rfl))); all_goals skip; (try simp only [List.set_cons_succ, List.set_cons_zero, List.getElem_toArray, List.getElem_cons_succ, List.getElem_cons_zero])
  refine D_take 19 (v := ?_) rfl (by kernel_rfl) (by kernel_rfl) (by kernel_rfl) (fun _ _ _ h => h) rfl (by rfl) (fun W hS => ?_) hS ?_
  rotate_left; (focus (first | (go_simp; done) | (go_simp; with_reducible rfl) | (go_simp; rfl))); all_goals skip; (try simp only [List.set_cons_succ, List.set_cons_zero])
  refine D_take 20 (v := ?_) rfl (by kernel_rfl) (by kernel_rfl) (by kernel_rfl) (fun _ _ _ h => h) rfl (by rfl) (fun W hS => ?_) hS ?_
  rotate_left; (focus (first | (go_simp; done) | (go_simp; with_reducible rfl) | (go_simp; rfl))); all_goals skip; (try simp only [List.set_cons_succ, List.set_cons_zero])
  refine D_take 21 (v := gv) rfl (by kernel_rfl) (by kernel_rfl) (by kernel_rfl) (fun _ _ _ h => h) rfl (by rfl) (fun W hS => R_loadCell' (ty := 48) (x := .tmp 24) (p := ⟨g1, i, none⟩) rfl rfl (hl1 hS).1 Try.isAgg48) hS ?_; (try simp only [List.set_cons_succ, List.set_cons_zero])
  refine D_take 22 (v := ?_) rfl (by kernel_rfl) (by kernel_rfl) (by kernel_rfl) (fun _ _ _ h => h) rfl (by rfl) (fun W hS => ?_) hS ?_
  rotate_left; (focus (first | (go_simp; done) | (go_simp; with_reducible rfl) | (go_simp; rfl))); all_goals skip; (try simp only [List.set_cons_succ, List.set_cons_zero])
  refine D_take 23 (v := ?_) rfl (by kernel_rfl) (by kernel_rfl) (by kernel_rfl) (fun _ _ _ h => h) rfl (by rfl) (fun W hS => ?_) hS ?_
  rotate_left; (focus (first | (go_simp; done) | (go_simp; with_reducible rfl) | (go_simp; rfl))); all_goals skip; (try simp only [List.set_cons_succ, List.set_cons_zero])
  refine D_take 24 (v := ?_) rfl (by kernel_rfl) (by kernel_rfl) (by kernel_rfl) (fun _ _ _ h => h) rfl (by rfl) (fun W hS => ?_) hS ?_
  rotate_left; (focus (first | (go_simp; done) | (go_simp; with_reducible rfl) | (go_simp; rfl))); all_goals skip; (try simp only [List.set_cons_succ, List.set_cons_zero])
  refine D_take 25 (v := ?_) rfl (by kernel_rfl) (by kernel_rfl) (by kernel_rfl) (fun _ _ _ h => h) rfl (by rfl) (fun W hS => ?_) hS ?_
  rotate_left; (focus (first | (refine R_load1 (ty := 60) (x := Operand.tmp 28) rfl hS 0 rfl rfl ?_ Try.isAgg60; rfl))); all_goals skip; (try simp only [List.set_cons_succ, List.set_cons_zero, List.getElem_toArray, List.getElem_cons_succ, List.getElem_cons_zero])
  refine D_take 26 (v := ?_) rfl (by kernel_rfl) (by kernel_rfl) (by kernel_rfl) (fun _ _ _ h => h) rfl (by rfl) (fun W hS => ?_) hS ?_
  rotate_left; (focus (first | (go_simp; done) | (go_simp; with_reducible rfl) | (go_simp; rfl))); all_goals skip; (try simp only [List.set_cons_succ, List.set_cons_zero])
  refine D_take 27 (v := ?_) rfl (by kernel_rfl) (by kernel_rfl) (by kernel_rfl) (fun _ _ _ h => h) rfl (by rfl) (fun W hS => ?_) hS ?_
  rotate_left; (focus (first | (go_simp; done) | (go_simp; with_reducible rfl) | (go_simp; rfl))); all_goals skip; (try simp only [List.set_cons_succ, List.set_cons_zero])
  refine D_take 28 (v := (.int .i64 av)) rfl (by kernel_rfl) (by kernel_rfl) (by kernel_rfl) (fun _ _ _ h => h) rfl (by rfl) (fun W hS => R_loadCell' (ty := 3) (x := .tmp 31) (p := ⟨g3, i, none⟩) rfl rfl (hl1 hS).2 Try.isAgg3) hS ?_; (try simp only [List.set_cons_succ, List.set_cons_zero])
  refine D_take 29 (v := ?_) rfl (by kernel_rfl) (by kernel_rfl) (by kernel_rfl) (fun _ _ _ h => h) rfl (by rfl) (fun W hS => ?_) hS ?_
  rotate_left; (focus (first | (go_simp; done) | (go_simp; with_reducible rfl) | (go_simp; rfl))); all_goals skip; (try simp only [List.set_cons_succ, List.set_cons_zero])
  refine D_one 30 rfl (by kernel_rfl) (by rfl) ?_
  have HW := H.drew
  obtain ⟨u2, hu2, hf2⟩ := ownCell (HW.get 2 rfl) i2
  have HW1 := HW.setOwn 2 gv rfl i2
  simp only [List.set_cons_succ, List.set_cons_zero] at HW1
  clear hS
  have hS := HW1.drop (L' := [_, _, _]) (List.Sublist.cons_cons _ (List.Sublist.cons_cons _ (List.Sublist.cons _ (List.Sublist.cons_cons _ (List.nil_sublist _)))))
  refine wp_of_skip (R_store1 (ty := 48) (x := .tmp 33) (y := .tmp 25) (g := g2) (j := i) (v := gv) rfl rfl rfl hgv1.1 hgv1.2 hu2 hf2 Try.sizeOf48) ⟨hS, ?_⟩
  try simp only [Act.put, List.getElem_toArray, List.getElem_cons_succ, List.getElem_cons_zero, List.setIfInBounds_toArray, List.set_cons_succ, List.set_cons_zero]
  refine D_take 31 (v := ?_) rfl (by kernel_rfl) (by kernel_rfl) (by kernel_rfl) (fun _ _ _ h => h) rfl (by rfl) (fun W hS => ?_) hS ?_
  rotate_left; (focus (first | (go_simp; done) | (go_simp; with_reducible rfl) | (go_simp; rfl))); all_goals skip; (try simp only [List.set_cons_succ, List.set_cons_zero])
  refine D_one 32 rfl (by kernel_rfl) (by rfl) ?_
  obtain ⟨u4, hu4, hf4⟩ := ownCell (HW1.get 4 rfl) i4
  have HW2 := HW1.setOwn 4 (.int .i64 av) rfl i4
  simp only [List.set_cons_succ, List.set_cons_zero] at HW2
  clear hS
  have hS := HW2.drop (L' := [_, _, _]) (List.Sublist.cons_cons _ (List.Sublist.cons_cons _ (List.Sublist.cons _ (List.Sublist.cons_cons _ (List.nil_sublist _)))))
  refine wp_of_skip (R_store1 (ty := 3) (x := .tmp 34) (y := .tmp 32) (g := g4) (j := i) (v := .int .i64 av) rfl rfl rfl rfl rfl hu4 hf4 Try.sizeOf3) ⟨hS, ?_⟩
  try simp only [Act.put, List.getElem_toArray, List.getElem_cons_succ, List.getElem_cons_zero, List.setIfInBounds_toArray, List.set_cons_succ, List.set_cons_zero]
  refine D_take 33 (v := ?_) rfl (by kernel_rfl) (by kernel_rfl) (by kernel_rfl) (fun _ _ _ h => h) rfl (by rfl) (fun W hS => ?_) hS ?_
  rotate_left; (focus (first | (go_simp; done) | (go_simp; with_reducible rfl) | (go_simp; rfl))); all_goals skip; (try simp only [List.set_cons_succ, List.set_cons_zero])
  refine D_one 34 rfl (by kernel_rfl) (by rfl) ?_
  obtain ⟨u5, hu5, hf5⟩ := ownCell (HW2.get 5 rfl) i5
  have HW3 := HW2.setOwn 5 (.bool false) rfl i5
  simp only [List.set_cons_succ, List.set_cons_zero] at HW3
  clear hS
  have hS := HW3.drop (L' := [_, _, _]) (List.Sublist.cons_cons _ (List.Sublist.cons_cons _ (List.Sublist.cons _ (List.Sublist.cons_cons _ (List.nil_sublist _)))))
  refine wp_of_skip (R_store1 (ty := 4) (x := .tmp 35) (y := .const (.bool false)) (g := g5) (j := i) (v := .bool false) rfl rfl rfl rfl rfl hu5 hf5 Try.sizeOf4) ⟨hS, ?_⟩
  try simp only [Act.put, List.getElem_toArray, List.getElem_cons_succ, List.getElem_cons_zero, List.setIfInBounds_toArray, List.set_cons_succ, List.set_cons_zero]
  refine wpAnyH_done (by kernel_rfl) ?_ _
  go_wp2_with fail
  go_end0
  refine ⟨rfl, ?_⟩
  simp only [RM.L, RM.cells, RM.settle, List.length_set, List.map_set]
  rw [show gs.getD i (.slice none 0 0) = gv by rw [List.getD_eq_getElem?_getD, List.getElem?_eq_getElem i1, hgv]; rfl, show age.getD i 0 = av by rw [List.getD_eq_getElem?_getD, List.getElem?_eq_getElem i3, hav]; rfl]
  exact HW3
end Go.Proofs.Ytjdfeagjbhdceaa
