/- Words for a range over slices.Chunk. -/
import Derived.Test.YtgmeahogdjhejaaDoorWalE
namespace Go.Proofs.YtgmeahogdjhejaaDoor
set_option linter.unusedVariables false
set_option linter.unusedSimpArgs false
open Go.RowKit Go.Shelf

theorem chunk24_stops (F : Fence) (n : Nat) (h63 : F.fn 63) (hro : F.round = none) (hn : 1 ≤ n) (Bs Bn b off len cap m : Nat) (hm : m = (len + 23) / 24) (hlen : len ≤ 1000000) (hlc : len ≤ cap) (w : World)
    (hBs : w.heap[Bs]? = some (.cells #[.slice (some ⟨b, off, none⟩) len cap] 23 (0, 0))) (hBn : w.heap[Bn]? = some (.cells #[.int .i64 24] 3 (0, 0))) :
    SeqStopsK F n Tryd.prog 63 #[.pointer (some ⟨Bs, 0, none⟩), .pointer (some ⟨Bn, 0, none⟩)] (fun x : Nat => #[piece24 b off len x]) (KpB Bs Bn) (fun ys => ys = List.range m) (fun pre => pre <+: List.range m) m w := fun l J Jx W hW hJ _ hY h0 =>
  chunk24_in F n h63 hro hn l Bs Bn b off len cap m hm hlen hlc J Jx (fun pre x W h1 h2 _ => hY pre x W h1 h2) W hJ ((hW.block Bs (blk_lt' hBs)).trans hBs) ((hW.block Bn (blk_lt' hBn)).trans hBn) h0
/-- The number itself, or nought. -/
def within (m x : Nat) : Nat := if x < m then x else 0
theorem within_lt {m : Nat} (h : 0 < m) (x : Nat) : within m x < m := by unfold within; split <;> omega
theorem within_range (m : Nat) : (List.range m).map (within m) = List.range m := by
  conv => rhs; rw [← List.map_id (List.range m)]
  refine List.map_congr_left fun x hx => ?_
  unfold within
  rw [if_pos (List.mem_range.1 hx)]
  rfl
theorem chunk32_stops (F : Fence) (n : Nat) (h63 : F.fn 63) (hro : F.round = none) (hn : 1 ≤ n) (Bs Bn b off len cap m : Nat) (hm : m = (len + 31) / 32) (hlen : len ≤ 1000000) (hlc : len ≤ cap) (w : World)
    (hBs : w.heap[Bs]? = some (.cells #[.slice (some ⟨b, off, none⟩) len cap] 23 (0, 0))) (hBn : w.heap[Bn]? = some (.cells #[.int .i64 32] 3 (0, 0))) :
    SeqStopsK F n Tryd.prog 63 #[.pointer (some ⟨Bs, 0, none⟩), .pointer (some ⟨Bn, 0, none⟩)] (fun x : Nat => #[piece32 b off len (within m x)]) (KpB Bs Bn) (fun ys => ys = List.range m) (fun pre => pre <+: List.range m) m w := fun l J Jx W hW hJ _ hY h0 =>
  chunk32_in F n h63 hro hn l Bs Bn b off len cap m hm hlen hlc J Jx (fun pre x W h1 h2 h3 => by have h := hY pre x W h1 h2; have e : within m x = x := if_pos h3; dsimp only at h; rw [e] at h; exact h) W hJ ((hW.block Bs (blk_lt' hBs)).trans hBs) ((hW.block Bn (blk_lt' hBn)).trans hBn) h0
def GivesChunk (w : World) (sv : Value) (c : Int) (e : Ending) (w' : World) : Prop := ∃ Bs Bn, e = .returned (.func (.func 63) #[] #[.pointer (some ⟨Bs, 0, none⟩), .pointer (some ⟨Bn, 0, none⟩)]) ∧ SH (fun _ => False) w w' [pt Bn (.cells #[.int .i64 c] 3 (0, 0)), pt Bs (.cells #[sv] 23 (0, 0))]
set_option maxRecDepth 100000 in
theorem chunk_any (A : Option Addr) (n cap : Nat) (c : Int) (hc : ¬ c < 1) (w : World) : Calls Tryd.prog 46 #[.slice A n cap, .int .i64 c] w (GivesChunk w (.slice A n cap) c) := by
  have H : SH (fun _ => False) w w [] := SH.nil _ _
  go_enter Tryd.func46, Tryd.ntmps46
  go_wp2_with (first
    | (refine L_box (L := []) rfl rfl H rfl rfl ?_; clear H; intro Bs w H; (try simp only [Act.eval, Array.getD_eq_getD_getElem?, List.getElem?_toArray, List.getElem?_cons_succ, List.getElem?_cons_zero, Option.getD_some, Value.cells] at H); (try simp only [Act.put, List.setIfInBounds_toArray, List.set_cons_succ, List.set_cons_zero, List.getElem_toArray, List.getElem_cons_succ, List.getElem_cons_zero]))
    | (refine L_box (L := [_]) rfl rfl H rfl rfl ?_; clear H; intro Bn w H; (try simp only [Act.eval, Array.getD_eq_getD_getElem?, List.getElem?_toArray, List.getElem?_cons_succ, List.getElem?_cons_zero, Option.getD_some, Value.cells] at H); (try simp only [Act.put, List.setIfInBounds_toArray, List.set_cons_succ, List.set_cons_zero, List.getElem_toArray, List.getElem_cons_succ, List.getElem_cons_zero]))
    | (refine L_load1 rfl rfl H 0 rfl rfl rfl Tryd.isAgg3 ?_; (try simp only [Act.put, List.setIfInBounds_toArray, List.set_cons_succ, List.set_cons_zero, List.getElem_toArray, List.getElem_cons_succ, List.getElem_cons_zero])))
  go_ret
  exact ⟨Bs, Bn, rfl, H⟩

/-! ### What is kept in a round -/
theorem SH.grown {M : Nat → Prop} {w0 W W' : World} {L : List Asr} (H : SH M w0 W L) {row : Option Nat} (hg : W.grownBy W' row) (hr : ∀ r, row = some r → w0.heap.size ≤ r ∧ ∀ A ∈ L, ¬ A.fp r) : SH M w0 W' L := by
  have hk : ∀ A ∈ L, ∀ i, A.fp i → W'.heap[i]? = W.heap[i]? := fun A hA i hi => hg.block i (H.lt A hA i hi) (fun e => (hr i e.symm).2 A hA hi)
  refine ⟨H.ext.trans (Ext.of_grown hg) (fun i hi e => ?_), fun A hA => A.keep W W' (hk A hA) (H.says A hA), fun A hA i hi => Nat.lt_of_lt_of_le (H.lt A hA i hi) hg.size, H.own, H.apart⟩
  have := (hr i e.symm).1
  omega
/-- The blocks that the assertions speak of. -/
def fps (L : List Asr) (i : Nat) : Prop := ∃ A ∈ L, A.fp i
theorem SH.inner {M : Nat → Prop} {w0 W : World} {L : List Asr} (H : SH M w0 W L) : SH (fps L) W W L := ⟨Ext.refl _ _, H.says, H.lt, fun A hA i hi => .inl ⟨A, hA, hi⟩, H.apart⟩
theorem SH.outer {M : Nat → Prop} {w0 W W' : World} {L L' : List Asr} (H : SH M w0 W L) (K : SH (fps L) W W' L') : SH M w0 W' L' := by
  refine ⟨H.ext.trans K.ext (fun i hi ⟨A, hA, h⟩ => ?_), K.says, K.lt, fun A hA i hi => ?_, K.apart⟩
  · rcases H.own A hA i h with h | h
    · exact h
    · omega
  · rcases K.own A hA i hi with ⟨B, hB, h⟩ | h
    · exact H.own B hB i h
    · exact .inr (Nat.le_trans H.ext.size h)
/-- An assertion on cells alone. -/
def CellsA (A : Asr) : Prop := ∀ W i, A.says W → A.fp i → ∃ o, W.heap[i]? = some o ∧ o.isCells = true
theorem cellsA_pt (g : Nat) (cs : Array Value) (T : TypeId) (fr : Nat × Nat) : CellsA (pt g (.cells cs T fr)) := fun W i h hi => by
  have : i = g := hi
  subst this
  exact ⟨_, h, rfl⟩
theorem cellsA_own (T : TypeId) (k : Nat) (v : Value) (n : Nat) (xs : List Value) : CellsA (ownA T k v n xs) := fun W i h hi => by
  have hi' : v.ownBlock = some i := hi
  rcases h.2 with ⟨rfl, _⟩ | ⟨g, c, cur, rfl, _, h2, _⟩
  · cases hi'
  · cases hi'
    exact ⟨_, h2, rfl⟩
/-- Cells alone, or blocks below B. -/
def Low (B : Nat) (L : List Asr) : Prop := ∀ A ∈ L, CellsA A ∨ ∀ i, A.fp i → i < B
theorem Low.not {B : Nat} {L : List Asr} (h : Low B L) {M : Nat → Prop} {w0 W : World} (H : SH M w0 W L) {r : Nat} (hB : B ≤ r) {o : Obj} (ho : W.heap[r]? = some o) (hc : o.isCells = false) : ∀ A ∈ L, ¬ A.fp r := fun A hA hi => by
  rcases h A hA with h | h
  · obtain ⟨o', h1, h2⟩ := h W r (H.says A hA) hi
    rw [ho] at h1
    cases h1
    rw [hc] at h2
    cases h2
  · have := h r hi
    omega
theorem Low.keeps {B : Nat} {L L' : List Asr} (h : Low B L) {M : Nat → Prop} {w0 W W' : World} (H : SH M w0 W L) (K : SH (fps L) W W' L') : KeepsFrom B W W' :=
  ⟨K.ext.size, fun i o hB hi ho => K.ext.keep hi (fun ⟨A, hA, hf⟩ => h.not H hB hi ho A hA hf)⟩
/-- What a walk of the loop's own may turn. -/
theorem SH.walked {M : Nat → Prop} {w0 W W' : World} {L : List Asr} (H : SH M w0 W L) {B : Nat} (h : Low B L) (h0 : w0.heap.size ≤ B) {row : Option Nat} (hg : W.grownBy W' row) (hr : ∀ r, row = some r → B ≤ r ∧ ∃ o : Obj, W.heap[r]? = some o ∧ o.isCells = false) : SH M w0 W' L :=
  H.grown hg (fun r e => by
    obtain ⟨h1, o, ho, hc⟩ := hr r e
    exact ⟨Nat.le_trans h0 h1, h.not H h1 ho hc⟩)
theorem kpB_of {Bs Bn : Nat} {W W' : World} {o1 o2 : Obj} (h1 : W.heap[Bs]? = some o1) (h2 : W.heap[Bn]? = some o2) (k1 : W'.heap[Bs]? = some o1) (k2 : W'.heap[Bn]? = some o2) : KpB Bs Bn W W' := fun i hi => by
  rcases hi with rfl | rfl
  · rw [h1, k1]
  · rw [h2, k2]
section
variable {F : Fence} {n : Nat} {P : Program} {ops : Array Oper} {rest : List Oper} {o : Oper} {a : Act} {w w0 : World} {Q : Exit → Act → World → Prop} {M : Nat → Prop} {L : List Asr}
theorem IL_load1 (hgd : o.guard = none) (hs : ∀ c, o.op ≠ .defer c) (hab : ∀ w, o.about P w a.eval = none) {ty : TypeId} {x : Operand} (ho : o.op = .load ty x) (H : SH M w0 w L) (i : Nat) {b off : Nat} {cs : Array Value} {T : TypeId} {fr : Nat × Nat} {v : Value}
    (hx : a.eval x = .pointer (some ⟨b, off, none⟩)) (hA : L[i]? = some (pt b (.cells cs T fr))) (hv : cs[off]? = some v) (hag : ∀ w, (isAgg ty).run P w = .ok false w)
    (k : wpListIn F n P ops Q rest (a.put o.dst v) w) : wpListIn F n P ops Q (o :: rest) a w := by
  refine IL_value hgd hs (hab w) ?_ k
  have hc : w.cell? ⟨b, off, none⟩ = some v := by rw [cell_of_row w b off cs T fr (H.at_ i hA)]; exact hv
  unfold execOp
  simp only [ho, hx, Instr.loadAt, Instr.sureAddr, loadVar, Sem.run_bind, Sem.run_pure, Result.andThen_ok, hag]
  simp [hc]
theorem IL_store1 (hgd : o.guard = none) (hs : ∀ c, o.op ≠ .defer c) (hab : ∀ w, o.about P w a.eval = none) {ty : TypeId} {x y : Operand} (ho : o.op = .store ty x y) (H : SH M w0 w L) (i : Nat) {b off : Nat} {cs : Array Value} {T : TypeId} {v : Value}
    (hx : a.eval x = .pointer (some ⟨b, off, none⟩)) (hA : L[i]? = some (pt b (.cells cs T (0, 0)))) (hy : a.eval y = v) (h1 : v.cells = #[v]) (hc1 : v.oneCell' = true) (hv : off < cs.size) (hsz : ∀ w, (sizeOf ty).run P w = .ok 1 w)
    (k : ∀ w', SH M w0 w' (L.set i (pt b (.cells (cs.setIfInBounds off v) T (0, 0)))) → wpListIn F n P ops Q rest (a.put o.dst undef) w') : wpListIn F n P ops Q (o :: rest) a w := by
  have hb := H.at_ i hA
  have hc : w.cell? ⟨b, off, none⟩ = some cs[off] := by rw [cell_of_row w b off cs T _ hb]; simp [hv]
  have hf : w.frozen? ⟨b, off, none⟩ = false := frozen_of_row w b off cs T hb
  have hr := run_storeCells_cells (P := P) b off [v] 0 w (fun j hj => (by simp at hj; simp [hj, hc])) (fun j hj => (by simp at hj; simpa [hj] using hf)) (fun u hu => (by simp at hu; simpa [hu] using hc1))
  refine IL_skip hgd hs (hab w) (w' := w.setCell ⟨b, off, none⟩ v) ?_ (k _ (H.setCell i v hA))
  unfold execOp
  simp only [ho, hx, hy, Instr.storeAt, Instr.sureAddr, storeVar, Sem.run_bind, Sem.run_pure, Result.andThen_ok, h1, hsz]
  simp only [Nat.add_zero] at hr
  simp [hr, World.setCells]
end
section
variable {F : Fence} {n : Nat} {ops : Array Oper} {rest : List Oper} {o : Oper} {a : Act} {w w0 : World} {Q : Exit → Act → World → Prop} {M : Nat → Prop} {L : List Asr}
theorem IL_appendB (hgd : o.guard = none) (hs' : ∀ c, o.op ≠ .defer c) (hab : ∀ w, o.about Tryd.prog w a.eval = none) {s x : Operand} (ho : o.op = .call { callee := .builtin .append, args := #[s, x], argTypes := #[23, 23] }) (H : SH M w0 w L) (i : Nat)
    {v : Value} {m : Nat} {xs : List Value} (hA : L[i]? = some (ownA 5 1 v m xs)) (hs : a.eval s = v) {xv : Value} {ys : List Int} (hxv : a.eval x = xv) (hx : RdS (encInt .u8) 1 w xv ys) (hb : m + ys.length ≤ 1000000)
    (kk : ∀ v' w', SH M w0 w' (L.set i (ownA 5 1 v' (m + ys.length) (xs ++ cellsOf (encInt .u8) ys))) → wpListIn F n Tryd.prog ops Q rest (a.put o.dst v') w') : wpListIn F n Tryd.prog ops Q (o :: rest) a w := by
  obtain ⟨v', w', hr, hown, hg, hat, hnn⟩ := run_append_any (P := Tryd.prog) (ty := o.type) (encInt_len .u8) (encInt_one .u8) Tryd.underlying23 infoU8 rfl (by decide) (H.get i hA) hx (by omega) (by unfold maxLen; omega) (Nat.zero_le _)
  refine IL_value hgd hs' (hab w) (w' := w') ?_ (kk v' w' (H.upd i hA ((Ext.of_grown hg).mono (fun j _ hj => hj.symm)) hown (fun j hj => ?_)))
  · unfold execOp
    simp only [ho, resolve, invoke, builtin, Sem.run_bind, Sem.run_pure, Result.andThen_ok, List.map_toArray, List.map_cons, List.map_nil, hs, hxv, hr]
  · refine ⟨?_, (hown.lt j hj).2⟩
    rcases hat with h | h
    · exact .inl (show v.ownBlock = some j from h.symm.trans hj)
    · have hj' : v'.ownBlock = some j := hj
      rw [h] at hj'; cases hj'; exact .inr (Nat.le_refl _)
theorem IL_appendZ (hgd : o.guard = none) (hs' : ∀ c, o.op ≠ .defer c) (hab : ∀ w, o.about Tryd.prog w a.eval = none) {s x : Operand} (ho : o.op = .call { callee := .builtin .append, args := #[s, x], argTypes := #[23, 3] }) (H : SH M w0 w L) (i : Nat)
    {v : Value} {m : Nat} {xs : List Value} (hA : L[i]? = some (ownA 5 1 v m xs)) (hs : a.eval s = v) {k : Nat} (hx : a.eval x = .int .i64 (k : Int)) (hk : m + k ≤ 1000000)
    (kk : ∀ v' w', SH M w0 w' (L.set i (ownA 5 1 v' (m + k) (xs ++ zB k))) → wpListIn F n Tryd.prog ops Q rest (a.put o.dst v') w') : wpListIn F n Tryd.prog ops Q (o :: rest) a w := by
  obtain ⟨v', w', hr, hown, hg, hat⟩ := run_appendZ (ty := o.type) (H.get i hA) k hk (Nat.zero_le _)
  refine IL_value hgd hs' (hab w) (w' := w') ?_ (kk v' w' (H.upd i hA ((Ext.of_grown hg).mono (fun j _ hj => hj.symm)) hown (fun j hj => ?_)))
  · unfold execOp
    simp only [ho, resolve, invoke, builtin, Sem.run_bind, Sem.run_pure, Result.andThen_ok, List.map_toArray, List.map_cons, List.map_nil, hs, hx, hr]
  · refine ⟨?_, (hown.lt j hj).2⟩
    rcases hat with h | h
    · exact .inl (show v.ownBlock = some j from h.symm.trans hj)
    · have hj' : v'.ownBlock = some j := hj
      rw [h] at hj'; cases hj'; exact .inr (Nat.le_refl _)
end
end Go.Proofs.YtgmeahogdjhejaaDoor
