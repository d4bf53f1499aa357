/- Words for a range over slices.Chunk. sheet.last, sheet.marked, sheet.Lay. sheet.Lay. sheet.number; bytes.Equal. -/
import Derived.Test.YtgmeahogdjhejaaGreatDoorWalE
import Derived.RangeFuncCalls
import Derived.Deep.CutRange
import Derived.Deep.CutBlock
namespace Go.Proofs.YtgmeahogdjhejaaGreatDoor
set_option linter.unusedVariables false
set_option linter.unusedSimpArgs false
open Go.RowKit Go.Shelf

theorem chunk24_stops (F : Fence) (n : Nat) (h63 : F.fn 79) (hro : F.round = none) (hn : 1 ≤ n) (Bs Bn b off len cap m : Nat) (hm : m = (len + 23) / 24) (hlen : len ≤ 1000000) (hlc : len ≤ cap) (w : World)
    (hBs : w.heap[Bs]? = some (.cells #[.slice (some ⟨b, off, none⟩) len cap] 22 (0, 0))) (hBn : w.heap[Bn]? = some (.cells #[.int .i64 24] 3 (0, 0))) :
    SeqStopsK F n Tryz.prog 79 #[.pointer (some ⟨Bs, 0, none⟩), .pointer (some ⟨Bn, 0, none⟩)] (fun x : Nat => #[piece24 b off len x]) (KpB Bs Bn) (fun ys => ys = List.range m) (fun pre => pre <+: List.range m) m w := fun l J Jx W hW hJ _ hY h0 =>
  chunk24_in F n h63 hro hn l Bs Bn b off len cap m hm hlen hlc J Jx (fun pre x W h1 h2 _ => hY pre x W h1 h2) W hJ ((hW.block Bs (blk_lt' hBs)).trans hBs) ((hW.block Bn (blk_lt' hBn)).trans hBn) h0
/-- The number itself, or nought. -/
def within (m x : Nat) : Nat := if x < m then x else 0
theorem within_lt {m : Nat} (h : 0 < m) (x : Nat) : within m x < m := by unfold within; split <;> omega
theorem within_range (m : Nat) : (List.range m).map (within m) = List.range m := by
  conv => rhs; rw [← List.map_id (List.range m)]
  refine List.map_congr_left fun x hx => ?_
  unfold within
  rw [if_pos (List.mem_range.1 hx)]
  rfl
theorem chunk32_stops (F : Fence) (n : Nat) (h63 : F.fn 79) (hro : F.round = none) (hn : 1 ≤ n) (Bs Bn b off len cap m : Nat) (hm : m = (len + 31) / 32) (hlen : len ≤ 1000000) (hlc : len ≤ cap) (w : World)
    (hBs : w.heap[Bs]? = some (.cells #[.slice (some ⟨b, off, none⟩) len cap] 22 (0, 0))) (hBn : w.heap[Bn]? = some (.cells #[.int .i64 32] 3 (0, 0))) :
    SeqStopsK F n Tryz.prog 79 #[.pointer (some ⟨Bs, 0, none⟩), .pointer (some ⟨Bn, 0, none⟩)] (fun x : Nat => #[piece32 b off len (within m x)]) (KpB Bs Bn) (fun ys => ys = List.range m) (fun pre => pre <+: List.range m) m w := fun l J Jx W hW hJ _ hY h0 =>
  chunk32_in F n h63 hro hn l Bs Bn b off len cap m hm hlen hlc J Jx (fun pre x W h1 h2 h3 => by have h := hY pre x W h1 h2; have e : within m x = x := if_pos h3; dsimp only at h; rw [e] at h; exact h) W hJ ((hW.block Bs (blk_lt' hBs)).trans hBs) ((hW.block Bn (blk_lt' hBn)).trans hBn) h0
def GivesChunk (w : World) (sv : Value) (c : Int) (e : Ending) (w' : World) : Prop := ∃ Bs Bn, e = .returned (.func (.func 79) #[] #[.pointer (some ⟨Bs, 0, none⟩), .pointer (some ⟨Bn, 0, none⟩)]) ∧ SH (fun _ => False) w w' [pt Bn (.cells #[.int .i64 c] 3 (0, 0)), pt Bs (.cells #[sv] 22 (0, 0))]
set_option maxRecDepth 100000 in
theorem chunk_any (A : Option Addr) (n cap : Nat) (c : Int) (hc : ¬ c < 1) (w : World) : Calls Tryz.prog 60 #[.slice A n cap, .int .i64 c] w (GivesChunk w (.slice A n cap) c) := by
  have H : SH (fun _ => False) w w [] := SH.nil _ _
  go_enter Tryz.func60, Tryz.ntmps60
  go_wp2_with (first
    | (refine L_box (L := []) rfl rfl H rfl rfl ?_; clear H; intro Bs w H; (try simp only [Act.eval, Array.getD_eq_getD_getElem?, List.getElem?_toArray, List.getElem?_cons_succ, List.getElem?_cons_zero, Option.getD_some, Value.cells] at H); (try simp only [Act.put, List.setIfInBounds_toArray, List.set_cons_succ, List.set_cons_zero, List.getElem_toArray, List.getElem_cons_succ, List.getElem_cons_zero]))
    | (refine L_box (L := [_]) rfl rfl H rfl rfl ?_; clear H; intro Bn w H; (try simp only [Act.eval, Array.getD_eq_getD_getElem?, List.getElem?_toArray, List.getElem?_cons_succ, List.getElem?_cons_zero, Option.getD_some, Value.cells] at H); (try simp only [Act.put, List.setIfInBounds_toArray, List.set_cons_succ, List.set_cons_zero, List.getElem_toArray, List.getElem_cons_succ, List.getElem_cons_zero]))
    | (refine L_load1 rfl rfl H 0 rfl rfl rfl Tryz.isAgg3 ?_; (try simp only [Act.put, List.setIfInBounds_toArray, List.set_cons_succ, List.set_cons_zero, List.getElem_toArray, List.getElem_cons_succ, List.getElem_cons_zero])))
  go_ret
  exact ⟨Bs, Bn, rfl, H⟩

/-! ### What is kept in a round -/
theorem SH.grown {M : Nat → Prop} {w0 W W' : World} {L : List Asr} (H : SH M w0 W L) {row : Option Nat} (hg : W.grownBy W' row) (hr : ∀ r, row = some r → w0.heap.size ≤ r ∧ ∀ A ∈ L, ¬ A.fp r) : SH M w0 W' L := by
  have hk : ∀ A ∈ L, ∀ i, A.fp i → W'.heap[i]? = W.heap[i]? := fun A hA i hi => hg.block i (H.lt A hA i hi) (fun e => (hr i e.symm).2 A hA hi)
  refine ⟨H.ext.trans (Ext.of_grown hg) (fun i hi e => ?_), fun A hA => A.keep W W' (hk A hA) (H.says A hA), fun A hA i hi => Nat.lt_of_lt_of_le (H.lt A hA i hi) hg.size, H.own, H.apart⟩
  have := (hr i e.symm).1
  omega
/-- The blocks that the assertions speak of. -/
def fps (L : List Asr) (i : Nat) : Prop := ∃ A ∈ L, A.fp i
theorem SH.inner {M : Nat → Prop} {w0 W : World} {L : List Asr} (H : SH M w0 W L) : SH (fps L) W W L := ⟨Ext.refl _ _, H.says, H.lt, fun A hA i hi => .inl ⟨A, hA, hi⟩, H.apart⟩
theorem SH.outer {M : Nat → Prop} {w0 W W' : World} {L L' : List Asr} (H : SH M w0 W L) (K : SH (fps L) W W' L') : SH M w0 W' L' := by
  refine ⟨H.ext.trans K.ext (fun i hi ⟨A, hA, h⟩ => ?_), K.says, K.lt, fun A hA i hi => ?_, K.apart⟩
  · rcases H.own A hA i h with h | h
    · exact h
    · omega
  · rcases K.own A hA i hi with ⟨B, hB, h⟩ | h
    · exact H.own B hB i h
    · exact .inr (Nat.le_trans H.ext.size h)
/-- An assertion on cells alone. -/
def CellsA (A : Asr) : Prop := ∀ W i, A.says W → A.fp i → ∃ o, W.heap[i]? = some o ∧ o.isCells = true
theorem cellsA_pt (g : Nat) (cs : Array Value) (T : TypeId) (fr : Nat × Nat) : CellsA (pt g (.cells cs T fr)) := fun W i h hi => by
  have : i = g := hi
  subst this
  exact ⟨_, h, rfl⟩
theorem cellsA_own (T : TypeId) (k : Nat) (v : Value) (n : Nat) (xs : List Value) : CellsA (ownA T k v n xs) := fun W i h hi => by
  have hi' : v.ownBlock = some i := hi
  rcases h.2 with ⟨rfl, _⟩ | ⟨g, c, cur, rfl, _, h2, _⟩
  · cases hi'
  · cases hi'
    exact ⟨_, h2, rfl⟩
/-- Cells alone, or blocks below B. -/
def Low (B : Nat) (L : List Asr) : Prop := ∀ A ∈ L, CellsA A ∨ ∀ i, A.fp i → i < B
theorem Low.not {B : Nat} {L : List Asr} (h : Low B L) {M : Nat → Prop} {w0 W : World} (H : SH M w0 W L) {r : Nat} (hB : B ≤ r) {o : Obj} (ho : W.heap[r]? = some o) (hc : o.isCells = false) : ∀ A ∈ L, ¬ A.fp r := fun A hA hi => by
  rcases h A hA with h | h
  · obtain ⟨o', h1, h2⟩ := h W r (H.says A hA) hi
    rw [ho] at h1
    cases h1
    rw [hc] at h2
    cases h2
  · have := h r hi
    omega
theorem Low.keeps {B : Nat} {L L' : List Asr} (h : Low B L) {M : Nat → Prop} {w0 W W' : World} (H : SH M w0 W L) (K : SH (fps L) W W' L') : KeepsFrom B W W' :=
  ⟨K.ext.size, fun i o hB hi ho => K.ext.keep hi (fun ⟨A, hA, hf⟩ => h.not H hB hi ho A hA hf)⟩
/-- What a walk of the loop's own may turn. -/
theorem SH.walked {M : Nat → Prop} {w0 W W' : World} {L : List Asr} (H : SH M w0 W L) {B : Nat} (h : Low B L) (h0 : w0.heap.size ≤ B) {row : Option Nat} (hg : W.grownBy W' row) (hr : ∀ r, row = some r → B ≤ r ∧ ∃ o : Obj, W.heap[r]? = some o ∧ o.isCells = false) : SH M w0 W' L :=
  H.grown hg (fun r e => by
    obtain ⟨h1, o, ho, hc⟩ := hr r e
    exact ⟨Nat.le_trans h0 h1, h.not H h1 ho hc⟩)
theorem kpB_of {Bs Bn : Nat} {W W' : World} {o1 o2 : Obj} (h1 : W.heap[Bs]? = some o1) (h2 : W.heap[Bn]? = some o2) (k1 : W'.heap[Bs]? = some o1) (k2 : W'.heap[Bn]? = some o2) : KpB Bs Bn W W' := fun i hi => by
  rcases hi with rfl | rfl
  · rw [h1, k1]
  · rw [h2, k2]
section
variable {F : Fence} {n : Nat} {P : Program} {ops : Array Oper} {rest : List Oper} {o : Oper} {a : Act} {w w0 : World} {Q : Exit → Act → World → Prop} {M : Nat → Prop} {L : List Asr}
theorem IL_load1 (hgd : o.guard = none) (hs : ∀ c, o.op ≠ .defer c) (hab : ∀ w, o.about P w a.eval = none) {ty : TypeId} {x : Operand} (ho : o.op = .load ty x) (H : SH M w0 w L) (i : Nat) {b off : Nat} {cs : Array Value} {T : TypeId} {fr : Nat × Nat} {v : Value}
    (hx : a.eval x = .pointer (some ⟨b, off, none⟩)) (hA : L[i]? = some (pt b (.cells cs T fr))) (hv : cs[off]? = some v) (hag : ∀ w, (isAgg ty).run P w = .ok false w)
    (k : wpListIn F n P ops Q rest (a.put o.dst v) w) : wpListIn F n P ops Q (o :: rest) a w := by
  refine IL_value hgd hs (hab w) ?_ k
  have hc : w.cell? ⟨b, off, none⟩ = some v := by rw [cell_of_row w b off cs T fr (H.at_ i hA)]; exact hv
  unfold execOp
  simp only [ho, hx, Instr.loadAt, Instr.sureAddr, loadVar, Sem.run_bind, Sem.run_pure, Result.andThen_ok, hag]
  simp [hc]
theorem IL_store1 (hgd : o.guard = none) (hs : ∀ c, o.op ≠ .defer c) (hab : ∀ w, o.about P w a.eval = none) {ty : TypeId} {x y : Operand} (ho : o.op = .store ty x y) (H : SH M w0 w L) (i : Nat) {b off : Nat} {cs : Array Value} {T : TypeId} {v : Value}
    (hx : a.eval x = .pointer (some ⟨b, off, none⟩)) (hA : L[i]? = some (pt b (.cells cs T (0, 0)))) (hy : a.eval y = v) (h1 : v.cells = #[v]) (hc1 : v.oneCell' = true) (hv : off < cs.size) (hsz : ∀ w, (sizeOf ty).run P w = .ok 1 w)
    (k : ∀ w', SH M w0 w' (L.set i (pt b (.cells (cs.setIfInBounds off v) T (0, 0)))) → wpListIn F n P ops Q rest (a.put o.dst undef) w') : wpListIn F n P ops Q (o :: rest) a w := by
  have hb := H.at_ i hA
  have hc : w.cell? ⟨b, off, none⟩ = some cs[off] := by rw [cell_of_row w b off cs T _ hb]; simp [hv]
  have hf : w.frozen? ⟨b, off, none⟩ = false := frozen_of_row w b off cs T hb
  have hr := run_storeCells_cells (P := P) b off [v] 0 w (fun j hj => (by simp at hj; simp [hj, hc])) (fun j hj => (by simp at hj; simpa [hj] using hf)) (fun u hu => (by simp at hu; simpa [hu] using hc1))
  refine IL_skip hgd hs (hab w) (w' := w.setCell ⟨b, off, none⟩ v) ?_ (k _ (H.setCell i v hA))
  unfold execOp
  simp only [ho, hx, hy, Instr.storeAt, Instr.sureAddr, storeVar, Sem.run_bind, Sem.run_pure, Result.andThen_ok, h1, hsz]
  simp only [Nat.add_zero] at hr
  simp [hr, World.setCells]
end
section
variable {F : Fence} {n : Nat} {ops : Array Oper} {rest : List Oper} {o : Oper} {a : Act} {w w0 : World} {Q : Exit → Act → World → Prop} {M : Nat → Prop} {L : List Asr}
theorem IL_appendB (hgd : o.guard = none) (hs' : ∀ c, o.op ≠ .defer c) (hab : ∀ w, o.about Tryz.prog w a.eval = none) {s x : Operand} (ho : o.op = .call { callee := .builtin .append, args := #[s, x], argTypes := #[22, 22] }) (H : SH M w0 w L) (i : Nat)
    {v : Value} {m : Nat} {xs : List Value} (hA : L[i]? = some (ownA 5 1 v m xs)) (hs : a.eval s = v) {xv : Value} {ys : List Int} (hxv : a.eval x = xv) (hx : RdS (encInt .u8) 1 w xv ys) (hb : m + ys.length ≤ 1000000)
    (kk : ∀ v' w', SH M w0 w' (L.set i (ownA 5 1 v' (m + ys.length) (xs ++ cellsOf (encInt .u8) ys))) → wpListIn F n Tryz.prog ops Q rest (a.put o.dst v') w') : wpListIn F n Tryz.prog ops Q (o :: rest) a w := by
  obtain ⟨v', w', hr, hown, hg, hat, hnn⟩ := run_append_any (P := Tryz.prog) (ty := o.type) (encInt_len .u8) (encInt_one .u8) Tryz.underlying22 infoU8 rfl (by decide) (H.get i hA) hx (by omega) (by unfold maxLen; omega) (Nat.zero_le _)
  refine IL_value hgd hs' (hab w) (w' := w') ?_ (kk v' w' (H.upd i hA ((Ext.of_grown hg).mono (fun j _ hj => hj.symm)) hown (fun j hj => ?_)))
  · unfold execOp
    simp only [ho, resolve, invoke, builtin, Sem.run_bind, Sem.run_pure, Result.andThen_ok, List.map_toArray, List.map_cons, List.map_nil, hs, hxv, hr]
  · refine ⟨?_, (hown.lt j hj).2⟩
    rcases hat with h | h
    · exact .inl (show v.ownBlock = some j from h.symm.trans hj)
    · have hj' : v'.ownBlock = some j := hj
      rw [h] at hj'; cases hj'; exact .inr (Nat.le_refl _)
theorem IL_appendZ (hgd : o.guard = none) (hs' : ∀ c, o.op ≠ .defer c) (hab : ∀ w, o.about Tryz.prog w a.eval = none) {s x : Operand} (ho : o.op = .call { callee := .builtin .append, args := #[s, x], argTypes := #[22, 3] }) (H : SH M w0 w L) (i : Nat)
    {v : Value} {m : Nat} {xs : List Value} (hA : L[i]? = some (ownA 5 1 v m xs)) (hs : a.eval s = v) {k : Nat} (hx : a.eval x = .int .i64 (k : Int)) (hk : m + k ≤ 1000000)
    (kk : ∀ v' w', SH M w0 w' (L.set i (ownA 5 1 v' (m + k) (xs ++ zB k))) → wpListIn F n Tryz.prog ops Q rest (a.put o.dst v') w') : wpListIn F n Tryz.prog ops Q (o :: rest) a w := by
  obtain ⟨v', w', hr, hown, hg, hat⟩ := run_appendZ (ty := o.type) (H.get i hA) k hk (Nat.zero_le _)
  refine IL_value hgd hs' (hab w) (w' := w') ?_ (kk v' w' (H.upd i hA ((Ext.of_grown hg).mono (fun j _ hj => hj.symm)) hown (fun j hj => ?_)))
  · unfold execOp
    simp only [ho, resolve, invoke, builtin, Sem.run_bind, Sem.run_pure, Result.andThen_ok, List.map_toArray, List.map_cons, List.map_nil, hs, hx, hr]
  · refine ⟨?_, (hown.lt j hj).2⟩
    rcases hat with h | h
    · exact .inl (show v.ownBlock = some j from h.symm.trans hj)
    · have hj' : v'.ownBlock = some j := hj
      rw [h] at hj'; cases hj'; exact .inr (Nat.le_refl _)
end
end Go.Proofs.YtgmeahogdjhejaaGreatDoor

namespace Go.Proofs.YtgmeahogdjhejaaGreatDoor
set_option linter.unusedVariables false
set_option linter.unusedSimpArgs false
open Go.RowKit Go.Shelf

theorem bytesRow {w : World} {g : Nat} {xs : List Int} {T : TypeId} {fr : Nat × Nat} (h : w.heap[g]? = some (.cells (bcells xs) T fr)) (c : Nat) (hc : xs.length ≤ c) : RdS (encInt .u8) 1 w (.slice (some ⟨g, 0, none⟩) xs.length c) xs :=
  ⟨_, c, rfl, hc, .inr ⟨g, 0, _, T, fr, rfl, h, fun j hj i hi => by
    obtain rfl : i = 0 := by omega
    simp [bcells, encInt, hj]⟩⟩
theorem RdS.dropG {α : Type} {enc : α → List Value} {k : Nat} {w : World} {b off n cap : Nat} {xs : List α} (h : RdS enc k w (.slice (some ⟨b, off, none⟩) n cap) xs) (m : Nat) (hm : m ≤ xs.length) : RdS enc k w (.slice (some ⟨b, off + m * k, none⟩) (xs.length - m) (cap - m)) (xs.drop m) := by
  obtain ⟨A', cap', he, hc, h⟩ := h
  cases he
  refine ⟨_, cap - m, by rw [List.length_drop], by rw [List.length_drop]; omega, ?_⟩
  rcases h with h | ⟨b', off', cs, T, fr, h1, h2, h3⟩
  · left; rw [h]; simp
  · cases h1
    right
    refine ⟨b, off + m * k, cs, T, fr, rfl, h2, fun j hj i hi => ?_⟩
    rw [List.getElem_drop, ← h3 (m + j) (by rw [List.length_drop] at hj; omega) i hi]
    congr 1
    rw [Nat.add_mul]
    omega
theorem octI_any (n : Int) (w : World) : Calls Tryz.prog 87 #[.slice none 0 0, .int .i64 n] w fun e w' => ∃ g, e = .returned (.slice (some ⟨g, 0, none⟩) 8 8) ∧ SH (fun _ => False) w w' [pt g (.cells (bcells (be8 n)) 5 (0, 0))] :=
  (octInt_any (.slice none 0 0) [] n w (RdS.nil _ _ _) (by simp)).mono fun e w' ⟨g, he, h⟩ => ⟨g, he, h⟩
set_option maxRecDepth 100000 in
theorem last4_any (n : Int) (w : World) : Calls Tryz.prog 77 #[.int .i64 n, .int .i64 4] w (GivesB w (be4 n)) := by
  have ho := octI_any n w
  go_enter Tryz.func77, Tryz.ntmps77
  go_wp2_with (go_at_call 87; refine ho.mono ?_; rintro e w1 ⟨g, rfl, H⟩; have hrd := (bytesRow (H.at_ 0 rfl) 8 (by show 8 ≤ 8; omega)).dropG 4 (by show 4 ≤ 8; omega))
  go_ret
  exact ⟨_, rfl, by first | exact hrd | (rw [Nat.zero_add] at hrd; exact hrd), H.ext⟩
set_option maxRecDepth 100000 in
theorem last2_any (n : Int) (w : World) : Calls Tryz.prog 77 #[.int .i64 n, .int .i64 2] w (GivesB w (be2 n)) := by
  have ho := octI_any n w
  go_enter Tryz.func77, Tryz.ntmps77
  go_wp2_with (go_at_call 87; refine ho.mono ?_; rintro e w1 ⟨g, rfl, H⟩; have hrd := (bytesRow (H.at_ 0 rfl) 8 (by show 8 ≤ 8; omega)).dropG 6 (by show 6 ≤ 8; omega))
  go_ret
  exact ⟨_, rfl, by first | exact hrd | (rw [Nat.zero_add] at hrd; exact hrd), H.ext⟩
theorem be4_bytes (n : Int) : ∀ x ∈ be4 n, 0 ≤ x ∧ x ≤ 255 := by
  intro x hx
  simp only [be4, List.mem_cons, List.not_mem_nil, or_false] at hx
  rcases hx with rfl | rfl | rfl | rfl <;> omega
theorem be2_bytes (n : Int) : ∀ x ∈ be2 n, 0 ≤ x ∧ x ≤ 255 := by
  intro x hx
  simp only [be2, List.mem_cons, List.not_mem_nil, or_false] at hx
  rcases hx with rfl | rfl <;> omega
theorem RdS.isSlice {w : World} {v : Value} {xs : List Int} (h : RdS (encInt .u8) 1 w v xs) : ∃ A c, v = .slice A xs.length c := by
  obtain ⟨A, c, h, _⟩ := h.len
  exact ⟨A, c, h⟩
theorem two_parts {w : World} {g : Nat} {v1 v2 : Value} {a b : List Int} (hg : w.heap[g]? = some (.cells #[v1, v2] 22 (0, 0))) (h1 : RdS (encInt .u8) 1 w v1 a) (h2 : RdS (encInt .u8) 1 w v2 b) (ha : ∀ x ∈ a, 0 ≤ x ∧ x ≤ 255) (hb : ∀ x ∈ b, 0 ≤ x ∧ x ≤ 255) : Parts w g [(v1, a), (v2, b)] :=
  ⟨hg, fun p hp => by simp only [List.mem_cons, List.not_mem_nil, or_false] at hp; rcases hp with rfl | rfl <;> assumption, fun p hp => by simp only [List.mem_cons, List.not_mem_nil, or_false] at hp; rcases hp with rfl | rfl <;> assumption⟩
theorem concat2 {w : World} {g : Nat} {v1 v2 : Value} {a b : List Int} (h : Parts w g [(v1, a), (v2, b)]) (h0 : 0 < a.length) (hl : a.length + b.length ≤ 1000000) : Calls Tryz.prog 76 #[.slice (some ⟨g, 0, none⟩) 2 2] w (GivesNew w (a ++ b)) := by
  have := concat_any g _ w h (by simp) (by simp [flatB]; omega) (by simp [flatB]; omega)
  have e : flatB [(v1, a), (v2, b)] = a ++ b := by simp [flatB]
  rw [e] at this
  exact this
theorem crcOf2 {w : World} {g : Nat} {v1 v2 : Value} {a b : List Int} (h : Parts w g [(v1, a), (v2, b)]) (ha : a.length ≤ 1000000) (hb : b.length ≤ 1000000) : Calls Tryz.prog 78 #[.slice (some ⟨g, 0, none⟩) 2 2] w fun e w' => e = .returned (.int .u32 (crcTwo a b)) ∧ w' = w :=
  crcOf_any g _ w h (by simp) (fun p hp => by simp only [List.mem_cons, List.not_mem_nil, or_false] at hp; rcases hp with rfl | rfl <;> assumption)
theorem L_litE {P : Program} {w w0 : World} {M : Nat → Prop} {L : List Asr} {a : Act} {ops : Array Oper} {rest : List Oper} {o : Oper} {Q : Exit → Act → World → Prop} (hgd : o.guard = none) {t e : TypeId} {n : Nat} {parts : Array (Nat × Operand)} (ho : o.op = .buildSlice t n parts) (H : SH M w0 w L) {cs : Array Value}
    (hr : ∀ w, (Instr.buildSlice t n (parts.map fun (i, x) => (i, a.eval x))).run P w = .ok (.slice (some ⟨w.heap.size, 0, none⟩) n n) (w.alloc (.cells cs e)))
    (k : ∀ b w', SH M w0 w' (pt b (.cells cs e (0, 0)) :: L) → Ext0 w w' → wpList P ops Q rest (a.put o.dst (.slice (some ⟨b, 0, none⟩) n n)) w') : wpList P ops Q (o :: rest) a w := by
  refine wpList_plain hgd fun K hK => ?_
  unfold Oper.wp execOp
  simp only [ho, Sem.run_bind, Sem.run_pure, Result.andThen_ok, hr]
  exact hK _ _ (k _ _ (H.alloc _) (Ext.alloc _ _ _))
set_option maxRecDepth 100000 in
set_option maxHeartbeats 2000000 in
theorem marked_any (e q : Int) (w : World) : Calls Tryz.prog 75 #[.int .i64 e, .int .i64 q] w (GivesNew w (markP e q)) := by
  have H : SH (fun _ => False) w w [] := SH.nil _ _
  have h1 := fun {W : World} => last4_any e W
  have h2 := fun {W : World} => last4_any q W
  go_enter Tryz.func75, Tryz.ntmps75
  go_wp2_with (first
    | (go_at_call 77; refine h1.mono ?_; clear h1; rintro e w1 ⟨v1, rfl, hv1, hE⟩; replace H := H.calls hE; clear hE; obtain ⟨A1, c1, rfl⟩ := hv1.isSlice)
    | (go_at_call 77; refine h2.mono ?_; clear h2; rintro e w2 ⟨v2, rfl, hv2, hE⟩; replace H := H.calls hE; replace hv1 := hv1.keep hE; clear hE; obtain ⟨A2, c2, rfl⟩ := hv2.isSlice)
    | (refine L_litE (e := 22) (cs := #[.slice A1 4 c1, .slice A2 4 c2]) rfl rfl H (by intro _; first | (go_simp; done) | (go_simp; rfl)) ?_; clear H; intro gl w H hE; replace hv1 := hv1.keep hE; replace hv2 := hv2.keep hE; clear hE)
    | (go_at_call 76; refine (concat2 (two_parts (H.at_ 0 rfl) hv1 hv2 (be4_bytes _) (be4_bytes _)) (by show 0 < 4; omega) (by show 4 + 4 ≤ 1000000; omega)).mono ?_; rintro e w4 ⟨v4, rfl, ho, hE⟩))
  go_ret
  exact ⟨v4, rfl, ownsRow_weak ho (fun j hj => Nat.le_trans H.ext.size (ho.lt j hj).1), H.ext.trans0 hE⟩
end Go.Proofs.YtgmeahogdjhejaaGreatDoor

namespace Go.Proofs.YtgmeahogdjhejaaGreatDoor
set_option linter.unusedVariables false
set_option linter.unusedSimpArgs false
open Go.RowKit Go.Shelf
attribute [local go_sem] Oper.semAt_some

theorem own_slice {w : World} {base : Nat} {T : TypeId} {k : Nat} {v : Value} {n : Nat} {xs : List Value} (h : w.ownsRow base T k v n xs) : ∃ A c, v = .slice A n c := by
  rcases h.2 with ⟨h1, h2⟩ | ⟨g, c, cur, h1, _⟩
  · exact ⟨none, 0, by rw [h1, h2]⟩
  · exact ⟨_, c, h1⟩
theorem own_rd {w : World} {base : Nat} {T : TypeId} {v : Value} {n : Nat} {ys : List Int} (h : w.ownsRow base T 1 v n (cellsOf (encInt .u8) ys)) (hn : n = ys.length) : RdS (encInt .u8) 1 w v ys := RdS.own (encInt_len .u8) hn h
theorem zB_cells (k : Nat) : cellsOf (encInt .u8) (List.replicate k 0) = zB k := by rw [cellsOf_int]; simp [zB]
theorem RdS.putObj {α : Type} {enc : α → List Value} {k : Nat} {w : World} {v : Value} {xs : List α} (h : RdS enc k w v xs) {D : Nat} {o : Obj} (hK : w.heap[D]? = some o) (hc : o.isCells = false) (o' : Obj) : RdS enc k (w.putObj D o') v xs := by
  obtain ⟨A, cap, rfl, hcap, h | ⟨b, off, cs, T, fr, rfl, hb, hcs⟩⟩ := h
  · exact ⟨A, cap, rfl, hcap, .inl h⟩
  · refine ⟨_, cap, rfl, hcap, .inr ⟨b, off, cs, T, fr, rfl, (World.putObj_heap_other (fun e => ?_)).trans hb, hcs⟩⟩
    rw [e, hK] at hb
    cases hb
    cases hc
theorem ext_putObj {w0 w : World} (h : Ext0 w0 w) {D : Nat} (hD : w0.heap.size ≤ D) (o' : Obj) : Ext0 w0 (w.putObj D o') :=
  h.trans (Ext.of_grown (grownBy_putObj' w D o')) (fun i hi e => by cases e; omega)
theorem clipB_any (v : Value) (xs : List Int) (w : World) (hr : RdS (encInt .u8) 1 w v xs) : Calls Tryz.prog 69 #[v] w (GivesB w xs) := by
  obtain ⟨A, cap, rfl, hcap, h⟩ := hr
  have hci : (xs.length : Int) ≤ (cap : Int) := by omega
  obtain ⟨n, hn⟩ : ∃ n, xs.length = n := ⟨_, rfl⟩
  rw [hn] at hci ⊢
  have HH := Lib.hid (And.intro h hn)
  clear h hn hcap
  go_enter Tryz.func69, Tryz.ntmps69
  go_wp2
  go_ret
  exact ⟨_, rfl, ⟨_, _, by rw [HH.out.2]; rfl, by rw [HH.out.2]; exact Nat.le_refl _, HH.out.1⟩, Ext.refl _ _⟩
theorem RdS.clip {α : Type} {enc : α → List Value} {k : Nat} {w : World} {A : Option Addr} {n c : Nat} {xs : List α} (h : RdS enc k w (.slice A n c) xs) : RdS enc k w (.slice A n n) xs := by
  obtain ⟨A', c', he, _, hh⟩ := h
  cases he
  exact ⟨_, _, rfl, Nat.le_refl _, hh⟩
theorem clipS_any (A : Option Addr) (n cap : Nat) (hc : n ≤ cap) (w : World) : Calls Tryz.prog 69 #[.slice A n cap] w fun e w' => e = .returned (.slice A n n) ∧ w' = w := by
  have hci : (n : Int) ≤ (cap : Int) := by omega
  clear hc
  go_enter Tryz.func69, Tryz.ntmps69
  go_wp2
  go_ret
  exact ⟨rfl, rfl⟩
theorem u32_int {x : Int} (h : U32 x) : IntKind.i64.wrap x = x := by rw [IntKind.wrap_i64]; unfold U32 at h; omega
/-- What is laid when the pieces of these numbers have come. -/
def laid (m d : List Int) (pre : List Nat) : List Int := pre.flatMap (sectP m d)
theorem laid_snoc (m d : List Int) (pre : List Nat) (x : Nat) : laid m d (pre ++ [x]) = laid m d pre ++ sectP m d x := by simp [laid]
theorem laid_len {m : List Int} (hm : m.length = 8) (d : List Int) (pre : List Nat) : (laid m d pre).length = 32 * pre.length := by
  induction pre with
  | nil => rfl
  | cons x pre ih =>
    unfold laid at ih ⊢
    rw [List.flatMap_cons, List.length_append, ih, sectP_len hm, List.length_cons]
    omega
theorem sect_piece (m d : List Int) (x : Nat) : sectP m d x = (d.drop (x * 24)).take 24 ++ (List.replicate (24 - min 24 (d.length - x * 24)) 0 ++ m) := by
  unfold sectP
  rw [← List.append_assoc]
  congr 1
  apply List.ext_getElem?
  intro k
  by_cases hk : k < 24
  · rw [List.getElem?_map, List.getElem?_range hk, Option.map_some, List.getD_eq_getElem?_getD]
    by_cases h : x * 24 + k < d.length
    · rw [List.getElem?_append_left (by rw [List.length_take, List.length_drop]; omega), List.getElem?_take, if_pos hk, List.getElem?_drop, Nat.mul_comm 24 x, List.getElem?_eq_getElem h]
      rfl
    · rw [List.getElem?_append_right (by rw [List.length_take, List.length_drop]; omega), List.getElem?_eq_none (by omega : d.length ≤ 24 * x + k), List.length_take, List.length_drop, List.getElem?_replicate, if_pos (by omega)]
      rfl
  · rw [List.getElem?_eq_none (by simp; omega), List.getElem?_eq_none (by rw [List.length_append, List.length_take, List.length_drop, List.length_replicate]; omega)]
def LayE (xs : List Int) (w : World) (e : Ending) (w' : World) : Prop := ∃ v, e = .returned (.tuple #[v, .int .i64 0]) ∧ RdS (encInt .u8) 1 w' v xs ∧ Ext0 w w' ∧ ∀ j, v.ownBlock = some j → w.heap.size ≤ j
theorem rd_piece24 {w : World} {g off n c : Nat} {xs : List Int} (h : RdS (encInt .u8) 1 w (.slice (some ⟨g, off, none⟩) n c) xs) (x : Nat) : RdS (encInt .u8) 1 w (.slice (some ⟨g, off + x * 24, none⟩) (min 24 (xs.length - x * 24)) (min 24 (xs.length - x * 24))) ((xs.drop (x * 24)).take 24) := by
  have hl : ((xs.drop (x * 24)).take 24).length = min 24 (xs.length - x * 24) := by rw [List.length_take, List.length_drop]
  obtain ⟨A', c', he, hc, hh⟩ := h
  cases he
  refine ⟨_, _, by rw [hl], by rw [hl]; exact Nat.le_refl _, ?_⟩
  rcases hh with hh | ⟨b, o, cs, T, fr, hA, hb, hcs⟩
  · left; simp [hh]
  · cases hA
    right
    refine ⟨_, _, cs, T, fr, rfl, hb, fun j hj i hi => ?_⟩
    have hj2 : x * 24 + j < xs.length := by rw [hl] at hj; omega
    rw [List.getElem_take, List.getElem_drop, ← hcs (x * 24 + j) hj2 i hi]
    congr 1
    omega
/-- What lies apart while the pieces come. -/
def layL (e q : Int) (b : List Int) (gd cd g8 g10 Bs Bn : Nat) (Am : Option Addr) (cm : Nat) (v : Value) (pre : List Nat) : List Asr :=
  [ownA 5 1 v (32 * pre.length) (cellsOf (encInt .u8) (laid (markP e q) (matterP e q b) pre)), pt Bn (.cells #[.int .i64 24] 3 (0, 0)), pt Bs (.cells #[.slice (some ⟨gd, 0, none⟩) (b.length + 6) cd] 22 (0, 0)), pt g10 (.cells #[v] 22 (0, 0)),
    ownA 5 1 (.slice (some ⟨gd, 0, none⟩) (b.length + 6) cd) (b.length + 6) (cellsOf (encInt .u8) (matterP e q b)), pt g8 (.cells #[.slice Am 8 cm] 22 (0, 0)), ownA 5 1 (.slice Am 8 cm) 8 (cellsOf (encInt .u8) (markP e q))]
theorem layL_low (e q : Int) (b : List Int) (gd cd g8 g10 Bs Bn : Nat) (Am : Option Addr) (cm : Nat) (v : Value) (pre : List Nat) (B : Nat) : Low B (layL e q b gd cd g8 g10 Bs Bn Am cm v pre) := by
  intro A hA
  simp only [layL, List.mem_cons, List.not_mem_nil, or_false] at hA
  rcases hA with rfl | rfl | rfl | rfl | rfl | rfl | rfl <;> first | exact .inl (cellsA_pt _ _ _ _) | exact .inl (cellsA_own _ _ _ _ _)
set_option maxRecDepth 100000 in
set_option maxHeartbeats 4000000 in
theorem lay_any (e q : Int) (v : Value) (b : List Int) (w0 : World) (he : U32 e) (hq : U32 q) (hr : RdS (encInt .u8) 1 w0 v b) (hb : ∀ x ∈ b, 0 ≤ x ∧ x ≤ 255) (hl : b.length ≤ 65535) :
    Calls Tryz.prog 54 #[.int .i64 e, .int .i64 q, v] w0 (LayE (layP e q b) w0) := by
  obtain ⟨A, cap, rfl, hcap⟩ := hr.len
  have H : SH (fun _ => False) w0 w0 [] := SH.nil _ _
  have hmk : ∀ {W : World}, Calls Tryz.prog 75 #[.int .i64 e, .int .i64 q] W (fun e' w' => ∃ v, e' = .returned v ∧ w'.ownsRow W.heap.size 5 1 v 8 (cellsOf (encInt .u8) (markP e q)) ∧ Ext0 W w') := fun {W} => marked_any e q W
  have hl2 : ∀ {W : World}, Calls Tryz.prog 77 #[.int .i64 (b.length : Int), .int .i64 2] W (GivesB W (be2 b.length)) := fun {W} => last2_any _ W
  have hmb : ∀ x ∈ markP e q, 0 ≤ x ∧ x ≤ 255 := fun x hx => by unfold markP at hx; rcases List.mem_append.1 hx with h | h <;> exact be4_bytes _ x h
  have hcr := crcTwo_rng (markP e q) (matter0 b)
  have hm0l : (matter0 b).length = b.length + 2 := by unfold matter0; simp [be2]
  have hm0b : ∀ x ∈ matter0 b, 0 ≤ x ∧ x ≤ 255 := fun x hx => by unfold matter0 at hx; rcases List.mem_append.1 hx with h | h; exact be2_bytes _ x h; exact hb x h
  have hml := matterP_len e q b
  have HF := Lib.hid (And.intro hr (And.intro hb (And.intro hmb (And.intro hm0l (And.intro hm0b hml)))))
  have h1 : ¬ e < 0 := by unfold U32 at he; omega
  have h2 : ¬ q < 0 := by unfold U32 at hq; omega
  have h3 : ¬ 4294967295 < e := by unfold U32 at he; omega
  have h4 : ¬ 4294967295 < q := by unfold U32 at hq; omega
  have h5 : ¬ min e q < 0 := by omega
  have h6 : ¬ 4294967295 < max e q := by omega
  have h7 : ¬ 65535 < (b.length : Int) := by omega
  clear hr hb hmb hm0l hm0b hml he hq
  obtain ⟨cr, hcre⟩ : ∃ cr, crcTwo (markP e q) (matter0 b) = cr := ⟨_, rfl⟩
  rw [hcre] at hcr
  have hwcr := u32_int hcr
  have hl4 : ∀ {W : World}, Calls Tryz.prog 77 #[.int .i64 cr, .int .i64 4] W (GivesB W (be4 cr)) := fun {W} => last4_any _ W
  have HCR := Lib.hid hcre
  clear hcre hcr
  refine callsIn_wide.1 (callsIn_of_wp_marks (F := Fence.wide) (n := 3) Tryz.func54 rfl trivial (wpIn_wide.2 ?_) rfl)
  simp only [Tryz.ntmps54, List.size_toArray, List.length_cons, List.length_nil, Nat.reduceAdd, Nat.reduceSub, Array.replicate_succ, Array.replicate_zero, List.push_toArray, List.append_toArray, List.nil_append, List.cons_append]
  go_upto_region 6 with (first
    | (go_at_call 75; refine hmk.mono ?_; rintro e1 w1 ⟨vm, rfl, ho, hE⟩; replace H := H.addOwn hE ho; clear ho hE; obtain ⟨Am, cm, rfl⟩ := own_slice (H.get 0 rfl))
    | (refine L_alloc rfl rfl H Tryz.zeroValue22 ?_; clear H; intro g8 w H; simp only [Value.cells] at H; (try simp only [Act.put, List.setIfInBounds_toArray, List.set_cons_succ, List.set_cons_zero, List.getElem_toArray, List.getElem_cons_succ, List.getElem_cons_zero]))
    | (refine L_store1 rfl rfl H 0 rfl rfl rfl rfl rfl (Nat.le_of_ble_eq_true rfl) Tryz.sizeOf22 ?_; clear H; intro w H; simp only [List.set_cons_zero, List.set_cons_succ, List.setIfInBounds_toArray, Act.eval, Array.getD_eq_getD_getElem?, List.getElem?_toArray, List.getElem?_cons_succ, List.getElem?_cons_zero, Option.getD_some] at H; (try simp only [Act.put, List.setIfInBounds_toArray, List.set_cons_succ, List.set_cons_zero, List.getElem_toArray, List.getElem_cons_succ, List.getElem_cons_zero])))
  clear hmk h1 h2 h3 h4 h5 h6
  go_upto_region 7 with (first
    | (go_at_call 77; refine hl2.mono ?_; rintro e1 w1 ⟨v32, rfl, hv32, hE⟩; replace H := H.calls hE; clear hE; obtain ⟨A32, c32, rfl⟩ := hv32.isSlice)
    | (refine L_litE (e := 22) (cs := #[.slice A32 2 c32, .slice A b.length cap]) rfl rfl H (by intro _; first | (go_simp; done) | (go_simp; rfl)) ?_; clear H; intro gl w H hE; replace hv32 := hv32.keep hE; clear hE)
    | (go_at_call 76; refine (concat2 (two_parts (H.at_ 0 rfl) hv32 (HF.out.1.keep H.ext) (be2_bytes _) HF.out.2.1) (by show 0 < 2; omega) (by show 2 + b.length ≤ 1000000; omega)).mono ?_; rintro e1 w4 ⟨v35, rfl, ho, hE⟩; replace H := H.addOwn hE ho; clear ho hE hv32))
  have H2 := H.drop (L' := [_, _, _]) (List.Sublist.cons_cons _ (List.Sublist.cons _ (List.Sublist.refl _)))
  clear H hl2
  have H := H2
  clear H2
  have hl35 : (be2 (b.length : Int) ++ b).length = b.length + 2 := HF.out.2.2.2.1
  have hm0 : be2 (b.length : Int) ++ b = matter0 b := rfl
  rw [hl35, hm0] at H
  obtain ⟨A35, c35, rfl⟩ := own_slice (H.get 0 rfl)
  have HM0 := Lib.hid (And.intro hl35 hm0)
  clear hl35 hm0
  go_upto_region 8 with (first
    | (refine L_load1 rfl rfl H 1 rfl rfl rfl Tryz.isAgg22 ?_; (try simp only [Act.put, List.setIfInBounds_toArray, List.set_cons_succ, List.set_cons_zero, List.getElem_toArray, List.getElem_cons_succ, List.getElem_cons_zero]))
    | (refine L_litE (e := 22) (cs := #[.slice Am 8 cm, .slice A35 (b.length + 2) c35]) rfl rfl H (by intro _; first | (go_simp; done) | (go_simp; rfl)) ?_; clear H; intro gl w H hE; clear hE)
    | (go_at_call 78; refine (crcOf2 (two_parts (H.at_ 0 rfl) (own_rd (H.get 3 rfl) rfl) (own_rd (H.get 1 rfl) HF.out.2.2.2.1.symm) HF.out.2.2.1 HF.out.2.2.2.2.1) (by show 8 ≤ 1000000; omega) (by rw [HF.out.2.2.2.1]; omega)).mono ?_; rintro e1 w5 ⟨rfl, hw5⟩; replace hw5 := hw5.symm; subst hw5; rw [HCR.out])
    | (go_at_call 77; refine hl4.mono ?_; rintro e1 w1 ⟨v42, rfl, hv42, hE⟩; replace H := H.calls hE; clear hE; obtain ⟨A42, c42, rfl⟩ := hv42.isSlice)
    | (refine L_litE (e := 22) (cs := #[.slice A35 (b.length + 2) c35, .slice A42 4 c42]) rfl rfl H (by intro _; first | (go_simp; done) | (go_simp; rfl)) ?_; clear H; intro gl w H hE; replace hv42 := hv42.keep hE; clear hE)
    | (go_at_call 76; refine (concat2 (two_parts (H.at_ 0 rfl) (own_rd (H.get 2 rfl) HF.out.2.2.2.1.symm) hv42 HF.out.2.2.2.2.1 (be4_bytes _)) (by rw [HF.out.2.2.2.1]; omega) (by rw [HF.out.2.2.2.1]; show b.length + 2 + 4 ≤ 1000000; omega)).mono ?_; rintro e1 w4 ⟨v44, rfl, ho, hE⟩; replace H := H.addOwn hE ho; clear ho hE hv42))
  have H2 := H.drop (L' := [_, _, _]) (List.Sublist.cons_cons _ (List.Sublist.cons _ (List.Sublist.cons _ (List.Sublist.cons _ (List.Sublist.refl _)))))
  clear H hl4
  have h44 : matter0 b ++ be4 cr = matterP e q b := by rw [← HCR.out]; rfl
  rw [h44, HF.out.2.2.2.2.2] at H2
  obtain ⟨gd, cd, rfl, hcd⟩ := own_some (H2.get 0 rfl) (by omega)
  have HM := Lib.hid (And.intro h44 HM0.out)
  clear h44 HM0 HCR hwcr h7
  go_wp2_with (first
    | (refine L_alloc rfl rfl H2 Tryz.zeroValue22 ?_; clear H2; intro g10 w H2; simp only [Value.cells] at H2; (try simp only [Act.put, List.setIfInBounds_toArray, List.set_cons_succ, List.set_cons_zero, List.getElem_toArray, List.getElem_cons_succ, List.getElem_cons_zero]))
    | (go_at_call 60; refine (chunk_any _ _ _ 24 (by decide) _).mono ?_; rintro e1 w9 ⟨Bs, Bn, rfl, h⟩; replace H2 := H2.cat h; clear h; simp only [List.cons_append, List.nil_append] at H2))
  clear HM
  have hsz9 : w0.heap.size ≤ w9.heap.size := H2.ext.size
  have hcnt : countP b.length = (b.length + 6 + 23) / 24 := by unfold countP; omega
  have hH0 := H2.addNil 5 1
  refine (wpIn_wide (n := 3)).1 ?_
  apply wpIn_rangeFunc_ownG (F := Fence.wide) (n := 3) (gf := 79) (lb := #[.pointer (some ⟨Bs, 0, none⟩), .pointer (some ⟨Bn, 0, none⟩)]) rfl (by decide) rfl trivial (enters_of Tryz.func79 (by kernel_rfl) rfl)
    (chunk24_stops Fence.wide (3 - 1) trivial rfl (by decide) Bs Bn gd 0 (b.length + 6) cd (countP b.length) hcnt (by omega) hcd w9 (H2.at_ 1 rfl) (H2.at_ 0 rfl))
    (fun h k => kpB_t h k) (kpB_b (blk_lt' (H2.at_ 1 rfl)) (blk_lt' (H2.at_ 0 rfl))) (Below.refl _ _) (fun _ => rfl)
    (fun pre W => ∃ v, SH (fun _ => False) w0 W (layL e q b gd cd g8 g10 Bs Bn Am cm v pre)) (fun _ _ _ => False)
    (fun pre W W' row ⟨v, hs⟩ hg hr => ⟨v, hs.walked (layL_low _ _ _ _ _ _ _ _ _ _ _ _ _ _) hsz9 hg hr⟩) (fun _ _ _ _ _ h _ _ => h) ⟨_, hH0⟩
  case hassign =>
    intro l x W K hK
    gi_wp2
    exact hK
  case hbody =>
    rintro l pre x W ⟨v, hs⟩ hpre
    have K := hs.inner
    obtain ⟨e0, he0⟩ : ∃ e0, min 24 (b.length + 6 - x * 24) = e0 := ⟨_, rfl⟩
    obtain ⟨ys, hys⟩ : ∃ ys, ((matterP e q b).drop (x * 24)).take 24 = ys := ⟨_, rfl⟩
    have hpx : piece24 gd 0 (b.length + 6) x = .slice (some ⟨gd, 0 + x * 24, none⟩) e0 e0 := by unfold piece24; rw [he0]
    have hyl : ys.length = e0 := by rw [← hys, List.length_take, List.length_drop, HF.out.2.2.2.2.2]; exact he0
    have hprF : ∀ {w' : World}, w'.ownsRow 0 5 1 (.slice (some ⟨gd, 0, none⟩) (b.length + 6) cd) (b.length + 6) (cellsOf (encInt .u8) (matterP e q b)) → RdS (encInt .u8) 1 w' (.slice (some ⟨gd, 0 + x * 24, none⟩) e0 e0) ys := fun {w'} h => by
      have h1 := rd_piece24 (own_rd h HF.out.2.2.2.2.2.symm) x
      rw [hys, HF.out.2.2.2.2.2, he0] at h1
      exact h1
    have hsect : sectP (markP e q) (matterP e q b) x = ys ++ (List.replicate (24 - e0) 0 ++ markP e q) := by rw [sect_piece, hys, HF.out.2.2.2.2.2, he0]
    have hcl : pre.length < 3000 := by unfold countP at hpre; omega
    have he24 : e0 ≤ 24 := by omega
    have hwz : IntKind.i64.wrap (24 - (e0 : Int)) = ((24 - e0 : Nat) : Int) := by rw [IntKind.wrap_i64]; omega
    have HY := Lib.hid (And.intro hsect hyl)
    rw [hpx]
    generalize hM : fps (layL e q b gd cd g8 g10 Bs Bn Am cm v pre) = M0 at K
    unfold layL at K
    have HM0 := Lib.hid hM
    clear hM hpx hys hsect he0 hyl hpre
    gi_wp2_with (first
      | (refine IL_load1 rfl (by intro c h; cases h) (fun _ => rfl) rfl K 3 rfl rfl rfl Tryz.isAgg22 ?_; (try simp only [Act.put, List.setIfInBounds_toArray, List.set_cons_succ, List.set_cons_zero, List.getElem_toArray, List.getElem_cons_succ, List.getElem_cons_zero]))
      | (refine IL_load1 rfl (by intro c h; cases h) (fun _ => rfl) rfl K 5 rfl rfl rfl Tryz.isAgg22 ?_; (try simp only [Act.put, List.setIfInBounds_toArray, List.set_cons_succ, List.set_cons_zero, List.getElem_toArray, List.getElem_cons_succ, List.getElem_cons_zero]))
      | (refine IL_appendB rfl (by intro c h; cases h) (fun _ => rfl) rfl K 0 rfl rfl rfl (hprF (K.get 4 rfl)) (by rw [HY.out.2]; omega) ?_; clear K; intro v1 w1 K; simp only [List.set_cons_zero] at K; obtain ⟨A1, c1, rfl⟩ := own_slice (K.get 0 rfl))
      | (refine IL_appendB rfl (by intro c h; cases h) (fun _ => rfl) rfl K 0 rfl rfl rfl (own_rd (K.get 6 rfl) rfl) (by rw [HY.out.2]; show _ + 8 ≤ _; omega) ?_; clear K; intro v1 w1 K; simp only [List.set_cons_zero] at K; obtain ⟨A1, c1, rfl⟩ := own_slice (K.get 0 rfl))
      | (refine IL_appendZ (k := 24 - e0) rfl (by intro c h; cases h) (fun _ => rfl) rfl K 0 rfl rfl rfl (by rw [HY.out.2]; omega) ?_; clear K; intro v1 w1 K; simp only [List.set_cons_zero] at K; obtain ⟨A1, c1, rfl⟩ := own_slice (K.get 0 rfl))
      | (refine IL_store1 rfl (by intro c h; cases h) (fun _ => rfl) rfl K 3 rfl rfl rfl rfl rfl (Nat.le_of_ble_eq_true rfl) Tryz.sizeOf22 ?_; clear K; intro w1 K; simp only [List.set_cons_zero, List.set_cons_succ, List.setIfInBounds_toArray, Act.eval, Array.getD_eq_getD_getElem?, List.getElem?_toArray, List.getElem?_cons_succ, List.getElem?_cons_zero, Option.getD_some] at K; (try simp only [Act.put, List.setIfInBounds_toArray, List.set_cons_succ, List.set_cons_zero, List.getElem_toArray, List.getElem_cons_succ, List.getElem_cons_zero])))
    have hM := HM0.out
    subst hM
    have hO := hs.outer K
    have e1 : 32 * (pre ++ [x]).length = 32 * pre.length + ys.length + (24 - e0) + (markP e q).length := by
      rw [List.length_append, HY.out.2]
      show 32 * (pre.length + 1) = 32 * pre.length + e0 + (24 - e0) + 8
      omega
    have e2 : cellsOf (encInt .u8) (laid (markP e q) (matterP e q b) (pre ++ [x])) = cellsOf (encInt .u8) (laid (markP e q) (matterP e q b) pre) ++ cellsOf (encInt .u8) ys ++ zB (24 - e0) ++ cellsOf (encInt .u8) (markP e q) := by
      rw [laid_snoc, HY.out.1, cellsOf_append, cellsOf_append, cellsOf_append, zB_cells]
      simp only [List.append_assoc]
    refine ⟨(layL_low _ _ _ _ _ _ _ _ _ _ _ _ _ _).keeps hs K, kpB_of (hs.at_ 2 rfl) (hs.at_ 1 rfl) (K.at_ 2 rfl) (K.at_ 1 rfl), ⟨.slice A1 (32 * pre.length + ys.length + (24 - e0) + (markP e q).length) c1, ?_⟩⟩
    unfold layL
    rw [e1, e2]
    exact hO
  case hdone =>
    rintro D ps W hD rfl ⟨v, hs⟩ hK
    unfold layL at hs
    rw [List.length_range] at hs
    have hlaid : laid (markP e q) (matterP e q b) (List.range (countP b.length)) = layP e q b := rfl
    rw [hlaid] at hs
    have hll := layP_len e q b
    have HLL := Lib.hid hll
    clear hll hlaid
    obtain ⟨m, hm⟩ : ∃ m, 32 * countP b.length = m := ⟨_, rfl⟩
    have HLM := Lib.hid (HLL.out.trans hm)
    rw [hm] at hs
    clear hm HLL
    obtain ⟨Al, cl, rfl⟩ := own_slice (hs.get 0 rfl)
    have hlc : m ≤ cl := by
      rcases (hs.get 0 rfl).2 with ⟨h1, h2⟩ | ⟨g, c, cur, h1, _, _, h3, _⟩
      · omega
      · cases h1; exact h3
    go_wp2_with (first
      | (refine L_load1 rfl rfl hs 3 rfl rfl rfl Tryz.isAgg22 ?_; (try simp only [Act.put, List.setIfInBounds_toArray, List.set_cons_succ, List.set_cons_zero, List.getElem_toArray, List.getElem_cons_succ, List.getElem_cons_zero]))
      | (go_at_call 69; refine (clipS_any Al m cl hlc W).mono ?_; rintro e1 w10 ⟨rfl, hw10⟩; replace hw10 := hw10.symm; subst hw10))
    refine ⟨by simp, .inl ⟨_, _, rfl, run_takeDeferred hK, ?_⟩⟩
    refine ⟨_, results_tmp2 rfl _ _ _, _, rfl, ((own_rd (hs.get 0 rfl) HLM.out.symm).clip).putObj hK rfl _, ext_putObj hs.ext (Nat.le_trans hsz9 hD) _, fun j hj => ?_⟩
    rcases hs.own _ (List.mem_cons_self) j (show (Value.slice Al m cl).ownBlock = some j by cases Al <;> exact hj) with h | h
    · exact h.elim
    · exact h
  case hstop =>
    rintro D c pre W _ _ h _
    exact h.elim
end Go.Proofs.YtgmeahogdjhejaaGreatDoor

namespace Go.Proofs.YtgmeahogdjhejaaGreatDoor
set_option linter.unusedVariables false
set_option linter.unusedSimpArgs false
open Go.RowKit Go.Shelf

theorem bits_or_i64_nat (a b : Nat) (ha : a < 9223372036854775808) (hb : b < 9223372036854775808) : bits .or .i64 (a : Int) (b : Int) = ((a ||| b : Nat) : Int) := by
  have hx : a ||| b < 2 ^ 63 := Nat.or_lt_two_pow (by omega) (by omega)
  have h1 : (BitVec.ofInt 64 (a : Int)).toNat = a := by
    rw [BitVec.ofInt_natCast, BitVec.toNat_ofNat]; exact Nat.mod_eq_of_lt (by omega)
  have h2 : (BitVec.ofInt 64 (b : Int)).toNat = b := by
    rw [BitVec.ofInt_natCast, BitVec.toNat_ofNat]; exact Nat.mod_eq_of_lt (by omega)
  show IntKind.i64.wrap ((BitVec.ofInt 64 (a : Int) ||| BitVec.ofInt 64 (b : Int)).toNat : Int) = _
  rw [BitVec.toNat_or, h1, h2, IntKind.wrap_i64]
  omega
theorem or_byte (x c : Int) (hx : 0 ≤ x ∧ x < 16777216) (hc : 0 ≤ c ∧ c ≤ 255) : bits .or .i64 (x * 256) c = x * 256 + c := by
  obtain ⟨a, rfl⟩ := Int.eq_ofNat_of_zero_le hx.1
  obtain ⟨b, rfl⟩ := Int.eq_ofNat_of_zero_le hc.1
  have h := bits_or_i64_nat (a * 256) b (by omega) (by omega)
  have h2 := Nat.shiftLeft_add_eq_or_of_lt (i := 8) (b := b) (by omega) a
  rw [Nat.shiftLeft_eq] at h2
  have e : ((a : Int) * 256) = ((a * 256 : Nat) : Int) := by omega
  rw [e]
  rw [show (2 : Nat) ^ 8 = 256 from rfl] at h2
  rw [h, ← h2]
  omega
theorem numB_snoc (l : List Int) (x : Int) : numB (l ++ [x]) = numB l * 256 + x := by simp [numB]
theorem numB_lt : ∀ (n : Nat) (l : List Int), l.length = n → (∀ x ∈ l, 0 ≤ x ∧ x ≤ 255) → 0 ≤ numB l ∧ numB l < 256 ^ n
  | 0, l, h, _ => by
    have : l = [] := List.eq_nil_of_length_eq_zero h
    subst this
    simp [numB]
  | n + 1, l, h, hb => by
    have hne : l ≠ [] := by intro h0; rw [h0] at h; simp at h
    obtain ⟨m, x, rfl⟩ : ∃ m x, l = m ++ [x] := ⟨l.dropLast, l.getLast hne, (List.dropLast_concat_getLast hne).symm⟩
    have h1 := numB_lt n m (by simpa using h) (fun y hy => hb y (by simp [hy]))
    have h2 := hb x (by simp)
    rw [numB_snoc, Int.pow_succ]
    omega
theorem pow_le3 (k : Nat) (h : k ≤ 3) : (256 : Int) ^ k ≤ 16777216 := by
  have : k = 0 ∨ k = 1 ∨ k = 2 ∨ k = 3 := by omega
  rcases this with rfl | rfl | rfl | rfl <;> decide
def NbRel (l : List Int) (w : World) (vn vi : Value) (wr : World) : Prop := ∃ k : Nat, vi = .int .i64 (k : Int) ∧ vn = .int .i64 (numB (l.take k)) ∧ k ≤ l.length ∧ wr = w
set_option maxRecDepth 100000 in
set_option maxHeartbeats 1000000 in
theorem number_any (v : Value) (l : List Int) (w : World) (hr : RdS (encInt .u8) 1 w v l) (hb : ∀ x ∈ l, 0 ≤ x ∧ x ≤ 255) (hl : l.length ≤ 4) : Calls Tryz.prog 67 #[v] w fun e w' => e = .returned (.int .i64 (numB l)) ∧ w' = w := by
  obtain ⟨A, cap, rfl, _⟩ := hr.len
  have HR := Lib.hid (And.intro hr hb)
  clear hr hb
  go_enter Tryz.func67, Tryz.ntmps67
  go_wp2
  go_loopw [3, 8] (fun vn vi wr => NbRel l w vn vi wr) (fun _ vi _ => l.length - (intOf vi).toNat)
  case atStart => exact ⟨0, rfl, rfl, Nat.zero_le _, rfl⟩
  case round =>
    obtain ⟨k, rfl, rfl, hk, hwr⟩ := hrel
    replace hwr := hwr.symm
    subst hwr
    obtain ⟨y, hy⟩ : ∃ y, numB (l.take k) = y := ⟨_, rfl⟩
    rw [hy]
    by_cases hkn : k < l.length
    · have hki : (k : Int) < (l.length : Int) := by omega
      obtain ⟨bb, off, rfl, hcs⟩ := byte_cell HR.out.1 hkn
      have hck := hcs k hkn
      have hcb := HR.out.2 l[k] (List.getElem_mem hkn)
      have hyb := numB_lt k (l.take k) (by rw [List.length_take]; omega) (fun x hx => HR.out.2 x (List.mem_of_mem_take hx))
      have hp := pow_le3 k (by omega)
      rw [hy] at hyb
      obtain ⟨c, hc⟩ : ∃ c, l[k] = c := ⟨_, rfl⟩
      rw [hc] at hck hcb
      have hsn : numB (l.take (k + 1)) = y * 256 + c := by
        rw [List.take_add_one, List.getElem?_eq_getElem hkn, hc, ← hy, ← numB_snoc]
        rfl
      have HSN := Lib.hid hsn
      have hor := or_byte y c (by omega) hcb
      have hw1 : IntKind.i64.wrap (y * 256) = y * 256 := by rw [IntKind.wrap_i64]; omega
      have hw2 : IntKind.i64.wrap c = c := by rw [IntKind.wrap_i64]; omega
      clear hsn hc hcs hy hyb hp hcb
      go_wp2
      go_roundw
      case rel => exact ⟨k + 1, by go_num, by rw [HSN.out, ← hor], by omega, rfl⟩
      case measure => simp [intOf]; omega
    · obtain rfl : k = l.length := by omega
      have hq2 : ¬ ((l.length : Int) < (l.length : Int)) := by omega
      rw [List.take_length] at hy
      have HY := Lib.hid hy
      clear hy
      go_wp2
      go_ret
      exact ⟨by rw [HY.out]; rfl, rfl⟩
theorem str_inj {a b : List Int} (ha : ∀ x ∈ a, 0 ≤ x ∧ x ≤ 255) (hb : ∀ x ∈ b, 0 ≤ x ∧ x ≤ 255) (h : (strOfNums a).toList = (strOfNums b).toList) : a = b := by
  rw [ByteArray.toList_eq, ByteArray.toList_eq] at h
  have h1 : a.map (fun n => UInt8.ofNat n.toNat) = b.map (fun n => UInt8.ofNat n.toNat) := by simpa [strOfNums] using h
  apply List.ext_getElem
  · simpa using congrArg List.length h1
  · intro i hi hj
    have h2 : (a.map (fun n => UInt8.ofNat n.toNat))[i]'(by simpa using hi) = (b.map (fun n => UInt8.ofNat n.toNat))[i]'(by simpa using hj) := by simp only [h1]
    simp only [List.getElem_map] at h2
    have h3 := ha a[i] (List.getElem_mem hi)
    have h4 := hb b[i] (List.getElem_mem hj)
    have h5 := congrArg UInt8.toNat h2
    simp only [UInt8.toNat_ofNat'] at h5
    omega
theorem bytesEqual_any (v u : Value) (a b : List Int) (w : World) (hv : RdS (encInt .u8) 1 w v a) (hu : RdS (encInt .u8) 1 w u b) (ha : ∀ x ∈ a, 0 ≤ x ∧ x ≤ 255) (hb : ∀ x ∈ b, 0 ≤ x ∧ x ≤ 255) :
    Calls Tryz.prog 68 #[v, u] w fun e w' => e = .returned (.bool (decide (a = b))) ∧ w' = w := by
  have h1 := run_string (src := 22) (dst := 9) hv Tryz.underlying22 Tryz.underlying5 Tryz.underlying9
  have h2 := run_string (src := 22) (dst := 9) hu Tryz.underlying22 Tryz.underlying5 Tryz.underlying9
  have hd : ((strOfNums a).toList == (strOfNums b).toList) = decide (a = b) := by
    by_cases he : a = b
    · subst he; simp
    · have : (strOfNums a).toList ≠ (strOfNums b).toList := fun h => he (str_inj ha hb h)
      simp [he, this]
  rw [← hd]
  generalize strOfNums a = s1 at *
  generalize strOfNums b = s2 at *
  clear hd hv hu ha hb
  go_enter Tryz.func68, Tryz.ntmps68
  go_wp2
  go_ret
  exact ⟨rfl, rfl⟩
end Go.Proofs.YtgmeahogdjhejaaGreatDoor
