/- Words on worlds: what a call may change (Ext), assertions with their blocks (Asr), and a list of assertions that lie apart (SH). No program is named. -/
import Derived.WalkKit
import Derived.WalkLawsBesides
import Derived.WalkSpells
import Derived.KernelRfl
import Derived.Lib.Hide
import Derived.BigQuiet
import Derived.Deep.QuietTactic
import Derived.Deep.MidRow
import Derived.Deep.Draws
import Derived.OrdersHeld
import Derived.Shelf.GgSortFunc.RowK
namespace Go.Proofs.YtgmeahogdjhejaaGreatDoor
set_option linter.unusedVariables false
set_option linter.unusedSimpArgs false
open Go.RowKit
open Go.Sort (setMany size_setMany)

/-- From w to w' only blocks of M (and new ones) were written. -/
structure Ext (M : Nat → Prop) (w w' : World) : Prop where
  os : w'.os = w.os
  tape : w'.tape = w.tape
  output : w'.output = w.output
  size : w.heap.size ≤ w'.heap.size
  block : ∀ i, i < w.heap.size → ¬ M i → w'.heap[i]? = w.heap[i]?

abbrev Ext0 (w w' : World) : Prop := Ext (fun _ => False) w w'

theorem Ext.refl (M : Nat → Prop) (w : World) : Ext M w w := ⟨rfl, rfl, rfl, Nat.le_refl _, fun _ _ _ => rfl⟩
theorem Ext.trans {M N : Nat → Prop} {a b c : World} (h : Ext M a b) (k : Ext N b c) (hn : ∀ i, i < a.heap.size → N i → M i) : Ext M a c :=
  ⟨k.os.trans h.os, k.tape.trans h.tape, k.output.trans h.output, Nat.le_trans h.size k.size,
   fun i hi hm => (k.block i (Nat.lt_of_lt_of_le hi h.size) (fun e => hm (hn i hi e))).trans (h.block i hi hm)⟩
theorem Ext.trans0 {M : Nat → Prop} {a b c : World} (h : Ext M a b) (k : Ext0 b c) : Ext M a c := h.trans k (fun _ _ e => e.elim)
theorem Ext.trans' {M : Nat → Prop} {a b c : World} (h : Ext M a b) (k : Ext M b c) : Ext M a c := h.trans k (fun _ _ e => e)
theorem Ext.mono {M N : Nat → Prop} {a b : World} (h : Ext M a b) (hm : ∀ i, i < a.heap.size → M i → N i) : Ext N a b :=
  ⟨h.os, h.tape, h.output, h.size, fun i hi hn => h.block i hi (fun e => hn (hm i hi e))⟩
theorem Ext.alloc (M : Nat → Prop) (w : World) (o : Obj) : Ext M w (w.alloc o) := ⟨rfl, rfl, rfl, by simp, fun i hi _ => Below.heap_alloc w o i hi⟩
theorem Ext.drewN (M : Nat → Prop) (w : World) (n : Nat) : Ext M w (w.drewN n) := ⟨rfl, rfl, rfl, Nat.le_refl _, fun _ _ _ => rfl⟩
theorem Ext.drew (M : Nat → Prop) (w : World) : Ext M w w.drew := ⟨rfl, rfl, rfl, Nat.le_refl _, fun _ _ _ => rfl⟩
theorem Ext0.below {a b : World} (h : Ext0 a b) : Below a.heap.size a b := ⟨h.os, h.tape, h.output, h.size, fun i hi => h.block i hi (fun e => e)⟩
theorem Ext0.of_below {a b : World} (h : Below a.heap.size a b) : Ext0 a b := ⟨h.os, h.tape, h.output, h.size, fun i hi _ => h.block i hi⟩
theorem Ext.setCell (w : World) (a : Addr) (v : Value) : Ext (fun i => i = a.block) w (w.setCell a v) :=
  ⟨rfl, rfl, rfl, by simp, fun i _ hm => Below.heap_setCell w a v i hm⟩
theorem Ext.setRow (w : World) (g : Nat) (cs : Array Value) : Ext (fun i => i = g) w (w.setRow g cs) :=
  ⟨rfl, rfl, rfl, by simp, fun i _ hm => setRow_other w g i cs hm⟩
theorem Ext.block0 {a b : World} (h : Ext0 a b) {i : Nat} {o : Obj} (hb : a.heap[i]? = some o) : b.heap[i]? = some o :=
  (h.block i (Array.getElem?_eq_some_iff.1 hb).1 (fun e => e)).trans hb
theorem Ext.keep {M : Nat → Prop} {a b : World} (h : Ext M a b) {i : Nat} {o : Obj} (hb : a.heap[i]? = some o) (hm : ¬ M i) : b.heap[i]? = some o :=
  (h.block i (Array.getElem?_eq_some_iff.1 hb).1 hm).trans hb
theorem Ext.cell {M : Nat → Prop} {a b : World} (h : Ext M a b) {p : Addr} {v : Value} (hc : a.cell? p = some v) (hm : ¬ M p.block) : b.cell? p = some v :=
  (World.cell?_of_block (w := a) (h.block p.block (World.block_lt_of_cell? a p hc) hm)).trans hc
theorem Ext.of_grown {w w' : World} {row : Option Nat} (h : w.grownBy w' row) : Ext (fun i => some i = row) w w' := ⟨h.os, h.tape, h.output, h.size, fun i hi hm => h.block i hi hm⟩
theorem blk_lt' {w : World} {g : Nat} {o : Obj} (h : w.heap[g]? = some o) : g < w.heap.size := (Array.getElem?_eq_some_iff.1 h).1

/-- An assertion and the blocks that it speaks of. -/
structure Asr where
  fp : Nat → Prop
  says : World → Prop
  keep : ∀ w w', (∀ i, fp i → w'.heap[i]? = w.heap[i]?) → says w → says w'

/-- Block b holds o. -/
def pt (b : Nat) (o : Obj) : Asr := ⟨fun i => i = b, fun w => w.heap[b]? = some o, fun _ _ h hs => (h b rfl).trans hs⟩
@[simp] theorem pt_fp (b : Nat) (o : Obj) (i : Nat) : (pt b o).fp i = (i = b) := rfl
@[simp] theorem pt_says (b : Nat) (o : Obj) (w : World) : (pt b o).says w = (w.heap[b]? = some o) := rfl

/-- The world w, come of w0 by changes of blocks of M alone: it meets the assertions L, which lie apart, in blocks that may be written. -/
structure SH (M : Nat → Prop) (w0 w : World) (L : List Asr) : Prop where
  ext : Ext M w0 w
  says : ∀ A ∈ L, A.says w
  lt : ∀ A ∈ L, ∀ i, A.fp i → i < w.heap.size
  own : ∀ A ∈ L, ∀ i, A.fp i → M i ∨ w0.heap.size ≤ i
  apart : L.Pairwise (fun A A' => ∀ i, A.fp i → A'.fp i → False)

section
variable {M : Nat → Prop} {w0 w : World} {L : List Asr}
theorem SH.nil (M : Nat → Prop) (w : World) : SH M w w [] := ⟨Ext.refl _ _, by simp, by simp, by simp, .nil⟩
theorem SH.get (H : SH M w0 w L) (i : Nat) {A : Asr} (h : L[i]? = some A) : A.says w := H.says A (List.mem_of_getElem? h)
theorem SH.at_ (H : SH M w0 w L) (i : Nat) {b : Nat} {o : Obj} (h : L[i]? = some (pt b o)) : w.heap[b]? = some o := H.get i h
/-- What the changes leave alone. -/
theorem SH.calls (H : SH M w0 w L) {w' : World} (h : Ext0 w w') : SH M w0 w' L :=
  ⟨H.ext.trans0 h, fun A hA => A.keep w w' (fun i hi => h.block i (H.lt A hA i hi) (fun e => e)) (H.says A hA), fun A hA i hi => Nat.lt_of_lt_of_le (H.lt A hA i hi) h.size, H.own, H.apart⟩
theorem SH.drewN (H : SH M w0 w L) (n : Nat) : SH M w0 (w.drewN n) L := H.calls (Ext.drewN _ _ _)
theorem SH.drew (H : SH M w0 w L) : SH M w0 w.drew L := H.calls (Ext.drew _ _)
/-- An assertion more, on new blocks. -/
theorem SH.add (H : SH M w0 w L) {w' : World} (h : Ext0 w w') (A : Asr) (hs : A.says w') (hf : ∀ i, A.fp i → w.heap.size ≤ i ∧ i < w'.heap.size) : SH M w0 w' (A :: L) := by
  have K := H.calls h
  refine ⟨K.ext, ?_, ?_, ?_, ?_⟩
  · intro B hB; rcases List.mem_cons.1 hB with rfl | hB
    · exact hs
    · exact K.says B hB
  · intro B hB i hi; rcases List.mem_cons.1 hB with rfl | hB
    · exact (hf i hi).2
    · exact K.lt B hB i hi
  · intro B hB i hi; rcases List.mem_cons.1 hB with rfl | hB
    · exact .inr (Nat.le_trans H.ext.size (hf i hi).1)
    · exact K.own B hB i hi
  · exact List.pairwise_cons.2 ⟨fun B hB i hi hi' => by have := H.lt B hB i hi'; have := (hf i hi).1; omega, K.apart⟩
theorem SH.alloc (H : SH M w0 w L) (o : Obj) : SH M w0 (w.alloc o) (pt w.heap.size o :: L) :=
  H.add (Ext.alloc _ _ _) _ (heap_alloc_new w o) (fun i hi => by simp only [pt_fp] at hi; subst hi; simp)
theorem SH.after {N : Nat → Prop} {w1 : World} (H : SH M w1 w L) (h : Ext N w0 w1) (hn : ∀ i, N i → M i) : SH M w0 w L :=
  ⟨(h.mono (fun i _ hi => hn i hi)).trans' H.ext, H.says, H.lt, fun A hA i hi => (H.own A hA i hi).imp id (Nat.le_trans h.size), H.apart⟩
theorem SH.drop (H : SH M w0 w L) {L' : List Asr} (h : L'.Sublist L) : SH M w0 w L' :=
  ⟨H.ext, fun A hA => H.says A (h.mem hA), fun A hA => H.lt A (h.mem hA), fun A hA => H.own A (h.mem hA), H.apart.sublist h⟩
theorem SH.perm (H : SH M w0 w L) {L' : List Asr} (h : L'.Perm L) : SH M w0 w L' :=
  ⟨H.ext, fun A hA => H.says A (h.subset hA), fun A hA => H.lt A (h.subset hA), fun A hA => H.own A (h.subset hA), (h.pairwise_iff (fun h i a b => h i b a)).2 H.apart⟩
/-- The assertion in front turned. -/
theorem SH.head {A : Asr} (H : SH M w0 w (A :: L)) {w' : World} {A' : Asr} (h : Ext A.fp w w') (hs : A'.says w') (hf : ∀ i, A'.fp i → (A.fp i ∨ w.heap.size ≤ i) ∧ i < w'.heap.size) : SH M w0 w' (A' :: L) := by
  have ap := List.pairwise_cons.1 H.apart
  have kp : ∀ B ∈ L, ∀ i, B.fp i → w'.heap[i]? = w.heap[i]? := fun B hB i hi => h.block i (H.lt B (List.mem_cons_of_mem _ hB) i hi) (fun e => ap.1 B hB i e hi)
  refine ⟨H.ext.trans h (fun i hi hA => ?_), ?_, ?_, ?_, ?_⟩
  · rcases H.own A List.mem_cons_self i hA with h1 | h1
    · exact h1
    · omega
  · intro B hB; rcases List.mem_cons.1 hB with rfl | hB
    · exact hs
    · exact B.keep w w' (kp B hB) (H.says B (List.mem_cons_of_mem _ hB))
  · intro B hB i hi; rcases List.mem_cons.1 hB with rfl | hB
    · exact (hf i hi).2
    · exact Nat.lt_of_lt_of_le (H.lt B (List.mem_cons_of_mem _ hB) i hi) h.size
  · intro B hB i hi; rcases List.mem_cons.1 hB with rfl | hB
    · rcases (hf i hi).1 with h1 | h1
      · exact H.own A List.mem_cons_self i h1
      · exact .inr (Nat.le_trans H.ext.size h1)
    · exact H.own B (List.mem_cons_of_mem _ hB) i hi
  · refine List.pairwise_cons.2 ⟨fun B hB i hi hi' => ?_, ap.2⟩
    rcases (hf i hi).1 with h1 | h1
    · exact ap.1 B hB i h1 hi'
    · have := H.lt B (List.mem_cons_of_mem _ hB) i hi'; omega
theorem perm_set {α : Type} : ∀ (L : List α) (i : Nat) (A A' : α), L[i]? = some A → (L.set i A').Perm (A' :: L.eraseIdx i) ∧ L.Perm (A :: L.eraseIdx i)
  | [], _, _, _, h => by simp at h
  | B :: L, 0, A, A', h => by simp at h; subst h; exact ⟨.refl _, .refl _⟩
  | B :: L, i + 1, A, A', h => by
    have := perm_set L i A A' (by simpa using h)
    simp only [List.set_cons_succ, List.eraseIdx_cons_succ]
    exact ⟨(this.1.cons B).trans (.swap ..), (this.2.cons B).trans (.swap ..)⟩
/-- The i-th assertion turned. -/
theorem SH.upd (H : SH M w0 w L) (i : Nat) {A A' : Asr} (hi : L[i]? = some A) {w' : World} (h : Ext A.fp w w') (hs : A'.says w') (hf : ∀ i, A'.fp i → (A.fp i ∨ w.heap.size ≤ i) ∧ i < w'.heap.size) : SH M w0 w' (L.set i A') := by
  have p := perm_set L i A A' hi
  exact ((H.perm p.2.symm).head h hs hf).perm p.1
theorem SH.setRow (H : SH M w0 w L) (i : Nat) {b : Nat} {old cs : Array Value} {t : TypeId} {fr : Nat × Nat} (hi : L[i]? = some (pt b (.cells old t fr))) : SH M w0 (w.setRow b cs) (L.set i (pt b (.cells cs t fr))) :=
  H.upd i hi (Ext.setRow w b cs) (setRow_heap w b old cs t fr (H.at_ i hi)) (fun j hj => by
    simp only [pt_fp] at hj; subst hj; exact ⟨.inl rfl, by simp; exact blk_lt' (H.at_ i hi)⟩)
theorem SH.setCell (H : SH M w0 w L) (i : Nat) {b off : Nat} {cs : Array Value} {t : TypeId} (v : Value) (hi : L[i]? = some (pt b (.cells cs t (0, 0)))) :
    SH M w0 (w.setCell ⟨b, off, none⟩ v) (L.set i (pt b (.cells (cs.setIfInBounds off v) t (0, 0)))) :=
  H.upd i hi (Ext.setCell w ⟨b, off, none⟩ v) (heap_setCell_same w b off cs t v (H.at_ i hi)) (fun j hj => by
    simp only [pt_fp] at hj; subst hj; exact ⟨.inl rfl, by simp; exact blk_lt' (H.at_ i hi)⟩)
end

/-! ### A run of cells stored -/
theorem get_setMany (vs : List Value) (s : Nat) (F : Array Value) (t : Nat) (h : s + vs.length ≤ F.size) : (setMany F s vs)[t]? = if s ≤ t ∧ t < s + vs.length then vs[t - s]? else F[t]? := by
  by_cases ht : t < F.size
  · have hg := Go.Sort.get_setMany vs s F t ht
    rw [Array.getElem?_eq_getElem (by simpa using ht), ← getElem!_pos (setMany F s vs) t (by simpa using ht), hg]
    split
    · rename_i hc
      rw [List.getElem?_eq_getElem (by omega), getElem!_pos vs (t - s) (by omega)]
    · rw [getElem!_pos F t ht, Array.getElem?_eq_getElem ht]
  · rw [Array.getElem?_eq_none (by simpa using ht), if_neg (by omega), Array.getElem?_eq_none (by omega)]
theorem setCells_heap (b : Nat) (T : TypeId) : ∀ (vs : List Value) (s : Nat) (w : World) (cs : Array Value), w.heap[b]? = some (.cells cs T (0, 0)) → (w.setCells b s vs).heap[b]? = some (.cells (setMany cs s vs) T (0, 0))
  | [], _, _, _, h => h
  | v :: r, s, w, cs, h => setCells_heap b T r (s + 1) _ _ (heap_setCell_same w b s cs T v h)
theorem Ext.setCells (b : Nat) : ∀ (vs : List Value) (s : Nat) (w : World), Ext (fun i => i = b) w (w.setCells b s vs)
  | [], _, w => Ext.refl _ w
  | v :: r, s, w => (Ext.setCell w ⟨b, s, none⟩ v).trans' (Ext.setCells b r (s + 1) _)
theorem SH.setMid {M : Nat → Prop} {w0 w : World} {L : List Asr} (H : SH M w0 w L) (i : Nat) {b : Nat} {cs : Array Value} {T : TypeId} (hi : L[i]? = some (pt b (.cells cs T (0, 0)))) (s : Nat) (vs : List Value) :
    SH M w0 (w.setCells b s vs) (L.set i (pt b (.cells (setMany cs s vs) T (0, 0)))) :=
  H.upd i hi (Ext.setCells b vs s w) (setCells_heap b T vs s w cs (H.at_ i hi)) (fun j hj => by
    simp only [pt_fp] at hj; subst hj
    exact ⟨.inl rfl, Nat.lt_of_lt_of_le (blk_lt' (H.at_ i hi)) (Ext.setCells j vs s w).size⟩)
theorem SH.there {M : Nat → Prop} {w0 w : World} {L : List Asr} (H : SH M w0 w L) (i : Nat) {b : Nat} {cs : Array Value} {T : TypeId} (hi : L[i]? = some (pt b (.cells cs T (0, 0)))) (s n : Nat) (h : s + n ≤ cs.size) : w.there b s n := fun j hj => by
  have hb := H.at_ i hi
  rw [cell_of_row w b _ cs T _ hb]
  exact ⟨by simp [show s + j < cs.size by omega], frozen_of_row w b _ cs T hb⟩

/-! ### What an operation comes to: run equations -/
section
variable {P : Program} {a : Act} {w w0 : World} {o : Oper} {M : Nat → Prop} {L : List Asr}
theorem R_load1 {ty : TypeId} {x : Operand} (ho : o.op = .load ty x) (H : SH M w0 w L) (i : Nat) {b off : Nat} {cs : Array Value} {T : TypeId} {fr : Nat × Nat} {v : Value}
    (hx : a.eval x = .pointer (some ⟨b, off, none⟩)) (hA : L[i]? = some (pt b (.cells cs T fr))) (hv : cs[off]? = some v) (hag : ∀ w, (isAgg ty).run P w = .ok false w) : (execOp a.eval o).run P w = .ok (.value v) w := by
  have hc : w.cell? ⟨b, off, none⟩ = some v := by rw [cell_of_row w b off cs T fr (H.at_ i hA)]; exact hv
  unfold execOp
  simp only [ho, hx, Instr.loadAt, Instr.sureAddr, loadVar, Sem.run_bind, Sem.run_pure, Result.andThen_ok, hag]
  simp [hc]
theorem R_load1r {ty : TypeId} {x : Operand} (ho : o.op = .load ty x) (H : SH M w0 w L) {b off : Nat} {cs : Array Value} {T : TypeId} {fr : Nat × Nat} {v : Value}
    (hx : a.eval x = .pointer (some ⟨b, off, none⟩)) (hA : w0.heap[b]? = some (.cells cs T fr)) (hM : ¬ M b) (hv : cs[off]? = some v) (hag : ∀ w, (isAgg ty).run P w = .ok false w) : (execOp a.eval o).run P w = .ok (.value v) w := by
  have hc : w.cell? ⟨b, off, none⟩ = some v := by rw [cell_of_row w b off cs T fr (H.ext.keep hA hM)]; exact hv
  unfold execOp
  simp only [ho, hx, Instr.loadAt, Instr.sureAddr, loadVar, Sem.run_bind, Sem.run_pure, Result.andThen_ok, hag]
  simp [hc]
/-- Cells in the midst of a block. -/
theorem R_loadmid {ty : TypeId} {x : Operand} (ho : o.op = .load ty x) {b off : Nat} {cs : Array Value} {T : TypeId} {fr : Nat × Nat} {d : TypeDesc}
    (hx : a.eval x = .pointer (some ⟨b, off, none⟩)) (hA : w.heap[b]? = some (.cells cs T fr)) (hu : P.underlying ty = some d) (hd : d.isRow = true) {n : Nat} (hi : (P.info? ty).map (·.size) = some n) (vs : List Value) (hn : vs.length = n)
    (hv : ∀ j, j < n → cs[off + j]? = vs[j]?) : (execOp a.eval o).run P w = .ok (.value (.agg vs.toArray)) w := by
  unfold execOp
  simp only [ho, hx, Instr.loadAt, Instr.sureAddr, Sem.run_bind, Sem.run_pure, Result.andThen_ok, run_loadVar_mid w b off ty vs d (fun j u hu' => by
    rw [cell_of_row w b _ cs T fr hA, hv j (by have := (List.getElem?_eq_some_iff.1 hu').1; omega)]; exact hu') hu hd (by rw [hi, hn])]
theorem R_loadrow {ty : TypeId} {x : Operand} (ho : o.op = .load ty x) (H : SH M w0 w L) (i : Nat) {b : Nat} {cs : Array Value} {T : TypeId} {fr : Nat × Nat} {d : TypeDesc}
    (hx : a.eval x = .pointer (some ⟨b, 0, none⟩)) (hA : L[i]? = some (pt b (.cells cs T fr))) (hu : P.underlying ty = some d) (hd : d.isRow = true) {n : Nat} (hi : (P.info? ty).map (·.size) = some n) (hn : cs.size = n) : (execOp a.eval o).run P w = .ok (.value (.agg cs)) w := by
  have := R_loadmid (P := P) (a := a) (w := w) ho hx (H.at_ i hA) hu hd hi cs.toList (by simpa using hn) (fun j hj => by simp)
  simpa using this
theorem R_storemid {ty : TypeId} {x y : Operand} (ho : o.op = .store ty x y) (H : SH M w0 w L) (i : Nat) {b off : Nat} {cs vs : Array Value} {T : TypeId} (hx : a.eval x = .pointer (some ⟨b, off, none⟩)) (hy : a.eval y = .agg vs) (hA : L[i]? = some (pt b (.cells cs T (0, 0)))) {n : Nat} (hi : (P.info? ty).map (·.size) = some n) (hn : vs.size = n) (hs : off + n ≤ cs.size)
    (h1 : vs.all (·.oneCell') = true) : (execOp a.eval o).run P w = .ok .skip (w.setCells b off vs.toList) := by
  unfold execOp
  simp only [ho, hx, hy, Sem.run_bind, run_storeAt_mid w b off ty vs (H.there i hA off vs.size (by omega)) (by rw [hi, hn]) h1, Result.andThen_ok, Sem.run_pure]
theorem R_lookup {t : TypeId} {x y : Operand} {ok : Bool} (ho : o.op = .lookup t x y ok) {m : Value} {kv v : Value} (hx : a.eval x = m) (hy : a.eval y = kv)
    (hr : (Instr.lookup t m kv ok).run P w = .ok v w) : (execOp a.eval o).run P w = .ok (.value v) w := by
  unfold execOp
  simp only [ho, hx, hy, Sem.run_bind, Sem.run_pure, Result.andThen_ok, hr]
end

section
variable {P : Program} {a : Act} {w w' : World} {o : Oper}
theorem R_build {t : TypeId} {parts : Array (Nat × Operand)} (ho : o.op = .build t parts) {vs : List (Nat × Value)} (hp : parts.toList.map (fun p => (p.1, a.eval p.2)) = vs) {v : Value} (hr : (Instr.build t vs.toArray).run P w = .ok v w) : (execOp a.eval o).run P w = .ok (.value v) w := by
  have hp' : (parts.map fun p => (p.1, a.eval p.2)) = vs.toArray := by apply Array.ext'; rw [Array.toList_map]; exact hp
  unfold execOp
  simp only [ho, Sem.run_bind, Sem.run_pure, Result.andThen_ok, hp', hr]
theorem R_mapUpdate {t : TypeId} {x y z : Operand} (ho : o.op = .mapUpdate t x y z) {m kv v : Value} (hx : a.eval x = m) (hy : a.eval y = kv) (hz : a.eval z = v) (hr : (Instr.mapUpdate t m kv v).run P w = .ok () w') : (execOp a.eval o).run P w = .ok .skip w' := by
  unfold execOp
  simp only [ho, hx, hy, hz, Sem.run_bind, Sem.run_pure, Result.andThen_ok, hr]
theorem R_store {t : TypeId} {x y : Operand} (ho : o.op = .store t x y) {p v : Value} (hx : a.eval x = p) (hy : a.eval y = v) (hr : (Instr.storeAt t p v).run P w = .ok () w') : (execOp a.eval o).run P w = .ok .skip w' := by
  unfold execOp
  simp only [ho, hx, hy, Sem.run_bind, Sem.run_pure, Result.andThen_ok, hr]
theorem wp_of_skip {K : Act → World → Prop} {Q : Exit → Act → World → Prop} (hr : (execOp a.eval o).run P w = .ok .skip w') (k : K (a.put o.dst undef) w') : o.wp P a w K Q := by
  unfold Oper.wp; rw [hr]; exact k
theorem wp_of_value {K : Act → World → Prop} {Q : Exit → Act → World → Prop} {v : Value} (hr : (execOp a.eval o).run P w = .ok (.value v) w') (k : K (a.put o.dst v) w') : o.wp P a w K Q := by
  unfold Oper.wp; rw [hr]; exact k
theorem wpList_of_skip {ops : Array Oper} {rest : List Oper} {Q : Exit → Act → World → Prop} (hgd : o.guard = none) (hr : (execOp a.eval o).run P w = .ok .skip w') (k : wpList P ops Q rest (a.put o.dst undef) w') : wpList P ops Q (o :: rest) a w :=
  wpList_plain hgd fun _ hK => wp_of_skip hr (hK _ _ k)
theorem wpList_of_value {ops : Array Oper} {rest : List Oper} {Q : Exit → Act → World → Prop} {v : Value} (hgd : o.guard = none) (hr : (execOp a.eval o).run P w = .ok (.value v) w') (k : wpList P ops Q rest (a.put o.dst v) w') : wpList P ops Q (o :: rest) a w :=
  wpList_plain hgd fun _ hK => wp_of_value hr (hK _ _ k)
end

/-! ### In a region that draws its order -/
section
variable {P : Program} {md : Region.Mode} {ops : Array Oper} {Q : Exit → Act → World → Prop} {S : World → Prop} {a : Act} {w : World} {listed : Array Bool} {fuel : Nat}
theorem D_start {id : Nat} {M : Nat → Prop} {w0 : World} {L : List Asr} (H : SH M w0 w L) (hm : P.follows .mixedOrders = true)
    (h : SH M w0 w.drew L → wpAnyH P .any ops Q (fun W => SH M w0 W L) ops.size (Array.replicate ops.size false) a w.drew) : (Code.region id ops true).wp P Q a w :=
  wp_region_held hm (h H.drew)
/-- A quiet operation taken now; the frame written out. -/
theorem D_take (i : Nat) {oi : Oper} {d : Tmp} {tmps : List Value} {df : List Deferred} (hi : ops[i]? = some oi)
    (hs : Region.noSelect ops = true) (hf : Region.free md ops listed i = true) (hr : (Region.ready md ops listed).contains i = true) {v : Value}
    (hQ : ∀ c a w, Q (.panic c) (a.put oi.dst v) w → Q (.panic c) a w) (hd : oi.dst = some d) (hw : Region.wanted oi (yielded ops tmps.toArray) = true) (hy : ∀ W, S W → (execOp (Act.eval ⟨tmps.toArray, df⟩) oi).run P W = .ok (.value v) W) (hS : S w)
    (h : wpAnyH P md ops Q S fuel (listed.setIfInBounds i true) ⟨(tmps.set d v).toArray, df⟩ w) : wpAnyH P md ops Q S (fuel + 1) listed ⟨tmps.toArray, df⟩ w := by
  refine wpAnyH_take hi hs hf hr hQ (Or.inl ⟨hw, hy⟩) hS ?_
  rw [hd]
  simpa [Act.put] using h
theorem D_skip (i : Nat) {oi : Oper} {d : Tmp} {tmps : List Value} {df : List Deferred} (hi : ops[i]? = some oi)
    (hs : Region.noSelect ops = true) (hf : Region.free md ops listed i = true) (hr : (Region.ready md ops listed).contains i = true)
    (hQ : ∀ c a w, Q (.panic c) (a.put oi.dst undef) w → Q (.panic c) a w) (hd : oi.dst = some d) (hw : Region.wanted oi (yielded ops tmps.toArray) = false) (hS : S w)
    (h : wpAnyH P md ops Q S fuel (listed.setIfInBounds i true) ⟨(tmps.set d undef).toArray, df⟩ w) : wpAnyH P md ops Q S (fuel + 1) listed ⟨tmps.toArray, df⟩ w := by
  refine wpAnyH_take hi hs hf hr hQ (Or.inr ⟨hw, rfl⟩) hS ?_
  rw [hd]
  simpa [Act.put] using h
/-- The one operation that may come up now. -/
theorem D_one (i : Nat) {o : Oper} (hi : ops[i]? = some o) (hr : Region.ready md ops listed = [i]) (hw : Region.wanted o (yielded ops a.tmps) = true)
    (h : o.wp P a w (fun a' w' => S w' ∧ wpAnyH P md ops Q S fuel (listed.setIfInBounds i true) a' w') Q) : wpAnyH P md ops Q S (fuel + 1) listed a w := by
  refine wpAnyH_all hr (by simp) fun j hj => ?_
  obtain rfl := List.mem_singleton.1 hj
  unfold wpOp
  rw [hi]
  simp only [hw, if_true]
  exact .inl h
end

/-! ### Laws on operations, over SH -/
section
variable {P : Program} {ops : Array Oper} {Q : Exit → Act → World → Prop} {a : Act} {w w0 : World} {rest : List Oper} {o : Oper} {M : Nat → Prop} {L : List Asr}

theorem L_load1 (hgd : o.guard = none) {ty : TypeId} {x : Operand} (ho : o.op = .load ty x) (H : SH M w0 w L) (i : Nat) {b off : Nat} {cs : Array Value} {T : TypeId} {fr : Nat × Nat} {v : Value}
    (hx : a.eval x = .pointer (some ⟨b, off, none⟩)) (hA : L[i]? = some (pt b (.cells cs T fr))) (hv : cs[off]? = some v) (hag : ∀ w, (isAgg ty).run P w = .ok false w)
    (k : wpList P ops Q rest (a.put o.dst v) w) : wpList P ops Q (o :: rest) a w := by
  refine wpList_plain hgd fun K hK => ?_
  have hc : w.cell? ⟨b, off, none⟩ = some v := by rw [cell_of_row w b off cs T fr (H.at_ i hA)]; exact hv
  unfold Oper.wp execOp
  simp only [ho, hx, Instr.loadAt, Instr.sureAddr, loadVar, Sem.run_bind, Sem.run_pure, Result.andThen_ok, hag]
  simp [hc]
  exact hK _ _ k

/-- A cell of a block that is none of M's. -/
theorem L_load1r (hgd : o.guard = none) {ty : TypeId} {x : Operand} (ho : o.op = .load ty x) (H : SH M w0 w L) {b off : Nat} {cs : Array Value} {T : TypeId} {fr : Nat × Nat} {v : Value}
    (hx : a.eval x = .pointer (some ⟨b, off, none⟩)) (hA : w0.heap[b]? = some (.cells cs T fr)) (hM : ¬ M b) (hv : cs[off]? = some v) (hag : ∀ w, (isAgg ty).run P w = .ok false w)
    (k : wpList P ops Q rest (a.put o.dst v) w) : wpList P ops Q (o :: rest) a w := by
  refine wpList_plain hgd fun K hK => ?_
  have hc : w.cell? ⟨b, off, none⟩ = some v := by rw [cell_of_row w b off cs T fr (H.ext.keep hA hM)]; exact hv
  unfold Oper.wp execOp
  simp only [ho, hx, Instr.loadAt, Instr.sureAddr, loadVar, Sem.run_bind, Sem.run_pure, Result.andThen_ok, hag]
  simp [hc]
  exact hK _ _ k

/-- Cells in the midst of a block that is none of M's. -/
theorem L_loadmidr (hgd : o.guard = none) {ty : TypeId} {x : Operand} (ho : o.op = .load ty x) (H : SH M w0 w L) {b off : Nat} {cs : Array Value} {T : TypeId} {fr : Nat × Nat} {d : TypeDesc}
    (hx : a.eval x = .pointer (some ⟨b, off, none⟩)) (hA : w0.heap[b]? = some (.cells cs T fr)) (hM : ¬ M b) (hu : P.underlying ty = some d) (hd : d.isRow = true) {n : Nat} (hi : (P.info? ty).map (·.size) = some n) (vs : List Value) (hn : vs.length = n)
    (hv : ∀ j, j < n → cs[off + j]? = vs[j]?) (k : wpList P ops Q rest (a.put o.dst (.agg vs.toArray)) w) : wpList P ops Q (o :: rest) a w :=
  wpList_load_mid hgd ty x ho b off hx vs d (fun j u hu' => by
    rw [cell_of_row w b _ cs T fr (H.ext.keep hA hM), hv j (by have := (List.getElem?_eq_some_iff.1 hu').1; omega)]; exact hu') hu hd (by rw [hi, hn]) k

theorem L_lookup (hgd : o.guard = none) {t : TypeId} {x y : Operand} {ok : Bool} (ho : o.op = .lookup t x y ok) {m : Value} {kv v : Value} (hx : a.eval x = m) (hy : a.eval y = kv)
    (hr : (Instr.lookup t m kv ok).run P w = .ok v w) (k : wpList P ops Q rest (a.put o.dst v) w) : wpList P ops Q (o :: rest) a w := by
  refine wpList_plain hgd fun K hK => ?_
  unfold Oper.wp execOp
  simp only [ho, hx, hy, Sem.run_bind, Sem.run_pure, Result.andThen_ok, hr]
  exact hK _ _ k

theorem L_loadrow (hgd : o.guard = none) {ty : TypeId} {x : Operand} (ho : o.op = .load ty x) (H : SH M w0 w L) (i : Nat) {b : Nat} {cs : Array Value} {T : TypeId} {fr : Nat × Nat} {d : TypeDesc}
    (hx : a.eval x = .pointer (some ⟨b, 0, none⟩)) (hA : L[i]? = some (pt b (.cells cs T fr))) (hu : P.underlying ty = some d) (hd : d.isRow = true) {n : Nat} (hi : (P.info? ty).map (·.size) = some n) (hn : cs.size = n)
    (k : wpList P ops Q rest (a.put o.dst (.agg cs)) w) : wpList P ops Q (o :: rest) a w :=
  wpList_load_mid hgd ty x ho b 0 hx cs.toList d (fun j u hu' => by rw [cell_of_row w b _ cs T fr (H.at_ i hA)]; simpa using hu') hu hd (by rw [hi, ← hn]; simp) (by simpa using k)

theorem L_store1 (hgd : o.guard = none) {ty : TypeId} {x y : Operand} (ho : o.op = .store ty x y) (H : SH M w0 w L) (i : Nat) {b off : Nat} {cs : Array Value} {T : TypeId} {v : Value}
    (hx : a.eval x = .pointer (some ⟨b, off, none⟩)) (hA : L[i]? = some (pt b (.cells cs T (0, 0)))) (hy : a.eval y = v) (h1 : v.cells = #[v]) (hc1 : v.oneCell' = true) (hv : off < cs.size) (hsz : ∀ w, (sizeOf ty).run P w = .ok 1 w)
    (k : ∀ w', SH M w0 w' (L.set i (pt b (.cells (cs.setIfInBounds off v) T (0, 0)))) → wpList P ops Q rest (a.put o.dst undef) w') : wpList P ops Q (o :: rest) a w := by
  refine wpList_plain hgd fun K hK => ?_
  have hb := H.at_ i hA
  have hc : w.cell? ⟨b, off, none⟩ = some cs[off] := by rw [cell_of_row w b off cs T _ hb]; simp [hv]
  have hf : w.frozen? ⟨b, off, none⟩ = false := frozen_of_row w b off cs T hb
  have hr := run_storeCells_cells (P := P) b off [v] 0 w (fun j hj => (by simp at hj; simp [hj, hc])) (fun j hj => (by simp at hj; simpa [hj] using hf)) (fun u hu => (by simp at hu; simpa [hu] using hc1))
  unfold Oper.wp execOp
  simp only [ho, hx, hy, Instr.storeAt, Instr.sureAddr, storeVar, Sem.run_bind, Sem.run_pure, Result.andThen_ok, h1, hsz]
  simp only [Nat.add_zero] at hr
  simp [hr, World.setCells]
  exact hK _ _ (k _ (H.setCell i v hA))

theorem L_storerow (hgd : o.guard = none) {ty : TypeId} {x y : Operand} (ho : o.op = .store ty x y) (H : SH M w0 w L) (i : Nat) {b : Nat} {old cs : Array Value} {T : TypeId}
    (hx : a.eval x = .pointer (some ⟨b, 0, none⟩)) (hA : L[i]? = some (pt b (.cells old T (0, 0)))) (hy : a.eval y = .agg cs) {n : Nat} (hi : (P.info? ty).map (·.size) = some n) (hn : cs.size = n) (hold : old.size = n) (h1 : cs.all (·.oneCell') = true)
    (k : ∀ w', SH M w0 w' (L.set i (pt b (.cells cs T (0, 0)))) → wpList P ops Q rest (a.put o.dst undef) w') : wpList P ops Q (o :: rest) a w :=
  wpList_store_row hgd ty x y ho b cs hx hy T old (H.at_ i hA) (hi.trans (by rw [hn])) (hold.trans hn.symm) h1 (k _ (H.setRow i hA))

theorem L_alloc (hgd : o.guard = none) {ty : TypeId} (ho : o.op = .alloc ty) (H : SH M w0 w L) {z : Value} (hz : ∀ w, (zeroValue ty).run P w = .ok z w)
    (k : ∀ b w', SH M w0 w' (pt b (.cells z.cells ty) :: L) → wpList P ops Q rest (a.put o.dst (.pointer (some ⟨b, 0, none⟩))) w') : wpList P ops Q (o :: rest) a w := by
  refine wpList_plain hgd fun K hK => ?_
  unfold Oper.wp execOp
  simp only [ho, Instr.alloc, newVar, newRow, Sem.run_bind, Sem.run_pure, Result.andThen_ok, hz]
  simp
  exact hK _ _ (k _ _ (H.alloc _))

theorem L_box (hgd : o.guard = none) {ty : TypeId} {x : Operand} (ho : o.op = .box ty x) (H : SH M w0 w L) {v : Value} {cs : Array Value} (hx : a.eval x = v) (hc : v.cells = cs)
    (k : ∀ b w', SH M w0 w' (pt b (.cells cs ty) :: L) → wpList P ops Q rest (a.put o.dst (.pointer (some ⟨b, 0, none⟩))) w') : wpList P ops Q (o :: rest) a w := by
  refine wpList_plain hgd fun K hK => ?_
  unfold Oper.wp execOp
  simp only [ho, hx, Instr.box, newVar, newRow, Sem.run_bind, Sem.run_pure, Result.andThen_ok, hc]
  simp
  exact hK _ _ (k _ _ (H.alloc _))

/-- A slice's literal. -/
theorem L_lit (hgd : o.guard = none) {t e : TypeId} {n : Nat} {parts : Array (Nat × Operand)} (ho : o.op = .buildSlice t n parts) (H : SH M w0 w L) {cs : Array Value}
    (hr : ∀ w, (Instr.buildSlice t n (parts.map fun (i, x) => (i, a.eval x))).run P w = .ok (.slice (some ⟨w.heap.size, 0, none⟩) n n) (w.alloc (.cells cs e)))
    (k : ∀ b w', SH M w0 w' (pt b (.cells cs e) :: L) → wpList P ops Q rest (a.put o.dst (.slice (some ⟨b, 0, none⟩) n n)) w') : wpList P ops Q (o :: rest) a w := by
  refine wpList_plain hgd fun K hK => ?_
  unfold Oper.wp execOp
  simp only [ho, Sem.run_bind, Sem.run_pure, Result.andThen_ok, hr]
  exact hK _ _ (k _ _ (H.alloc _))

/-- A result that lies in a block of the call's own. -/
theorem L_retrow {fn : Func} {p : Tmp} {ty : TypeId} (h : fn.results = #[.cell p ty]) {R : Ending → World → Prop} (H : SH M w0 w L) (i : Nat) {g : Nat} {cs : Array Value} {T : TypeId} {fr : Nat × Nat} {d : TypeDesc}
    (hp : a.tmps.getD p undef = .pointer (some ⟨g, 0, none⟩)) (hA : L[i]? = some (pt g (.cells cs T fr))) (hu : P.underlying ty = some d) (hd : (match d with | .struct _ | .array _ _ => true | _ => false) = true) {n : Nat} (hi : (P.info? ty).map (·.size) = some n) (hn : cs.size = n)
    (hdf : a.defers = []) (hR : R (.returned (.agg cs)) w) : bodyPost P fn R .ret a w :=
  bodyPost_ret (results_cell_row h a.tmps w g T cs fr d hp (H.at_ i hA) hu (by cases d <;> simp_all) (by rw [hi, hn])) hdf hR
end
end Go.Proofs.YtgmeahogdjhejaaGreatDoor
