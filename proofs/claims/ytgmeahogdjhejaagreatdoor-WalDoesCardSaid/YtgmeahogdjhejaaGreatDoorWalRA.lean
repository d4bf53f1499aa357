/- The document's disk: what lies in memory; Since, Read, goes. -/
import Derived.Test.YtgmeahogdjhejaaGreatDoorWalX
import Derived.Test.YtgmeahogdjhejaaGreatDoorWalU
import Derived.Test.YtgmeahogdjhejaaGreatDoorSlice
import Derived.Laws.OwnMore
namespace Go.Proofs.YtgmeahogdjhejaaGreatDoor.Rf
set_option linter.unusedVariables false
set_option linter.unusedSimpArgs false
open Go.RowKit

/-- Bytes that nobody writes any more. -/
def bytesA (bv : List (Value × List Int)) : Asr where
  fp := fun i => ∃ p ∈ bv, ∃ off n c, p.1 = .slice (some ⟨i, off, none⟩) n c
  says := fun w => ∀ p ∈ bv, RdS (encInt .u8) 1 w p.1 p.2
  keep := fun w w' h hs p hp => by
    obtain ⟨A, cap, he, hc, h1 | ⟨b, off, cs, T, fr, rfl, hb, hcs⟩⟩ := hs p hp
    · exact ⟨A, cap, he, hc, .inl h1⟩
    · exact ⟨_, cap, he, hc, .inr ⟨b, off, cs, T, fr, rfl, (h b ⟨p, hp, off, _, _, he⟩).trans hb, hcs⟩⟩

structure RM where
  v1 : Value
  v2 : Value
  v3 : Value
  v4 : Value
  v5 : Value
  gs : List Value
  ss : List Value
  age : List Int
  old : List Int
  wet : List Bool
  f : Int
  m : Int
  bv : List (Value × List Int)
def RM.cells (r : RM) : Array Value := #[r.v1, r.v2, r.v3, r.v4, r.v5, .int .i64 r.f, .int .i64 r.m]
def RM.L (b : Nat) (r : RM) : List Asr :=
  [pt b (.cells r.cells 48 (0, 0)), ownA 22 1 r.v1 r.gs.length r.gs, ownA 22 1 r.v2 r.ss.length r.ss, ownA 3 1 r.v3 r.age.length (r.age.map (Value.int .i64)), ownA 3 1 r.v4 r.old.length (r.old.map (Value.int .i64)),
   ownA 4 1 r.v5 r.wet.length (r.wet.map Value.bool), bytesA r.bv]
structure RM.Ok (r : RM) (d : DS) : Prop where
  gl : r.gs.length = d.sure.length
  sl : r.ss.length = d.sure.length
  g : ∀ i (h : i < r.gs.length), (r.gs[i], (d.is i).bytes) ∈ r.bv
  s : ∀ i (h : i < r.ss.length), (r.ss[i], (d.sure.getD i St.zero).bytes) ∈ r.bv
  age : r.age = (List.range d.sure.length).map fun (i : Nat) => (d.is i).wr
  old : r.old = d.sure.map (·.wr)
  wet : r.wet = (List.range d.sure.length).map fun (i : Nat) => (getE d.pend i).isSome
  f : (0 ≤ d.fuse → r.f = d.fuse) ∧ (d.fuse < 0 → r.f < 0) ∧ -9223372036854775808 ≤ r.f
  m : r.m = d.writes

def grown (S : Nat → Prop) (w w' : World) : Nat → Prop := fun i => S i ∨ (w.heap.size ≤ i ∧ i < w'.heap.size)
/-- The document's disk at b is as d, all of it in blocks of S. -/
def RefA (b : Nat) (S : Nat → Prop) (d : DS) : Asr where
  fp := S
  says := fun w => ∃ r : RM, r.Ok d ∧ (∀ A ∈ r.L b, A.says w) ∧ (∀ A ∈ r.L b, ∀ i, A.fp i → S i) ∧ (r.L b).Pairwise (fun (A A' : Asr) => ∀ i : Nat, A.fp i → A'.fp i → False) ∧ ∀ i : Nat, S i → ∃ o, w.heap[i]? = some o
  keep := fun w w' h ⟨r, h1, h2, h3, h4, h5⟩ => ⟨r, h1, fun A hA => A.keep w w' (fun i hi => h i (h3 A hA i hi)) (h2 A hA), h3, h4, fun i hi => (h5 i hi).elim fun o ho => ⟨o, (h i hi).trans ho⟩⟩
theorem RefA.opens {b : Nat} {S : Nat → Prop} {d : DS} {w : World} (h : (RefA b S d).says w) : ∃ r : RM, r.Ok d ∧ SH S w w (r.L b) := by
  obtain ⟨r, h1, h2, h3, h4, h5⟩ := h
  exact ⟨r, h1, Ext.refl _ _, h2, fun A hA i hi => (h5 i (h3 A hA i hi)).elim fun o ho => blk_lt' ho, fun A hA i hi => .inl (h3 A hA i hi), h4⟩
theorem RefA.closes {b : Nat} {S : Nat → Prop} {d' : DS} {w w' : World} {r : RM} (hS : ∀ i, S i → i < w.heap.size) (H : SH S w w' (r.L b)) (hr : r.Ok d') : (RefA b (grown S w w') d').says w' :=
  ⟨r, hr, H.says, fun A hA i hi => (H.own A hA i hi).elim .inl fun h => .inr ⟨h, H.lt A hA i hi⟩, H.apart, fun i hi => ⟨_, Array.getElem?_eq_getElem (hi.elim (fun h => Nat.lt_of_lt_of_le (hS i h) H.ext.size) (fun h => h.2))⟩⟩
theorem RefA.lt {b : Nat} {S : Nat → Prop} {d : DS} {w : World} (h : (RefA b S d).says w) : ∀ i, S i → i < w.heap.size := by
  obtain ⟨r, h1, h2, h3, h4, h5⟩ := h
  exact fun i hi => (h5 i hi).elim fun o ho => blk_lt' ho

theorem RM.cellsAt {w : World} {b : Nat} {r : RM} {M : Nat → Prop} {w0 : World} {L : List Asr} (H : SH M w0 w (r.L b ++ L)) :
    w.cell? ⟨b, 0, none⟩ = some r.v1 ∧ w.cell? ⟨b, 1, none⟩ = some r.v2 ∧ w.cell? ⟨b, 2, none⟩ = some r.v3 ∧ w.cell? ⟨b, 3, none⟩ = some r.v4 ∧ w.cell? ⟨b, 4, none⟩ = some r.v5 ∧ w.cell? ⟨b, 5, none⟩ = some (.int .i64 r.f) ∧ w.cell? ⟨b, 6, none⟩ = some (.int .i64 r.m) := by
  have hb := H.at_ 0 (b := b) (o := .cells r.cells 48 (0, 0)) rfl
  exact ⟨cell_of_row w b 0 _ _ _ hb, cell_of_row w b 1 _ _ _ hb, cell_of_row w b 2 _ _ _ hb, cell_of_row w b 3 _ _ _ hb, cell_of_row w b 4 _ _ _ hb, cell_of_row w b 5 _ _ _ hb, cell_of_row w b 6 _ _ _ hb⟩
/-- The row of one's own that a slice value is. -/
theorem row_shape {w : World} {T : TypeId} {v : Value} {xs : List Value} (h : w.ownsRow 0 T 1 v xs.length xs) : (xs = [] ∧ ∃ A c, v = .slice A 0 c) ∨ (∃ g c, v = .slice (some ⟨g, 0, none⟩) xs.length c ∧ ∀ j (hj : j < xs.length), w.cell? ⟨g, j, none⟩ = some xs[j] ∧ w.frozen? ⟨g, j, none⟩ = false) := by
  obtain ⟨_, ⟨rfl, h0⟩ | ⟨g, cap, cur, rfl, _, hg, hle, _, hs, ht⟩⟩ := h
  · exact .inl ⟨List.eq_nil_of_length_eq_zero h0, _, _, rfl⟩
  · refine .inr ⟨g, cap, rfl, fun j hj => ⟨?_, frozen_of_row w g _ cur T hg⟩⟩
    rw [cell_of_row w g j cur T _ hg]
    have h1 : (cur.toList.take (xs.length * 1))[j]? = xs[j]? := by rw [ht]
    rw [List.getElem?_take, if_pos (by omega), Array.getElem?_toList] at h1
    rw [h1, List.getElem?_eq_getElem hj]
theorem row_len {w : World} {T : TypeId} {v : Value} {xs : List Value} (h : w.ownsRow 0 T 1 v xs.length xs) : ∃ A c, v = .slice A xs.length c := by
  rcases row_shape h with ⟨h0, A, c, rfl⟩ | ⟨g, c, rfl, _⟩
  · exact ⟨A, c, by rw [h0]; rfl⟩
  · exact ⟨_, c, rfl⟩
theorem R_store1 {P : Program} {a : Act} {w : World} {o : Oper} {ty : TypeId} {x y : Operand} (ho : o.op = .store ty x y) {g j : Nat} {v u : Value} (hx : a.eval x = .pointer (some ⟨g, j, none⟩)) (hy : a.eval y = v) (h1 : v.cells = #[v]) (hc1 : v.oneCell' = true) (hc : w.cell? ⟨g, j, none⟩ = some u) (hf : w.frozen? ⟨g, j, none⟩ = false)
    (hsz : ∀ w, (sizeOf ty).run P w = .ok 1 w) : (execOp a.eval o).run P w = .ok .skip (w.setCell ⟨g, j, none⟩ v) := by
  have hr := run_storeCells_cells (P := P) g j [v] 0 w (fun k hk => (by simp at hk; simp [hk, hc])) (fun k hk => (by simp at hk; simpa [hk] using hf)) (fun u hu => (by simp at hu; simpa [hu] using hc1))
  unfold execOp
  simp only [ho, hx, hy, Instr.storeAt, Instr.sureAddr, storeVar, Sem.run_bind, Sem.run_pure, Result.andThen_ok, h1, hsz]
  simp only [Nat.add_zero] at hr
  simp [hr, World.setCells]

theorem SH.merge {M : Nat → Prop} {w0 w : World} {A B : Asr} {L1 : List Asr} (H : SH M w0 w (A :: (L1 ++ [B]))) (C : Asr) (hs : C.says w) (hf : ∀ i, C.fp i → A.fp i ∨ B.fp i) : SH M w0 w (L1 ++ [C]) := by
  have hA : A ∈ A :: (L1 ++ [B]) := List.mem_cons_self
  have hB : B ∈ A :: (L1 ++ [B]) := by simp
  have h1 := List.pairwise_cons.1 H.apart
  have h2 := List.pairwise_append.1 h1.2
  refine ⟨H.ext, ?_, ?_, ?_, ?_⟩
  · intro X hX
    rcases List.mem_append.1 hX with hX | hX
    · exact H.says X (by simp [hX])
    · rw [List.mem_singleton.1 hX]; exact hs
  · intro X hX i hi
    rcases List.mem_append.1 hX with hX | hX
    · exact H.lt X (by simp [hX]) i hi
    · rw [List.mem_singleton.1 hX] at hi
      rcases hf i hi with h | h
      · exact H.lt A hA i h
      · exact H.lt B hB i h
  · intro X hX i hi
    rcases List.mem_append.1 hX with hX | hX
    · exact H.own X (by simp [hX]) i hi
    · rw [List.mem_singleton.1 hX] at hi
      rcases hf i hi with h | h
      · exact H.own A hA i h
      · exact H.own B hB i h
  · refine List.pairwise_append.2 ⟨h2.1, List.pairwise_singleton _ _, fun X hX Y hY i hi hi' => ?_⟩
    rw [List.mem_singleton.1 hY] at hi'
    rcases hf i hi' with h | h
    · exact h1.1 X (by simp [hX]) i h hi
    · exact h2.2.2 X hX B (by simp) i hi h

theorem infoU8 : (Tryz.prog.info? 5).map (fun i => (i.zero, i.size, i.bytes)) = some (some (.int .u8 0), 1, 1) := by kernel_rfl

end Go.Proofs.YtgmeahogdjhejaaGreatDoor.Rf
