/- Catalogues: a map of spans that the call makes. -/
import Derived.Test.YtmfcccflohpjiaaGreatDoorCatC
import Derived.Maps.RangeRun
import Derived.Maps.AppendAt
import Derived.MapKept
namespace Go.Proofs.YtmfcccflohpjiaaGreatDoor
set_option linter.unusedVariables false
set_option linter.unusedSimpArgs false
open Go.RowKit
open Go.MapKept (IsKey findNow_spec)

abbrev SpF := Int → List Sp
abbrev sK : TypeId := 3
/-- Block b is a map from ints to rows of spans, as F says; the rows lie behind b. -/
structure MapSp (b : Nat) (es : Array MapEntry) (clock : Nat) (F : SpF) (w : World) : Prop where
  here : w.heap[b]? = some (.map es clock)
  keys : ∀ x ∈ es.toList, ∃ k : Int, x.key = .int .i64 k ∧ F k ≠ [] ∧ w.ownsRow (b + 1) 73 2 x.val (F k).length (cellsOf Sp.cells (F k))
  all : ∀ k, F k ≠ [] → ∃ x ∈ es.toList, x.key = .int .i64 k
  once : ∀ (i j : Nat) (x y : MapEntry), i ≠ j → es.toList[i]? = some x → es.toList[j]? = some y → x.key ≠ y.key ∧ x.val.ownBlock ≠ y.val.ownBlock
  born : ∀ x ∈ es.toList, x.born < clock
  bornN : (es.toList.map (·.born)).Nodup
theorem own_some {w : World} {b : Nat} {T : TypeId} {k : Nat} {v : Value} {n : Nat} {xs : List Value} (h : w.ownsRow b T k v n xs) (h0 : 0 < n) : ∃ g, v.ownBlock = some g ∧ b ≤ g ∧ g < w.heap.size := by
  rcases h.2 with ⟨_, rfl⟩ | ⟨g, cap, cur, rfl, hb, hg, _⟩
  · omega
  · exact ⟨g, rfl, hb, (Array.getElem?_eq_some_iff.1 hg).1⟩
theorem MapSp.keep {b : Nat} {es : Array MapEntry} {clock : Nat} {F : SpF} {w w' : World} {row : Option Nat} (h : MapSp b es clock F w) (hg : w.grownBy w' row) (hb : some b ≠ row) (hr : ∀ j, row = some j → j < b) : MapSp b es clock F w' := by
  have hlt : b < w.heap.size := (Array.getElem?_eq_some_iff.1 h.here).1
  refine ⟨(hg.block b hlt hb).trans h.here, fun x hx => ?_, h.all, h.once, h.born, h.bornN⟩
  obtain ⟨k, h1, h2, h3⟩ := h.keys x hx
  refine ⟨k, h1, h2, h3.kept hg (.inr fun e => ?_)⟩
  obtain ⟨g, hgb, hbg, _⟩ := own_some h3 (List.length_pos_iff.2 h2)
  rw [hgb] at e
  have := hr g e.symm
  omega
def updF (F : SpF) (k : Int) (s : Sp) : SpF := fun j => if j = k then F k ++ [s] else F j
theorem MapSp.isKey {b : Nat} {es : Array MapEntry} {clock : Nat} {F : SpF} {w : World} (h : MapSp b es clock F w) : ∀ x ∈ es.toList, IsKey (.int .i64) x.key := fun x hx => by
  obtain ⟨k, h1, _⟩ := h.keys x hx
  rw [h1]
  rfl
theorem cells_snoc (l : List Sp) (s : Sp) : cellsOf Sp.cells (l ++ [s]) = cellsOf Sp.cells l ++ s.cells := by simp [cellsOf]
/-- The way back: a row that has grown by one is stored again. -/
def BackSp (P : Program) (T : TypeId) (b : Nat) (es : Array MapEntry) (F : SpF) (k : Int) (v : Value) (w : World) : Prop :=
  ∀ (w1 : World) (v' : Value) (s : Sp), w.grownBy w1 v.ownBlock → w1.ownsRow (b + 1) 73 2 v' ((F k).length + 1) (cellsOf Sp.cells (F k) ++ s.cells) → (v'.ownBlock = v.ownBlock ∨ ∃ g, v'.ownBlock = some g ∧ w.heap.size ≤ g) →
    ∃ w2, (Instr.mapUpdate T (.map (some b)) (.int .i64 k) v').run P w1 = .ok () w2 ∧ (∃ es' clock', MapSp b es' clock' (updF F k s) w2 ∧ ∀ x ∈ es'.toList, x.val.ownBlock = v'.ownBlock ∨ ∃ y ∈ es.toList, x.val.ownBlock = y.val.ownBlock) ∧ w1.grownBy w2 (some b)
theorem grown_set {w : World} {b : Nat} {o : Obj} (o' : Obj) (_ : w.heap[b]? = some o) : w.grownBy { w with heap := w.heap.setIfInBounds b o' } (some b) :=
  ⟨rfl, rfl, rfl, by simp, fun k hk hne => by
    have hne' : b ≠ k := fun e => hne (by rw [e])
    simp [hne']⟩
theorem MapSp.look {P : Program} {T kt et : TypeId} {b : Nat} {es : Array MapEntry} {clock : Nat} {F : SpF} {w0 : World} (h0 : MapSp b es clock F w0) (k : Int) (ht : P.underlying T = some (.map kt et)) (hk : P.underlying kt = some (.int .i64)) (hz : ∀ w, (zeroValue et).run P w = .ok (.slice none 0 0) w) :
    ∃ v, (∀ g, v.ownBlock = some g → ∃ x ∈ es.toList, x.val.ownBlock = some g) ∧ ∀ w, MapSp b es clock F w → (Instr.lookup T (.map (some b)) (.int .i64 k) false).run P w = .ok v w ∧ w.ownsRow (b + 1) 73 2 v (F k).length (cellsOf Sp.cells (F k)) ∧ BackSp P T b es F k v w := by
  have isk : IsKey (.int .i64) (.int .i64 k) := rfl
  rcases findNow_spec isk es.toList 0 h0.isKey with ⟨hf, hnone⟩ | ⟨j, e, hf, hj, he⟩
  · have hFk : F k = [] := by
      apply Classical.byContradiction
      intro hc
      obtain ⟨x, hx, hxk⟩ := h0.all k hc
      exact hnone x hx hxk
    refine ⟨.slice none 0 0, by simp [Value.ownBlock], fun w h => ?_⟩
    have hlt : b < w.heap.size := (Array.getElem?_eq_some_iff.1 h.here).1
    refine ⟨?_, ?_, ?_⟩
    · simp [Instr.lookup, run_underlying ht, MapKept.run_getObj_map h.here, MapKept.run_checkKey hk isk, MapKept.run_findKey hk hf, hz w, Result.andThen]
    · rw [hFk]
      exact World.ownsRow_nil _ _ _ _
    · intro w1 v' s hg hown hloc
      have hb1 : w1.heap[b]? = some (.map es clock) := (hg.block b hlt (by simp [Value.ownBlock])).trans h.here
      obtain ⟨g, hgv, hbg, hgl⟩ := own_some hown (by omega)
      have hgn : w.heap.size ≤ g := by
        rcases hloc with e | ⟨g', e, hg'⟩
        · rw [hgv] at e; simp [Value.ownBlock] at e
        · rw [hgv] at e; cases e; exact hg'
      have h1 : MapSp b es clock F w1 := h.keep hg (by simp [Value.ownBlock]) (by simp [Value.ownBlock])
      refine ⟨_, by simp [Instr.mapUpdate, run_underlying ht, MapKept.run_getObj_map hb1, MapKept.run_checkKey hk isk, MapKept.run_findKey hk hf, MapKept.run_setObj_map _ hb1, Result.andThen]; rfl, ⟨es.push { key := .int .i64 k, val := v', born := clock }, clock + 1, ?_, fun x hx => by
        simp only [Array.toList_push, List.mem_append, List.mem_singleton] at hx
        rcases hx with hx | rfl
        · exact .inr ⟨x, hx, rfl⟩
        · exact .inl rfl⟩, grown_set _ hb1⟩
      have hgs := grown_set (.map (es.push { key := .int .i64 k, val := v', born := clock }) (clock + 1)) hb1
      refine ⟨(MapKept.heap_set hb1).1, ?_, ?_, ?_, ?_, ?_⟩
      · intro x hx
        simp only [Array.toList_push, List.mem_append, List.mem_singleton] at hx
        rcases hx with hx | rfl
        · obtain ⟨q, q1, q2, q3⟩ := h1.keys x hx
          have hqk : q ≠ k := fun e => hnone x hx (by rw [q1, e])
          refine ⟨q, q1, by simp [updF, hqk, q2], ?_⟩
          have : updF F k s q = F q := by simp [updF, hqk]
          rw [this]
          obtain ⟨g', e1, e2, _⟩ := own_some q3 (List.length_pos_iff.2 q2)
          exact q3.kept hgs (.inr fun e => by rw [e1] at e; cases e; omega)
        · refine ⟨k, rfl, by simp [updF], ?_⟩
          have : updF F k s k = F k ++ [s] := by simp [updF]
          rw [this, cells_snoc, List.length_append]
          exact hown.kept hgs (.inr fun e => by rw [hgv] at e; cases e; omega)
      · intro q hq
        by_cases hqk : q = k
        · exact ⟨{ key := .int .i64 k, val := v', born := clock }, by simp, by rw [hqk]⟩
        · simp only [updF, hqk, if_false] at hq
          obtain ⟨x, hx, hxk⟩ := h.all q hq
          exact ⟨x, by simp [Array.mem_toList_iff.1 hx], hxk⟩
      · have hx : ∀ x ∈ es.toList, x.key ≠ .int .i64 k ∧ x.val.ownBlock ≠ v'.ownBlock := fun x hx => by
          refine ⟨hnone x hx, fun e => ?_⟩
          obtain ⟨q, q1, q2, q3⟩ := h.keys x hx
          obtain ⟨g', e1, e2, e3⟩ := own_some q3 (List.length_pos_iff.2 q2)
          rw [e1, hgv] at e
          cases e
          omega
        intro i j x y hij hxi hyj
        simp only [Array.toList_push] at hxi hyj
        rw [List.getElem?_append] at hxi hyj
        split at hxi <;> split at hyj
        · exact h.once i j x y hij hxi hyj
        · rename_i hjl
          have hy : y = { key := .int .i64 k, val := v', born := clock } := by
            rcases hq : j - es.toList.length with _ | n <;> rw [hq] at hyj <;> simp at hyj
            exact hyj.symm
          subst hy
          exact hx x (List.mem_of_getElem? hxi)
        · have hy : x = { key := .int .i64 k, val := v', born := clock } := by
            rcases hq : i - es.toList.length with _ | n <;> rw [hq] at hxi <;> simp at hxi
            exact hxi.symm
          subst hy
          have := hx y (List.mem_of_getElem? hyj)
          exact ⟨fun e => this.1 e.symm, fun e => this.2 e.symm⟩
        · rename_i h1 h2
          exfalso
          have := (List.getElem?_eq_some_iff.1 hxi).1
          have := (List.getElem?_eq_some_iff.1 hyj).1
          simp at *
          omega
      · intro x hx
        simp only [Array.toList_push, List.mem_append, List.mem_singleton] at hx
        rcases hx with hx | rfl
        · have := h.born x hx
          omega
        · exact Nat.lt_succ_self _
      · simp only [Array.toList_push, List.map_append, List.map_cons, List.map_nil]
        rw [List.nodup_append]
        refine ⟨h.bornN, by simp, ?_⟩
        intro a ha c hc e
        simp at hc
        obtain ⟨x, hx, rfl⟩ := List.mem_map.1 ha
        have := h.born x hx
        omega
  · have hje : es[j]? = some e := by simpa using hj
    have hem : e ∈ es.toList := List.mem_of_getElem? hj
    refine ⟨e.val, fun g hg => ⟨e, hem, hg⟩, fun w h => ?_⟩
    have hlt : b < w.heap.size := (Array.getElem?_eq_some_iff.1 h.here).1
    obtain ⟨q, q1, q2, q3⟩ := h.keys e hem
    obtain rfl : q = k := by rw [q1] at he; cases he; rfl
    obtain ⟨ge, ge1, ge2, ge3⟩ := own_some q3 (List.length_pos_iff.2 q2)
    refine ⟨?_, q3, ?_⟩
    · simp [Instr.lookup, run_underlying ht, MapKept.run_getObj_map h.here, MapKept.run_checkKey hk isk, MapKept.run_findKey hk hf, Result.andThen]
    · intro w1 v' s hg hown hloc
      have hb1 : w1.heap[b]? = some (.map es clock) := (hg.block b hlt (by rw [ge1]; intro e; cases e; omega)).trans h.here
      obtain ⟨g, hgv, hbg, hgl⟩ := own_some hown (by omega)
      have hm : ∀ i x, (es.modify j (fun e => { e with key := .int .i64 q, val := v' })).toList[i]? = some x → (i = j ∧ x = { e with key := .int .i64 q, val := v' }) ∨ (i ≠ j ∧ es.toList[i]? = some x) := by
        intro i x hx
        simp only [Array.toList_modify] at hx
        rw [List.getElem?_modify] at hx
        by_cases hij : j = i
        · subst hij
          simp only [hj, if_true, Option.map_some, Option.some.injEq] at hx
          exact .inl ⟨rfl, Option.some.inj hx.symm⟩
        · simp only [hij, if_false, id, Option.map_id] at hx
          refine .inr ⟨fun e => hij e.symm, by simpa using hx⟩
      refine ⟨_, by simp [Instr.mapUpdate, run_underlying ht, MapKept.run_getObj_map hb1, MapKept.run_checkKey hk isk, MapKept.run_findKey hk hf, hje, q1, MapKept.run_keyThatStays isk, MapKept.run_setObj_map _ hb1, Result.andThen]; rfl, ⟨es.modify j (fun e => { e with key := .int .i64 q, val := v' }), clock, ?_, fun x hx => by
        obtain ⟨i, hi⟩ := List.mem_iff_getElem?.1 hx
        rcases hm i x hi with ⟨_, rfl⟩ | ⟨_, hxi⟩
        · exact .inl rfl
        · exact .inr ⟨x, List.mem_of_getElem? hxi, rfl⟩⟩, grown_set _ hb1⟩
      have hgs := grown_set (.map (es.modify j (fun e => { e with key := .int .i64 q, val := v' })) clock) hb1
      have hoth : ∀ i x, i ≠ j → es.toList[i]? = some x → x.key ≠ .int .i64 q ∧ x.val.ownBlock ≠ v'.ownBlock := by
        intro i x hij hx
        have := h.once i j x e hij hx hj
        refine ⟨by rw [q1] at this; exact this.1, ?_⟩
        rcases hloc with e1 | ⟨g', e1, hg'⟩
        · rw [e1]; exact this.2
        · rw [e1]
          obtain ⟨p, p1, p2, p3⟩ := h.keys x (List.mem_of_getElem? hx)
          obtain ⟨g'', g1, g2, g3⟩ := own_some p3 (List.length_pos_iff.2 p2)
          rw [g1]
          intro e; cases e; omega
      refine ⟨(MapKept.heap_set hb1).1, ?_, ?_, ?_, ?_, ?_⟩
      · intro x hx
        obtain ⟨i, hi⟩ := List.mem_iff_getElem?.1 hx
        rcases hm i x hi with ⟨_, rfl⟩ | ⟨hij, hxi⟩
        · refine ⟨q, rfl, by simp [updF], ?_⟩
          have : updF F q s q = F q ++ [s] := by simp [updF]
          rw [this, cells_snoc, List.length_append]
          exact hown.kept hgs (.inr fun e => by rw [hgv] at e; cases e; omega)
        · obtain ⟨p, p1, p2, p3⟩ := h.keys x (List.mem_of_getElem? hxi)
          have hne := hoth i x hij hxi
          have hpq : p ≠ q := fun e => hne.1 (by rw [p1, e])
          have hu : updF F q s p = F p := by simp [updF, hpq]
          refine ⟨p, p1, by rw [hu]; exact p2, ?_⟩
          rw [hu]
          obtain ⟨g', e1, e2, _⟩ := own_some p3 (List.length_pos_iff.2 p2)
          exact (p3.kept hg (.inr (h.once i j x e hij hxi hj).2)).kept hgs (.inr fun e => by rw [e1] at e; cases e; omega)
      · intro p hp
        by_cases hpq : p = q
        · subst hpq
          exact ⟨_, List.mem_of_getElem? (i := j) (by rw [Array.toList_modify, List.getElem?_modify]; simp [hj]; rfl), rfl⟩
        · simp only [updF, hpq, if_false] at hp
          obtain ⟨x, hx, hxk⟩ := h.all p hp
          obtain ⟨i, hi⟩ := List.mem_iff_getElem?.1 hx
          have hij : j ≠ i := fun e => by
            subst e
            rw [hj] at hi
            cases hi
            rw [q1] at hxk
            cases hxk
            exact hpq rfl
          exact ⟨x, List.mem_of_getElem? (i := i) (by rw [Array.toList_modify, List.getElem?_modify]; simp [hij, hi]), hxk⟩
      · intro i i' x y hii hx hy
        rcases hm i x hx with ⟨rfl, rfl⟩ | ⟨hij, hxi⟩ <;> rcases hm i' y hy with ⟨rfl, rfl⟩ | ⟨hij', hyi⟩
        · exact absurd rfl hii
        · have := hoth i' y hij' hyi
          exact ⟨fun e => this.1 e.symm, fun e => this.2 e.symm⟩
        · exact hoth i x hij hxi
        · exact h.once i i' x y hii hxi hyi
      · intro x hx
        obtain ⟨i, hi⟩ := List.mem_iff_getElem?.1 hx
        rcases hm i x hi with ⟨_, rfl⟩ | ⟨hij, hxi⟩
        · exact h.born e hem
        · exact h.born x (List.mem_of_getElem? hxi)
      · have : (es.modify j (fun e => { e with key := .int .i64 q, val := v' })).toList.map (·.born) = es.toList.map (·.born) := by
          apply List.ext_getElem?
          intro i
          simp only [List.getElem?_map, Array.toList_modify, List.getElem?_modify]
          by_cases hij : j = i
          · subst hij
            simp [hj]
          · simp [hij]
        rw [this]
        exact h.bornN
/-- The map as an assertion. -/
def mapA (b : Nat) (es : Array MapEntry) (clock : Nat) (F : SpF) : Asr where
  fp := fun i => i = b ∨ ∃ x ∈ es.toList, x.val.ownBlock = some i
  says := fun w => MapSp b es clock F w
  keep := fun w w' h hs => by
    refine ⟨(h b (.inl rfl)).trans hs.here, fun x hx => ?_, hs.all, hs.once, hs.born, hs.bornN⟩
    obtain ⟨k, h1, h2, h3⟩ := hs.keys x hx
    refine ⟨k, h1, h2, h3.1, ?_⟩
    rcases h3.2 with hn | ⟨g, cap, cur, he, hb, hg, r⟩
    · exact .inl hn
    · exact .inr ⟨g, cap, cur, he, hb, (h g (.inr ⟨x, hx, by rw [he]; rfl⟩)).trans hg, r⟩
theorem MapSp.empty {b : Nat} {w : World} (h : w.heap[b]? = some (.map #[] 0)) : MapSp b #[] 0 (fun _ => []) w :=
  ⟨h, by simp, by simp, by simp, by simp, by simp⟩
theorem SH.toMap {M : Nat → Prop} {w0 w : World} {L : List Asr} (H : SH M w0 w L) (i : Nat) {b : Nat} (hi : L[i]? = some (pt b (.map #[] 0))) : SH M w0 w (L.set i (mapA b #[] 0 (fun _ => []))) :=
  H.upd i hi (Ext.refl _ _) (MapSp.empty (H.at_ i hi)) (fun j hj => by
    have hj' : j = b := by simpa [mapA] using hj
    subst hj'
    exact ⟨.inl rfl, (Array.getElem?_eq_some_iff.1 (H.at_ i hi)).1⟩)
theorem SH.stored {M : Nat → Prop} {w0 w w1 w2 : World} {L : List Asr} {b : Nat} {es es' : Array MapEntry} {clock clock' : Nat} {F F' : SpF} {v v' : Value} (H : SH M w0 w L) (i : Nat) (hi : L[i]? = some (mapA b es clock F)) (hv : ∀ g, v.ownBlock = some g → ∃ x ∈ es.toList, x.val.ownBlock = some g)
    (hg : w.grownBy w1 v.ownBlock) (hloc : v'.ownBlock = v.ownBlock ∨ ∃ g, v'.ownBlock = some g ∧ w.heap.size ≤ g) (hs : MapSp b es' clock' F' w2) (hin : ∀ x ∈ es'.toList, x.val.ownBlock = v'.ownBlock ∨ ∃ y ∈ es.toList, x.val.ownBlock = y.val.ownBlock) (hg2 : w1.grownBy w2 (some b)) :
    SH M w0 w2 (L.set i (mapA b es' clock' F')) := by
  have he : Ext (mapA b es clock F).fp w w2 := by
    refine ((Ext.of_grown hg).mono (fun j _ hj => ?_)).trans' ((Ext.of_grown hg2).mono (fun j _ hj => ?_))
    · exact .inr (hv j hj.symm)
    · exact .inl (by cases hj; rfl)
  refine H.upd i hi he hs (fun j hj => ?_)
  rcases hj with rfl | ⟨x, hx, hxj⟩
  · exact ⟨.inl (.inl rfl), (Array.getElem?_eq_some_iff.1 hs.here).1⟩
  · refine ⟨?_, ?_⟩
    · rcases hin x hx with e | ⟨y, hy, e⟩
      · rw [hxj] at e
        rcases hloc with e1 | ⟨g, e1, hgs⟩
        · rw [e1] at e
          exact .inl (.inr (hv j e.symm))
        · rw [e1] at e
          cases e
          exact .inr hgs
      · rw [hxj] at e
        exact .inl (.inr ⟨y, hy, e.symm⟩)
    · obtain ⟨k, k1, k2, k3⟩ := hs.keys x hx
      exact (k3.lt j hxj).2
end Go.Proofs.YtmfcccflohpjiaaGreatDoor
