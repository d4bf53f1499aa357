/- Maps: what a block of a map reads as; look-up, store, clear, length; going through its entries in whatever order. No program is named. -/
import Derived.Test.YtgmeahogdjhejaaGreatDoorBase
import Derived.Laws.IdiomRangeMap
namespace Go.Proofs.YtgmeahogdjhejaaGreatDoor
set_option linter.unusedVariables false
set_option linter.unusedSimpArgs false
open Go.RowKit

section
variable {K V : Type}
theorem keys_set {es : List (K × V)} {i : Nat} {k : K} {u v : V} (h : es[i]? = some (k, u)) : (es.set i (k, v)).map (·.1) = es.map (·.1) := by
  induction es generalizing i with
  | nil => simp at h
  | cons p es ih =>
    cases i with
    | zero => simp at h; subst h; simp
    | succ i => simp only [List.set_cons_succ, List.map_cons]; rw [ih (by simpa using h)]

/-- The entries of a block of a map, as pairs. -/
structure MapRel (kenc : K → Value) (venc : V → Value) (ents : Array MapEntry) (clock : Nat) (es : List (K × V)) : Prop where
  kv : ents.toList.map (fun e => (e.key, e.val)) = es.map (fun p => (kenc p.1, venc p.2))
  born : (ents.toList.map (·.born)).Pairwise (· < ·)
  clock : ∀ e ∈ ents.toList, e.born < clock
  keys : (es.map (·.1)).Nodup

variable {kenc : K → Value} {venc : V → Value} {ents : Array MapEntry} {clock : Nat} {es : List (K × V)}

theorem MapRel.empty (kenc : K → Value) (venc : V → Value) (clock : Nat) : MapRel kenc venc #[] clock [] := ⟨by simp, by simp, by simp, by simp⟩
theorem MapRel.size (h : MapRel kenc venc ents clock es) : ents.size = es.length := by
  have := congrArg List.length h.kv; simpa using this
theorem MapRel.get (h : MapRel kenc venc ents clock es) {i : Nat} {k : K} {v : V} (hi : es[i]? = some (k, v)) : ∃ b, ents[i]? = some ⟨kenc k, venc v, b⟩ := by
  have hk := congrArg (fun l => l[i]?) h.kv
  simp only [List.getElem?_map, hi, Option.map_some] at hk
  cases he : ents.toList[i]? with
  | none => simp [he] at hk
  | some e =>
    rw [he] at hk
    simp at hk
    obtain ⟨a, b, c⟩ := e
    simp at hk
    exact ⟨c, by rw [← Array.getElem?_toList, he, hk.1, hk.2]⟩

end

section
variable {K V : Type} [DecidableEq K]

/-- The place and the value of a key. -/
def findE : List (K × V) → K → Nat → Option (Nat × V)
  | [], _, _ => none
  | p :: es, k, i => if k = p.1 then some (i, p.2) else findE es k (i + 1)
def getE (es : List (K × V)) (k : K) : Option V := (findE es k 0).map (·.2)
/-- An entry stored. -/
def putE (es : List (K × V)) (k : K) (v : V) : List (K × V) :=
  match findE es k 0 with
  | some (i, _) => es.set i (k, v)
  | none => es ++ [(k, v)]

theorem findE_shift (es : List (K × V)) (k : K) : ∀ i j, findE es k (i + j) = (findE es k i).map (fun p => (p.1 + j, p.2)) := by
  induction es with
  | nil => intro i j; rfl
  | cons p es ih =>
    intro i j
    simp only [findE]
    split
    · simp
    · rw [show i + j + 1 = (i + 1) + j by omega, ih]
theorem findE_some {es : List (K × V)} {k : K} : ∀ {i n : Nat} {v : V}, findE es k n = some (i, v) → n ≤ i ∧ es[i - n]? = some (k, v) := by
  induction es with
  | nil => intro i n v h; cases h
  | cons p es ih =>
    intro i n v h
    simp only [findE] at h
    split at h
    · rename_i hk
      simp at h; obtain ⟨rfl, rfl⟩ := h
      subst hk
      simp
    · obtain ⟨h1, h2⟩ := ih h
      refine ⟨by omega, ?_⟩
      rw [show i - n = (i - (n + 1)) + 1 by omega]
      simpa using h2
theorem findE_none {es : List (K × V)} {k : K} : ∀ {n : Nat}, findE es k n = none ↔ k ∉ es.map (·.1) := by
  induction es with
  | nil => intro n; simp [findE]
  | cons p es ih =>
    intro n
    simp only [findE]
    split
    · rename_i hk; simp [hk]
    · rename_i hk; rw [ih]; simp [hk]
theorem getE_none {es : List (K × V)} {k : K} : getE es k = none ↔ k ∉ es.map (·.1) := by
  unfold getE; rw [Option.map_eq_none_iff, findE_none]
theorem getE_nil (k : K) : getE ([] : List (K × V)) k = none := rfl
theorem getE_cons (p : K × V) (es : List (K × V)) (k : K) : getE (p :: es) k = if k = p.1 then some p.2 else getE es k := by
  unfold getE; simp only [findE]
  split
  · rfl
  · rw [show 0 + 1 = 0 + 1 from rfl, findE_shift]; cases findE es k 0 <;> rfl
theorem getE_mem {es : List (K × V)} {k : K} {v : V} (h : getE es k = some v) : (k, v) ∈ es := by
  unfold getE at h
  cases hf : findE es k 0 with
  | none => simp [hf] at h
  | some p =>
    obtain ⟨i, u⟩ := p
    simp [hf] at h; subst h
    exact List.mem_of_getElem? (findE_some hf).2
theorem getE_of_mem {es : List (K × V)} (hn : (es.map (·.1)).Nodup) {k : K} {v : V} (h : (k, v) ∈ es) : getE es k = some v := by
  induction es with
  | nil => simp at h
  | cons p es ih =>
    rw [getE_cons]
    simp only [List.map_cons, List.nodup_cons] at hn
    rcases List.mem_cons.1 h with rfl | h
    · simp
    · rw [if_neg, ih hn.2 h]
      intro e; apply hn.1; rw [← e]; exact List.mem_map_of_mem h
theorem getE_append (a b : List (K × V)) (k : K) : getE (a ++ b) k = (getE a k).or (getE b k) := by
  induction a with
  | nil => simp [getE_nil]
  | cons p a ih => rw [List.cons_append, getE_cons, getE_cons]; split <;> simp [ih]
theorem getE_set (es : List (K × V)) (i : Nat) (k k' : K) (v u : V) (h : es[i]? = some (k, u)) (hn : (es.map (·.1)).Nodup) : getE (es.set i (k, v)) k' = if k' = k then some v else getE es k' := by
  induction es generalizing i with
  | nil => simp at h
  | cons p es ih =>
    cases i with
    | zero =>
      simp at h; subst h
      simp only [List.set_cons_zero, getE_cons]
      split <;> rfl
    | succ i =>
      simp only [List.map_cons, List.nodup_cons] at hn
      simp only [List.set_cons_succ, getE_cons]
      have hm : k ∈ es.map (·.1) := List.mem_map.2 ⟨(k, u), List.mem_of_getElem? (by simpa using h), rfl⟩
      rw [ih i (by simpa using h) hn.2]
      by_cases e : k' = p.1
      · subst e
        rw [if_pos rfl, if_pos rfl, if_neg]
        intro e; rw [e] at hn; exact hn.1 hm
      · rw [if_neg e, if_neg e]
theorem getE_putE (es : List (K × V)) (hn : (es.map (·.1)).Nodup) (k k' : K) (v : V) : getE (putE es k v) k' = if k' = k then some v else getE es k' := by
  unfold putE
  cases hf : findE es k 0 with
  | none =>
    have hk := findE_none.1 hf
    simp only [getE_append, getE_cons, getE_nil]
    by_cases e : k' = k
    · subst e; rw [getE_none.2 hk]; simp
    · simp [e]
  | some p =>
    obtain ⟨i, u⟩ := p
    exact getE_set es i k k' v u (by simpa using (findE_some hf).2) hn
theorem nodup_putE {es : List (K × V)} (hn : (es.map (·.1)).Nodup) (k : K) (v : V) : ((putE es k v).map (·.1)).Nodup := by
  unfold putE
  cases hf : findE es k 0 with
  | none =>
    simp only [List.map_append, List.map_cons, List.map_nil]
    refine List.nodup_append.2 ⟨hn, by simp, ?_⟩
    intro x hx y hy
    simp at hy; subst hy
    intro e; subst e; exact findE_none.1 hf hx
  | some p => rw [keys_set (by simpa using (findE_some hf).2)]; exact hn
theorem length_putE (es : List (K × V)) (k : K) (v : V) : (putE es k v).length = if k ∈ es.map (·.1) then es.length else es.length + 1 := by
  unfold putE
  cases hf : findE es k 0 with
  | none => rw [if_neg (findE_none.1 hf)]; simp
  | some p =>
    rw [if_pos]
    · simp
    · rcases Classical.em (k ∈ es.map (·.1)) with h | h
      · exact h
      · rw [findE_none.2 h] at hf; cases hf

variable {kenc : K → Value} {venc : V → Value} {ents : Array MapEntry} {clock : Nat} {es : List (K × V)}

/-- What a key's type says of a look for a key. -/
structure KeyOk (P : Program) (kt : TypeId) (kenc : K → Value) : Prop where
  desc : ∃ d, P.underlying kt = some d ∧ ∀ a b, Instr.sameNow d (kenc a) (kenc b) = some (decide (a = b))
  chk : ∀ e k w, (Instr.checkKey e 10000 kt (kenc k)).run P w = .ok () w
  same : ∀ k, Instr.sameBits 10000 (kenc k) (kenc k) = true

theorem keyOk_int {P : Program} {kt : TypeId} {k : IntKind} (h : P.underlying kt = some (.int k)) : KeyOk P kt (fun n : Int => Value.int k n) where
  desc := ⟨_, h, fun a b => by simp [Instr.sameNow]; rfl⟩
  chk := fun e k w => by rw [show (10000 : Nat) = 9999 + 1 from rfl, Instr.checkKey]; simp [run_underlying h]
  same := fun k => by simp [Instr.sameBits]

theorem findNow_eq {d : TypeDesc} (hs : ∀ a b, Instr.sameNow d (kenc a) (kenc b) = some (decide (a = b))) (k : K) : ∀ (l : List MapEntry) (es : List (K × V)) (i : Nat),
    l.map (fun e => (e.key, e.val)) = es.map (fun p => (kenc p.1, venc p.2)) → Instr.findNow d (kenc k) l i = some ((findE es k i).map (fun p => (p.1, venc p.2)))
  | [], es, i, h => by cases es with
    | nil => rfl
    | cons => simp at h
  | e :: l, es, i, h => by
    cases es with
    | nil => simp at h
    | cons p es =>
      simp only [List.map_cons, List.cons.injEq, Prod.mk.injEq] at h
      obtain ⟨⟨h1, h2⟩, h3⟩ := h
      simp only [Instr.findNow, h1, hs, findE]
      by_cases e : k = p.1
      · simp [e, h2]
      · simp [e, findNow_eq hs k l es (i + 1) h3]

theorem run_findKey {P : Program} {kt : TypeId} (hk : KeyOk P kt kenc) (h : MapRel kenc venc ents clock es) (k : K) (w : World) :
    (Instr.findKey kt (kenc k) ents.toList).run P w = .ok ((findE es k 0).map (fun p => (p.1, venc p.2))) w := by
  obtain ⟨d, hd, hs⟩ := hk.desc
  simp [Instr.findKey, run_underlying hd, findNow_eq hs k ents.toList es 0 h.kv]

section
variable {P : Program} {w : World} {t kt et : TypeId} {m : Nat}

theorem run_lookup_map (hk : KeyOk P kt kenc) (ht : P.underlying t = some (.map kt et)) {z : Value} (hz : ∀ w, (zeroValue et).run P w = .ok z w) (hm : w.heap[m]? = some (.map ents clock)) (h : MapRel kenc venc ents clock es) (k : K) (ok : Bool) :
    (Instr.lookup t (.map (some m)) (kenc k) ok).run P w =
      .ok (let v := ((getE es k).map venc).getD z; if ok then .tuple #[v, .bool (getE es k).isSome] else v) w := by
  unfold getE
  cases hf : findE es k 0 with
  | none => cases ok <;> simp [Instr.lookup, run_underlying ht, MapKept.run_getObj_map hm, hk.chk, run_findKey hk h, hf, hz]
  | some p => cases ok <;> simp [Instr.lookup, run_underlying ht, MapKept.run_getObj_map hm, hk.chk, run_findKey hk h, hf]

/-- The world with another object in a block. -/
def putO (w : World) (r : Nat) (o : Obj) : World := { w with heap := w.heap.setIfInBounds r o }
theorem putO_same {w : World} {r : Nat} (h : r < w.heap.size) (o : Obj) : (putO w r o).heap[r]? = some o := by simp [putO, h]
theorem putO_other {w : World} {r i : Nat} (h : i ≠ r) (o : Obj) : (putO w r o).heap[i]? = w.heap[i]? := by simp [putO, Ne.symm h]
@[simp] theorem putO_size (w : World) (r : Nat) (o : Obj) : (putO w r o).heap.size = w.heap.size := by simp [putO]
theorem Ext.putO (w : World) (r : Nat) (o : Obj) : Ext (fun i => i = r) w (putO w r o) := ⟨rfl, rfl, rfl, by simp, fun _ _ hm => putO_other hm o⟩

theorem MapRel.update (h : MapRel kenc venc ents clock es) (k : K) (v : V) :
    (∀ i u, findE es k 0 = some (i, u) → MapRel kenc venc (ents.modify i fun e => { e with key := kenc k, val := venc v }) clock (putE es k v)) ∧
    (findE es k 0 = none → MapRel kenc venc (ents.push { key := kenc k, val := venc v, born := clock }) (clock + 1) (putE es k v)) := by
  constructor
  · intro i u hf
    have hi := (findE_some hf).2
    simp only [Nat.sub_zero] at hi
    have hsz : i < ents.size := by rw [h.size]; exact (List.getElem?_eq_some_iff.1 hi).1
    have hmod : (ents.modify i fun e => { e with key := kenc k, val := venc v }).toList = ents.toList.modify i (fun e => { e with key := kenc k, val := venc v }) := by simp
    refine ⟨?_, ?_, ?_, nodup_putE h.keys k v⟩
    · rw [hmod]
      unfold putE; rw [hf]
      apply List.ext_getElem?
      intro j
      have hj := congrArg (fun l => l[j]?) h.kv
      simp only [List.getElem?_map, List.getElem?_modify, List.getElem?_set] at hj ⊢
      by_cases e : i = j
      · subst e
        have : i < es.length := (List.getElem?_eq_some_iff.1 hi).1
        simp [this, hsz]
      · simp [e]; simpa using hj
    · have : (ents.modify i fun e => { e with key := kenc k, val := venc v }).toList.map (·.born) = ents.toList.map (·.born) := by
        rw [hmod]; apply List.ext_getElem?; intro j
        simp only [List.getElem?_map, List.getElem?_modify]
        by_cases e : i = j <;> simp [e]; cases ents[j]? <;> rfl
      rw [this]; exact h.born
    · intro e he
      rw [hmod] at he
      obtain ⟨j, hj⟩ := List.getElem?_of_mem he
      rw [List.getElem?_modify] at hj
      cases hx : ents.toList[j]? with
      | none => rw [hx] at hj; simp at hj
      | some x =>
        rw [hx] at hj
        have hx' := h.clock x (List.mem_of_getElem? hx)
        simp at hj
        by_cases e : i = j
        · simp [e] at hj; rw [← hj]; exact hx'
        · simp [e] at hj; rw [← hj]; exact hx'
  · intro hf
    refine ⟨?_, ?_, ?_, nodup_putE h.keys k v⟩
    · unfold putE; rw [hf]; simp [h.kv]
    · simp only [Array.toList_push, List.map_append, List.map_cons, List.map_nil]
      refine List.pairwise_append.2 ⟨h.born, by simp, ?_⟩
      intro a ha b hb
      simp at hb; subst hb
      obtain ⟨e, he, rfl⟩ := List.mem_map.1 ha
      exact h.clock e he
    · intro e he
      simp at he
      rcases he with he | rfl
      · have := h.clock e (by simpa using he); omega
      · simp

theorem run_update_map (hk : KeyOk P kt kenc) (ht : P.underlying t = some (.map kt et)) (hm : w.heap[m]? = some (.map ents clock)) (h : MapRel kenc venc ents clock es) (k : K) (v : V) :
    ∃ ents' clock', MapRel kenc venc ents' clock' (putE es k v) ∧ (Instr.mapUpdate t (.map (some m)) (kenc k) (venc v)).run P w = .ok () (putO w m (.map ents' clock')) := by
  cases hf : findE es k 0 with
  | none =>
    refine ⟨_, _, (h.update k v).2 hf, ?_⟩
    simp [Instr.mapUpdate, run_underlying ht, MapKept.run_getObj_map hm, hk.chk, run_findKey hk h, hf, setObj, hm, Sem.run]
    rfl
  | some p =>
    obtain ⟨i, u⟩ := p
    refine ⟨_, _, (h.update k v).1 i u hf, ?_⟩
    obtain ⟨b, hb⟩ := h.get (by simpa using (findE_some hf).2)
    simp [Instr.mapUpdate, run_underlying ht, MapKept.run_getObj_map hm, hk.chk, run_findKey hk h, hf, hb, Instr.keyThatStays, hk.same, setObj, hm, Sem.run]
    rfl
end
end
end Go.Proofs.YtgmeahogdjhejaaGreatDoor
