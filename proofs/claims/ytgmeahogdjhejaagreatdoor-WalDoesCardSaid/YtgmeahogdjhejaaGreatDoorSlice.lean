/- Slices: what they read as; slices of the call's own; append. No program is named. -/
import Derived.Test.YtgmeahogdjhejaaGreatDoorBase
import Derived.Maps.AppendAt
import Derived.WideLaws
import Derived.Laws.BytesArg
namespace Go.Proofs.YtgmeahogdjhejaaGreatDoor
set_option linter.unusedVariables false
set_option linter.unusedSimpArgs false
open Go.RowKit

/-- The slice value v reads as xs, each of k cells. -/
def RdS {α : Type} (enc : α → List Value) (k : Nat) (w : World) (v : Value) (xs : List α) : Prop :=
  ∃ A cap, v = .slice A xs.length cap ∧ xs.length ≤ cap ∧ (xs = [] ∨ ∃ b off cs T fr, A = some ⟨b, off, none⟩ ∧ w.heap[b]? = some (.cells cs T fr) ∧ ∀ j (h : j < xs.length) i, i < k → cs[off + j * k + i]? = (enc xs[j])[i]?)

theorem RdS.keep {α : Type} {enc : α → List Value} {k : Nat} {w w' : World} {v : Value} {xs : List α} (h : RdS enc k w v xs) (e : Ext0 w w') : RdS enc k w' v xs := by
  obtain ⟨A, cap, rfl, hc, h | ⟨b, off, cs, T, fr, rfl, hb, hcs⟩⟩ := h
  · exact ⟨A, cap, rfl, hc, .inl h⟩
  · exact ⟨_, cap, rfl, hc, .inr ⟨b, off, cs, T, fr, rfl, e.block0 hb, hcs⟩⟩
theorem RdS.nil {α : Type} (enc : α → List Value) (k : Nat) (w : World) : RdS enc k w (.slice none 0 0) [] := ⟨none, 0, rfl, Nat.le_refl _, .inl rfl⟩

/-- All cells of a list. -/
def cellsOf {α : Type} (enc : α → List Value) (xs : List α) : List Value := xs.flatMap enc
theorem cellsOf_nil {α : Type} (enc : α → List Value) : cellsOf enc [] = [] := rfl
theorem cellsOf_append {α : Type} (enc : α → List Value) (xs ys : List α) : cellsOf enc (xs ++ ys) = cellsOf enc xs ++ cellsOf enc ys := by simp [cellsOf]
theorem cellsOf_one {α : Type} (enc : α → List Value) (x : α) : cellsOf enc [x] = enc x := by simp [cellsOf]
theorem length_cellsOf {α : Type} {enc : α → List Value} {k : Nat} (hk : ∀ x, (enc x).length = k) (xs : List α) : (cellsOf enc xs).length = xs.length * k := by
  induction xs with
  | nil => simp [cellsOf]
  | cons x xs ih => simp only [cellsOf, List.flatMap_cons, List.length_append, List.length_cons] at ih ⊢; rw [ih, hk, Nat.add_mul, Nat.one_mul, Nat.add_comm]
theorem cellsOf_at {α : Type} {enc : α → List Value} {k : Nat} (hk : ∀ x, (enc x).length = k) : ∀ (xs : List α) (j : Nat) (h : j < xs.length) (i : Nat), i < k → (cellsOf enc xs)[j * k + i]? = (enc xs[j])[i]?
  | [], _, h, _, _ => by simp at h
  | x :: xs, 0, _, i, hi => by
    simp only [cellsOf, List.flatMap_cons, Nat.zero_mul, Nat.zero_add]
    rw [List.getElem?_append_left (by rw [hk]; exact hi)]
    simp
  | x :: xs, j + 1, h, i, hi => by
    have ih := cellsOf_at hk xs j (by simpa using h) i hi
    simp only [cellsOf, List.flatMap_cons] at ih ⊢
    rw [List.getElem?_append_right (by rw [hk, Nat.add_mul]; omega), hk, show (j + 1) * k + i - k = j * k + i by rw [Nat.add_mul]; omega, ih]
    simp

/-- Of a row of one's own: what it reads as. -/
theorem RdS.own {α : Type} {enc : α → List Value} {k : Nat} (hk : ∀ x, (enc x).length = k) {w : World} {base : Nat} {T : TypeId} {v : Value} {n : Nat} {xs : List α} (hn : n = xs.length) (h : w.ownsRow base T k v n (cellsOf enc xs)) : RdS enc k w v xs := by
  subst hn
  obtain ⟨h1, ⟨rfl, h0⟩ | ⟨g, cap, cur, rfl, _, hg, hc, _, hs, ht⟩⟩ := h
  · have hx := List.eq_nil_of_length_eq_zero h0
    subst hx
    exact RdS.nil _ _ _
  · refine ⟨_, cap, rfl, hc, .inr ⟨g, 0, cur, T, _, rfl, hg, fun j hj i hi => ?_⟩⟩
    rw [← cellsOf_at hk xs j hj i hi, ← ht, List.getElem?_take, if_pos, Nat.zero_add, Array.getElem?_toList]
    have : (j + 1) * k ≤ xs.length * k := Nat.mul_le_mul_right k hj
    rw [Nat.add_mul] at this; omega
theorem RdS.cell {α : Type} {enc : α → List Value} {k : Nat} {w : World} {A : Option Addr} {n cap : Nat} {xs : List α} (h : RdS enc k w (.slice A n cap) xs) {j : Nat} (hj : j < xs.length) :
    ∃ b off cs T fr, A = some ⟨b, off, none⟩ ∧ w.heap[b]? = some (.cells cs T fr) ∧ ∀ i, i < k → cs[off + j * k + i]? = (enc xs[j])[i]? := by
  obtain ⟨A', cap', he, hc, rfl | ⟨b, off, cs, T, fr, rfl, hb, hcs⟩⟩ := h
  · simp at hj
  · cases he
    exact ⟨b, off, cs, T, fr, rfl, hb, hcs j hj⟩
theorem RdS.len {α : Type} {enc : α → List Value} {k : Nat} {w : World} {v : Value} {xs : List α} (h : RdS enc k w v xs) : ∃ A cap, v = .slice A xs.length cap ∧ xs.length ≤ cap := by
  obtain ⟨A, cap, rfl, hc, _⟩ := h
  exact ⟨A, cap, rfl, hc⟩
/-- The cells that an append reads. -/
theorem RdS.news {α : Type} {enc : α → List Value} {k : Nat} (hk : ∀ x, (enc x).length = k) {w : World} {A : Option Addr} {n cap : Nat} {xs : List α} (h : RdS enc k w (.slice A n cap) xs) (hne : xs ≠ []) :
    ∃ ad, A = some ad ∧ n = xs.length ∧ ∀ j u, (cellsOf enc xs)[j]? = some u → w.cell? (ad.add j) = some u := by
  obtain ⟨A', cap', he, hc, h | ⟨b, off, cs, T, fr, rfl, hb, hcs⟩⟩ := h
  · exact absurd h hne
  · cases he
    refine ⟨_, rfl, rfl, fun j u hu => ?_⟩
    have hj : j < xs.length * k := by rw [← length_cellsOf hk]; exact (List.getElem?_eq_some_iff.1 hu).1
    have hk0 : 0 < k := by rcases Nat.eq_zero_or_pos k with h | h; · subst h; simp at hj
                           · exact h
    have hd : j / k < xs.length := Nat.div_lt_of_lt_mul (by rw [Nat.mul_comm]; exact hj)
    have hm := Nat.mod_lt j hk0
    have hjj : j / k * k + j % k = j := by rw [Nat.mul_comm]; exact Nat.div_add_mod j k
    rw [Addr.add_mid, cell_of_row w b _ cs T fr hb, ← hu]
    have h1 := hcs (j / k) hd (j % k) hm
    have h2 := cellsOf_at hk xs (j / k) hd (j % k) hm
    rw [Nat.add_assoc, hjj] at h1
    rw [hjj] at h2
    rw [h1, h2]

/-- The slice value v owns a row of its own: n elements, the cells xs. -/
def ownA (T : TypeId) (k : Nat) (v : Value) (n : Nat) (xs : List Value) : Asr where
  fp := fun i => v.ownBlock = some i
  says := fun w => w.ownsRow 0 T k v n xs
  keep := fun w w' h hs => by
    refine ⟨hs.1, ?_⟩
    rcases hs.2 with hn | ⟨g, cap, cur, rfl, hb, hg, r⟩
    · exact .inl hn
    · exact .inr ⟨g, cap, cur, rfl, hb, (h g rfl).trans hg, r⟩

section
variable {M : Nat → Prop} {w0 w : World} {L : List Asr}
theorem ownsRow_weak {w : World} {b b' : Nat} {T : TypeId} {k : Nat} {v : Value} {n : Nat} {xs : List Value} (h : w.ownsRow b T k v n xs) (hb : ∀ i, v.ownBlock = some i → b' ≤ i) : w.ownsRow b' T k v n xs := by
  refine ⟨h.1, ?_⟩
  rcases h.2 with hn | ⟨g, cap, cur, rfl, _, r⟩
  · exact .inl hn
  · exact .inr ⟨g, cap, cur, rfl, hb g rfl, r⟩
/-- A row that a call made. -/
theorem SH.addOwn (H : SH M w0 w L) {w' : World} (h : Ext0 w w') {T : TypeId} {k : Nat} {v : Value} {n : Nat} {xs : List Value} (ho : w'.ownsRow w.heap.size T k v n xs) : SH M w0 w' (ownA T k v n xs :: L) :=
  H.add h _ (ownsRow_weak ho (fun _ _ => Nat.zero_le _)) (fun i hi => ho.lt i hi)
/-- .. handed back. -/
theorem SH.retOwn (H : SH M w0 w L) (i : Nat) {T : TypeId} {k : Nat} {v : Value} {n : Nat} {xs : List Value} (hA : L[i]? = some (ownA T k v n xs)) (hM : ∀ j, v.ownBlock = some j → ¬ M j) : w.ownsRow w0.heap.size T k v n xs :=
  ownsRow_weak (H.get i hA) (fun j hj => (H.own _ (List.mem_of_getElem? hA) j hj).resolve_left (hM j hj))
/-- A new block as a row. -/
theorem SH.toOwn (H : SH M w0 w L) (i : Nat) {g : Nat} {cs : Array Value} {T : TypeId} (hA : L[i]? = some (pt g (.cells cs T (0, 0)))) (k n cap : Nat) (hn : n ≤ cap) (hcap : cap ≤ maxLen) (hs : cs.size = cap * k) (xs : List Value) (hxs : cs.toList.take (n * k) = xs) :
    SH M w0 w (L.set i (ownA T k (.slice (some ⟨g, 0, none⟩) n cap) n xs)) :=
  H.upd i hA (Ext.refl _ _) ⟨by rw [← hxs]; simp [hs, Nat.mul_le_mul_right k hn], .inr ⟨g, cap, cs, rfl, Nat.zero_le _, H.at_ i hA, hn, hcap, hs, hxs⟩⟩
    (fun j hj => by have hj' : some g = some j := hj; cases hj'; exact ⟨.inl rfl, blk_lt' (H.at_ i hA)⟩)
theorem SH.addNil (H : SH M w0 w L) (T : TypeId) (k : Nat) : SH M w0 w (ownA T k (.slice none 0 0) 0 [] :: L) :=
  H.add (Ext.refl _ _) _ (World.ownsRow_nil _ _ _ _) (fun i hi => by simp [ownA, Value.ownBlock] at hi)
end

section
variable {P : Program} {ops : Array Oper} {Q : Exit → Act → World → Prop} {a : Act} {w w0 : World} {rest : List Oper} {o : Oper} {M : Nat → Prop} {L : List Asr}

/-- What append comes to: a slice of the call's own, whatever is appended (nil, too). -/
theorem run_append_any {α : Type} {enc : α → List Value} {k : Nat} (hk : ∀ x, (enc x).length = k) (h1 : ∀ x, ∀ u ∈ enc x, u.oneCell' = true) {t ty e : TypeId} {bytes : Nat} {z : Value} (ht : P.underlying t = some (.slice e))
    (hinfo : (P.info? e).map (fun i => (i.zero, i.size, i.bytes)) = some (some z, k, bytes)) (hzs : z.cells.size = k) (hsz : 0 < k)
    {base : Nat} {v : Value} {n : Nat} {xs : List Value} (hown : w.ownsRow base e k v n xs) {x : Value} {ys : List α} (hx : RdS enc k w x ys) (hb : (n + ys.length) * bytes ≤ 140737488355328) (hn : n + ys.length ≤ maxLen) (hbase : base ≤ w.heap.size) :
    ∃ v' w', (Builtin.append_ #[t, t] ty #[v, x]).run P w = .ok v' w' ∧ w'.ownsRow base e k v' (n + ys.length) (xs ++ cellsOf enc ys) ∧ w.grownBy w' v.ownBlock ∧ (v'.ownBlock = v.ownBlock ∨ v'.ownBlock = some w.heap.size) ∧ (n + ys.length ≠ 0 → v' ≠ .slice none 0 0) := by
  obtain ⟨i, hi, hz0, hz1, hz2⟩ := info_parts hinfo
  obtain ⟨A, cap, rfl, hc⟩ := hx.len
  by_cases hne : ys = []
  · subst hne
    have hr : (Builtin.append_ #[t, t] ty #[v, .slice A 0 cap]).run P w = .ok v w := by
      rcases hown.2 with ⟨rfl, h0⟩ | ⟨g, c, cur, rfl, _, _, hle, _⟩
      · simp [Builtin.append_, run_underlying ht, sizeOf, typeInfo, hi, Builtin.lenOf, Builtin.firstCells, loadCells, loadCellsFrom]
        cases A <;> simp [Builtin.firstCells, loadCells, loadCellsFrom, storeCells]
      · simp [Builtin.append_, run_underlying ht, sizeOf, typeInfo, hi, Builtin.lenOf, hle]
        cases A <;> simp [Builtin.firstCells, loadCells, loadCellsFrom, storeCells]
    refine ⟨v, w, hr, by simpa [cellsOf] using hown, ⟨rfl, rfl, rfl, Nat.le_refl _, fun _ _ _ => rfl⟩, .inl rfl, fun hh hv => ?_⟩
    subst hv
    rcases hown.2 with ⟨_, h0⟩ | ⟨g, c, cur, hv, _⟩
    · simp at hh; exact hh h0
    · cases hv
  · obtain ⟨ad, rfl, _, hnews⟩ := hx.news hk hne
    obtain ⟨v', w', hr, ho, hg, hn', hat⟩ := run_append_own_at (P := P) w base t ty e i z k bytes ht hi hz0 hz1 hz2 hzs hsz v n xs hown ad ys.length cap (cellsOf enc ys) (length_cellsOf hk ys) hnews
      (fun u hu => by obtain ⟨y, _, hy⟩ := List.mem_flatMap.1 hu; exact h1 y u hy) hn hb hbase
    refine ⟨v', w', hr, ho, hg, hat, fun _ hv => ?_⟩
    have := (hn'.1 hv).2
    exact hne (List.eq_nil_of_length_eq_zero this)

/-- The same as one operation (for a region that draws). -/
theorem W_append {α : Type} {enc : α → List Value} {k : Nat} (hk : ∀ x, (enc x).length = k) (h1 : ∀ x, ∀ u ∈ enc x, u.oneCell' = true) {s x : Operand} {t : TypeId} (ho : o.op = .call { callee := .builtin .append, args := #[s, x], argTypes := #[t, t] })
    {e : TypeId} {bytes : Nat} {z : Value} (ht : P.underlying t = some (.slice e))
    (hinfo : (P.info? e).map (fun i => (i.zero, i.size, i.bytes)) = some (some z, k, bytes)) (hzs : z.cells.size = k) (hsz : 0 < k) (H : SH M w0 w L) (i : Nat)
    {v : Value} {n : Nat} {xs : List Value} (hA : L[i]? = some (ownA e k v n xs)) (hs : a.eval s = v) {xv : Value} {ys : List α} (hxv : a.eval x = xv) (hx : RdS enc k w xv ys) (hb : (n + ys.length) * bytes ≤ 140737488355328) (hn : n + ys.length ≤ maxLen)
    {K : Act → World → Prop} (kk : ∀ v' w', SH M w0 w' (L.set i (ownA e k v' (n + ys.length) (xs ++ cellsOf enc ys))) → (n + ys.length ≠ 0 → v' ≠ .slice none 0 0) → K (a.put o.dst v') w') : o.wp P a w K Q := by
  obtain ⟨v', w', hr, hown, hg, hat, hnn⟩ := run_append_any (P := P) (ty := o.type) hk h1 ht hinfo hzs hsz (H.get i hA) hx hb hn (Nat.zero_le _)
  unfold Oper.wp execOp
  simp only [ho, resolve, invoke, builtin, Sem.run_bind, Sem.run_pure, Result.andThen_ok, List.map_toArray, List.map_cons, List.map_nil, hs, hxv, hr]
  refine kk v' w' (H.upd i hA ((Ext.of_grown hg).mono (fun j _ hj => ?_)) hown (fun j hj => ?_)) hnn
  · exact hj.symm
  · refine ⟨?_, (hown.lt j hj).2⟩
    rcases hat with h | h
    · exact .inl (show v.ownBlock = some j from h.symm.trans hj)
    · have hj' : v'.ownBlock = some j := hj
      rw [h] at hj'; cases hj'; exact .inr (Nat.le_refl _)

/-- 'append(s, xs...)', s of the call's own. -/
theorem L_append {α : Type} {enc : α → List Value} {k : Nat} (hk : ∀ x, (enc x).length = k) (h1 : ∀ x, ∀ u ∈ enc x, u.oneCell' = true) (hgd : o.guard = none) {s x : Operand} {t : TypeId} (ho : o.op = .call { callee := .builtin .append, args := #[s, x], argTypes := #[t, t] })
    {e : TypeId} {bytes : Nat} {z : Value} (ht : P.underlying t = some (.slice e))
    (hinfo : (P.info? e).map (fun i => (i.zero, i.size, i.bytes)) = some (some z, k, bytes)) (hzs : z.cells.size = k) (hsz : 0 < k) (H : SH M w0 w L) (i : Nat)
    {v : Value} {n : Nat} {xs : List Value} (hA : L[i]? = some (ownA e k v n xs)) (hs : a.eval s = v) {xv : Value} {ys : List α} (hxv : a.eval x = xv) (hx : RdS enc k w xv ys) (hb : (n + ys.length) * bytes ≤ 140737488355328) (hn : n + ys.length ≤ maxLen)
    (kk : ∀ v' w', SH M w0 w' (L.set i (ownA e k v' (n + ys.length) (xs ++ cellsOf enc ys))) → (n + ys.length ≠ 0 → v' ≠ .slice none 0 0) → wpList P ops Q rest (a.put o.dst v') w') : wpList P ops Q (o :: rest) a w := by
  obtain ⟨v', w', hr, hown, hg, hat, hnn⟩ := run_append_any (P := P) (ty := o.type) hk h1 ht hinfo hzs hsz (H.get i hA) hx hb hn (Nat.zero_le _)
  refine wpList_plain hgd fun K hK => ?_
  unfold Oper.wp execOp
  simp only [ho, resolve, invoke, builtin, Sem.run_bind, Sem.run_pure, Result.andThen_ok, List.map_toArray, List.map_cons, List.map_nil, hs, hxv, hr]
  refine hK _ _ (kk v' w' (H.upd i hA ((Ext.of_grown hg).mono (fun j _ hj => ?_)) hown (fun j hj => ?_)) hnn)
  · exact hj.symm
  · refine ⟨?_, (hown.lt j hj).2⟩
    rcases hat with h | h
    · exact .inl (show v.ownBlock = some j from h.symm.trans hj)
    · have hj' : v'.ownBlock = some j := hj
      rw [h] at hj'; cases hj'; exact .inr (Nat.le_refl _)
end

def encInt (k : IntKind) (x : Int) : List Value := [.int k x]
theorem encInt_len (k : IntKind) (x : Int) : (encInt k x).length = 1 := rfl
theorem encInt_one (k : IntKind) (x : Int) : ∀ u ∈ encInt k x, u.oneCell' = true := by intro u hu; simp [encInt] at hu; subst hu; rfl
theorem cellsOf_int (k : IntKind) (xs : List Int) : cellsOf (encInt k) xs = xs.map (Value.int k) := by
  induction xs with
  | nil => rfl
  | cons x xs ih => simp only [cellsOf, List.flatMap_cons, List.map_cons] at ih ⊢; rw [ih]; rfl

/-- A row of bytes. -/
def bcells (xs : List Int) : Array Value := (xs.map (Value.int .u8)).toArray
theorem bcells_size (xs : List Int) : (bcells xs).size = xs.length := by simp [bcells]
theorem bcells_set (xs : List Int) (i : Nat) (x : Int) : (bcells xs).setIfInBounds i (.int .u8 x) = bcells (xs.set i x) := by
  simp [bcells, List.map_set]
theorem bytesRdAt {xs : List Int} {w : World} {g : Nat} {T : TypeId} {fr : Nat × Nat} (hg : w.heap[g]? = some (.cells (bcells xs) T fr)) (off n cap : Nat) (h : off + n ≤ xs.length) (hc : n ≤ cap) : RdS (encInt .u8) 1 w (.slice (some ⟨g, off, none⟩) n cap) ((xs.drop off).take n) := by
  have hl : ((xs.drop off).take n).length = n := by simp; omega
  refine ⟨_, cap, by rw [hl], by omega, .inr ⟨g, off, _, T, fr, rfl, hg, fun j hj i hi => ?_⟩⟩
  obtain rfl : i = 0 := by omega
  have h1 : off + j < xs.length := by omega
  simp [bcells, encInt, h1]
theorem bytesRd {xs : List Int} {w : World} {g : Nat} {T : TypeId} {fr : Nat × Nat} (hg : w.heap[g]? = some (.cells (bcells xs) T fr)) : RdS (encInt .u8) 1 w (.slice (some ⟨g, 0, none⟩) xs.length xs.length) xs := by
  simpa using bytesRdAt hg 0 xs.length xs.length (by omega) (Nat.le_refl _)
/-- string(b). -/
theorem run_string {P : Program} {w : World} {src dst e : TypeId} {v : Value} {xs : List Int} (hr : RdS (encInt .u8) 1 w v xs) (hs : P.underlying src = some (.slice e)) (he : P.underlying e = some (.int .u8)) (hd : P.underlying dst = some .string) :
    (convert src dst v).run P w = .ok (.string (strOfNums xs)) w := by
  obtain ⟨A, cap, rfl, hc, rfl | ⟨b, off, cs, T, fr, rfl, hb, hcs⟩⟩ := hr
  · rw [run_convert_bytes_string w src dst e _ _ cap hs he hd]
    cases A with
    | none => simp [Conv.bytesToString]; rfl
    | some a =>
      have := run_bytesToString (P := P) w a 0 cap [] (by simpa using run_loadCells_list (P := P) w a [] (by simp))
      exact this.trans rfl
  · refine run_convert_bytes_arg w src e hs he b off xs.length cap xs rfl (fun i hi => ?_) dst hd
    have := hcs i hi 0 (by omega)
    rw [Nat.mul_one, Nat.add_zero] at this
    rw [cell_of_row w b _ cs T fr hb, this]
    simp [encInt, List.getD_eq_getElem?_getD, hi]
theorem R_convert {P : Program} {a : Act} {w : World} {o : Oper} {x : Operand} {src dst : TypeId} (ho : o.op = .convert src dst x) {v u : Value} (hx : a.eval x = v) (hr : (convert src dst v).run P w = .ok u w) : (execOp a.eval o).run P w = .ok (.value u) w := by
  unfold execOp
  simp only [ho, hx, Sem.run_bind, Sem.run_pure, Result.andThen_ok, hr]
end Go.Proofs.YtgmeahogdjhejaaGreatDoor
