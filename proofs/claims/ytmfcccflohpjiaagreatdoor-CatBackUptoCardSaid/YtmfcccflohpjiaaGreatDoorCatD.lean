/- Catalogues: apart. -/
import Derived.Test.YtmfcccflohpjiaaGreatDoorCatM
import Derived.Maps.Own
namespace Go.Proofs.YtmfcccflohpjiaaGreatDoor
set_option linter.unusedVariables false
set_option linter.unusedSimpArgs false
open Go.RowKit

def spOf (x : Ent) : Sp := ⟨x.at_, x.size⟩
def grpF (xs : List Ent) : SpF := fun k => (xs.filter (fun x => x.block == k && decide (0 < x.size))).map spOf
theorem grpF_nil : grpF [] = fun _ => [] := rfl
theorem grpF_step {xs : List Ent} {j : Nat} {x : Ent} (h : xs[j]? = some x) : grpF (xs.take (j + 1)) = if 0 < x.size then updF (grpF (xs.take j)) x.block (spOf x) else grpF (xs.take j) := by
  funext k
  have ht : xs.take (j + 1) = xs.take j ++ [x] := by rw [List.take_add_one, h]; rfl
  unfold grpF
  rw [ht, List.filter_append, List.map_append]
  by_cases h0 : 0 < x.size
  · by_cases hk : k = x.block
    · subst hk
      simp [updF, h0]
    · have : ¬ x.block = k := fun e => hk e.symm
      simp [updF, h0, hk, this]
  · simp [h0]
def ApartP (xs : List Ent) : Prop := ∀ k, grpF xs k ≠ [] → goodB (grpF xs k) 1024 = true
def ApartE (xs : List Ent) (e : Ending) : Prop := ∃ q : Bool, e = .returned (.bool q) ∧ Hid (q = true ↔ ApartP xs)
section
variable {P : Program} {Q : Exit → Act → World → Prop} {K : Act → World → Prop} {a : Act} {w w0 : World} {M : Nat → Prop} {L : List Asr} {o : Oper} {ops : Array Oper} {rest : List Oper}
theorem R_lookupS {t : TypeId} {m x : Operand} (ho : o.op = .lookup t m x false) {b : Nat} {key v : Value} (hm : a.eval m = .map (some b)) (hx : a.eval x = key) (hr : (Instr.lookup t (.map (some b)) key false).run P w = .ok v w) : (execOp a.eval o).run P w = .ok (.value v) w := by
  unfold execOp
  simp [ho, hm, hx, hr, Result.andThen]
theorem W_appendOwn {α : Type} {enc : α → List Value} {k : Nat} (hk : ∀ x, (enc x).length = k) (h1 : ∀ x, ∀ u ∈ enc x, u.oneCell' = true) {s x : Operand} {t : TypeId} (ho : o.op = .call { callee := .builtin .append, args := #[s, x], argTypes := #[t, t] })
    {e : TypeId} {bytes : Nat} {z : Value} (ht : P.underlying t = some (.slice e)) (hinfo : (P.info? e).map (fun i => (i.zero, i.size, i.bytes)) = some (some z, k, bytes)) (hzs : z.cells.size = k) (hsz : 0 < k)
    {base : Nat} {v : Value} {n : Nat} {xs : List Value} (hs : a.eval s = v) (hown : w.ownsRow base e k v n xs) {xv : Value} {ys : List α} (hxv : a.eval x = xv) (hx : RdS enc k w xv ys) (hb : (n + ys.length) * bytes ≤ 140737488355328) (hn : n + ys.length ≤ maxLen) (hbase : base ≤ w.heap.size)
    (kk : ∀ v' w', w'.ownsRow base e k v' (n + ys.length) (xs ++ cellsOf enc ys) → w.grownBy w' v.ownBlock → (v'.ownBlock = v.ownBlock ∨ v'.ownBlock = some w.heap.size) → K (a.put o.dst v') w') : o.wp P a w K Q := by
  obtain ⟨v', w', hr, hown, hg, hat, _⟩ := run_append_any (P := P) (ty := o.type) hk h1 ht hinfo hzs hsz hown hx hb hn hbase
  unfold Oper.wp execOp
  simp only [ho, resolve, invoke, builtin, Sem.run_bind, Sem.run_pure, Result.andThen_ok, List.map_toArray, List.map_cons, List.map_nil, hs, hxv, hr]
  exact kk v' w' hown hg hat
theorem W_mapUpdate {t : TypeId} {m x v : Operand} (ho : o.op = .mapUpdate t m x v) {b : Nat} {key val : Value} (hm : a.eval m = .map (some b)) (hx : a.eval x = key) (hv : a.eval v = val) {w2 : World} (hr : (Instr.mapUpdate t (.map (some b)) key val).run P w = .ok () w2)
    (kk : K (a.put o.dst undef) w2) : o.wp P a w K Q := by
  unfold Oper.wp execOp
  simp only [ho, hm, hx, hv, Sem.run_bind, Sem.run_pure, Result.andThen_ok, hr]
  exact kk
theorem L_range (hgd : o.guard = none) {t : TypeId} {m : Operand} (ho : o.op = .range t m) {kt et : TypeId} (ht : P.underlying t = some (.map kt et)) {b : Nat} {es : Array MapEntry} {clock : Nat} (hm : a.eval m = .map (some b)) (hb : w.heap[b]? = some (.map es clock)) (H : SH M w0 w L)
    (kk : ∀ g w', SH M w0 w' (pt g (.mapIter (some b) clock #[] clock) :: L) → wpList P ops Q rest (a.put o.dst (.pointer (some ⟨g, 0, none⟩))) w') : wpList P ops Q (o :: rest) a w := by
  refine wpList_plain hgd fun K' hK' => ?_
  unfold Oper.wp execOp
  simp only [ho, hm, Sem.run_bind, Sem.run_pure, Result.andThen_ok, run_range_map w t kt et b es clock ht hb]
  exact hK' _ _ (kk _ _ (H.alloc _))
theorem L_next (hgd : o.guard = none) {it : Operand} (ho : o.op = .next it false) {r b clock : Nat} {seen : Array Nat} {es : Array MapEntry} (hit : a.eval it = .pointer (some ⟨r, 0, none⟩)) (H : SH M w0 w L) (i : Nat) (hi : L[i]? = some (pt r (.mapIter (some b) clock seen clock))) (hb : w.heap[b]? = some (.map es clock)) (hold : ∀ x ∈ es.toList, x.born < clock)
    (k0 : (leftOf es seen).size = 0 → wpList P ops Q rest (a.put o.dst (.tuple #[.bool false])) w)
    (k1 : ∀ e ∈ (leftOf es seen).toList, ∀ w', SH M w0 w' (L.set i (pt r (.mapIter (some b) clock (seen.push e.born) clock))) → wpList P ops Q rest (a.put o.dst (.tuple #[.bool true, e.key, e.val])) w') : wpList P ops Q (o :: rest) a w := by
  refine wpList_plain hgd fun K' hK' => ?_
  unfold Oper.wp execOp
  rcases run_next_at (P := P) w o.type r b clock clock seen es clock (H.at_ i hi) hb hold (Nat.le_refl _) with ⟨h0, hr⟩ | ⟨e, he, w1, hw1, hr⟩
  · simp only [ho, hit, Sem.run_bind, Sem.run_pure, Result.andThen_ok, hr]
    exact hK' _ _ (k0 h0)
  · simp only [ho, hit, Sem.run_bind, Sem.run_pure, Result.andThen_ok, hr]
    have H1 : SH M w0 w1 L := by
      rcases hw1 with rfl | rfl
      · exact H
      · exact H.drew
    refine hK' _ _ (k1 e he _ (H1.upd i hi ⟨rfl, rfl, rfl, by simp [ChangeMaps.setBlock], fun j hj hne => ?_⟩ ?_ (fun j hj => ⟨.inl hj, ?_⟩)))
    · have hne' : r ≠ j := fun e => hne e.symm
      simp [ChangeMaps.setBlock, hne']
    · have := (Array.getElem?_eq_some_iff.1 (H1.at_ i hi)).1
      simp [ChangeMaps.setBlock, this]
    · have hj' : j = r := hj
      subst hj'
      have := (Array.getElem?_eq_some_iff.1 (H1.at_ i hi)).1
      simpa [ChangeMaps.setBlock] using this
theorem L_entry (hgd : o.guard = none) {it : Operand} (ho : o.op = .entry it) {r b clock : Nat} {seen : Array Nat} {es : Array MapEntry} {e : MapEntry} (hit : a.eval it = .pointer (some ⟨r, 0, none⟩)) (hr : w.heap[r]? = some (.mapIter (some b) clock (seen.push e.born) clock)) (hb : w.heap[b]? = some (.map es clock)) (he : e ∈ es.toList) (hn : (es.toList.map (·.born)).Nodup)
    (kk : wpList P ops Q rest (a.put o.dst (.tuple #[e.key, e.val])) w) : wpList P ops Q (o :: rest) a w := by
  refine wpList_plain hgd fun K' hK' => ?_
  unfold Oper.wp execOp
  simp only [ho, hit, Sem.run_bind, Sem.run_pure, Result.andThen_ok, run_entry_at w r b clock seen es clock e hr hb he hn]
  exact hK' _ _ kk
end
end Go.Proofs.YtmfcccflohpjiaaGreatDoor
