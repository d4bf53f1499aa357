/- Going through a map's entries. No program is named. -/
import Derived.Test.YtgmeahogdjhejaaGreatDoorMap
namespace Go.Proofs.YtgmeahogdjhejaaGreatDoor
set_option linter.unusedVariables false
set_option linter.unusedSimpArgs false
open Go.RowKit

section
variable {P : Program}
theorem run_range_at {w : World} {t k e : TypeId} {m : Nat} {ents : Array MapEntry} {clock : Nat} (ht : P.underlying t = some (.map k e)) (hb : w.heap[m]? = some (.map ents clock)) :
    (Instr.range t (.map (some m))).run P w = .ok (.pointer (some ⟨w.heap.size, 0, none⟩)) (w.alloc (.mapIter (some m) clock #[] clock)) := run_range_map w t k e m ents clock ht hb

theorem run_getObj_iter {w : World} {r : Nat} {m : Option Nat} {a b : Nat} {s : Array Nat} (h : w.heap[r]? = some (.mapIter m a s b)) : (getObj r).run P w = .ok (.mapIter m a s b) w := by
  simp [getObj, Sem.run, h]

theorem run_setObj_iter {w : World} {r : Nat} {m : Option Nat} {a b : Nat} {s : Array Nat} (h : w.heap[r]? = some (.mapIter m a s b)) (o : Obj) : (setObj r o).run P w = .ok () (putO w r o) := by
  simp [setObj, Sem.run, h]; rfl

theorem run_next_at {w : World} {ty : TypeId} {r m clock : Nat} {seen : Array Nat} {ents : Array MapEntry} (hr : w.heap[r]? = some (.mapIter (some m) clock seen clock)) (hm : w.heap[m]? = some (.map ents clock)) (hold : ∀ x ∈ ents.toList, x.born < clock) :
    ((leftOf ents seen).size = 0 ∧ (Instr.next (.pointer (some ⟨r, 0, none⟩)) false ty).run P w = .ok (.tuple #[.bool false]) w) ∨
    ∃ e ∈ (leftOf ents seen).toList, ∃ n, (Instr.next (.pointer (some ⟨r, 0, none⟩)) false ty).run P w = .ok (.tuple #[.bool true, e.key, e.val]) (putO (w.drewN n) r (.mapIter (some m) clock (seen.push e.born) clock)) := by
  have hold' : ents.filter (fun e => !seen.contains e.born) = leftOf ents seen := rfl
  have h1 : (leftOf ents seen).filter (fun e => decide (e.born < clock)) = leftOf ents seen := by
    apply Array.filter_eq_self.2
    intro a ha
    simpa using hold a (by simpa using (mem_left (by simpa using ha : a ∈ (leftOf ents seen).toList)).1)
  have h2 : (leftOf ents seen).filter (fun e => decide (e.born ≥ clock)) = #[] := by
    apply Array.filter_eq_empty_iff.2
    intro a ha
    have := hold a (by simpa using (mem_left (by simpa using ha : a ∈ (leftOf ents seen).toList)).1)
    simp; omega
  have ht := next_test_false seen ents clock clock hold (Nat.le_refl _)
  by_cases h0 : (leftOf ents seen).size = 0
  · left
    refine ⟨h0, ?_⟩
    have he : leftOf ents seen = #[] := by simpa using h0
    simp only [Instr.next, Sem.run_bind, run_getObj_iter hr, Result.andThen_ok, MapKept.run_getObj_map hm, ht, hold', h1, h2, he]
    simp [choose, Sem.run, Question.forced]
  · right
    have hne : (leftOf ents seen).isEmpty = false := by simpa [Array.isEmpty] using h0
    have key : ∀ (j : Nat), j < (leftOf ents seen).size → ∃ e ∈ (leftOf ents seen).toList, (#[] ++ (leftOf ents seen ++ #[]).map some)[j]? = some (some e) := fun j hj => by
      refine ⟨(leftOf ents seen)[j], by simp, ?_⟩
      simp [hj]
    have hsz : (#[] ++ (leftOf ents seen ++ #[]).map some : Array (Option MapEntry)).size = (leftOf ents seen).size := by simp
    by_cases hf : (leftOf ents seen).size ≤ 1
    · obtain ⟨e, he, hj⟩ := key 0 (by omega)
      refine ⟨e, he, 0, ?_⟩
      simp only [Instr.next, Sem.run_bind, run_getObj_iter hr, Result.andThen_ok, MapKept.run_getObj_map hm, ht, hold', h1, h2, hne, Bool.false_eq_true, if_false, hsz]
      have hch : (choose (.mapNext (leftOf ents seen).size)).run P w = .ok 0 w := by simp [choose, Sem.run, Question.forced, hf]
      rw [hch]
      simp only [Result.andThen_ok, hj]
      simp only [Sem.run_bind, run_setObj_iter hr, Result.andThen_ok, Sem.run_pure]
      rfl
    · obtain ⟨e, he, hj⟩ := key (w.tape w.drawn (.mapNext (leftOf ents seen).size) % (leftOf ents seen).size) (Nat.mod_lt _ (by omega))
      refine ⟨e, he, 1, ?_⟩
      simp only [Instr.next, Sem.run_bind, run_getObj_iter hr, Result.andThen_ok, MapKept.run_getObj_map hm, ht, hold', h1, h2, hne, Bool.false_eq_true, if_false, hsz]
      have hch : (choose (.mapNext (leftOf ents seen).size)).run P w = .ok (w.tape w.drawn (.mapNext (leftOf ents seen).size) % (leftOf ents seen).size) (w.drewN 1) := by simp [choose, Sem.run, Question.forced, hf, Question.cut]; rfl
      rw [hch]
      simp only [Result.andThen_ok, hj]
      have hr1 : (w.drewN 1).heap[r]? = some (.mapIter (some m) clock seen clock) := hr
      simp only [Sem.run_bind, run_setObj_iter hr1, Result.andThen_ok, Sem.run_pure]

theorem run_entry_at {w : World} {r m clock : Nat} {seen : Array Nat} {ents : Array MapEntry} {e : MapEntry} (hr : w.heap[r]? = some (.mapIter (some m) clock (seen.push e.born) clock)) (hm : w.heap[m]? = some (.map ents clock)) (he : e ∈ ents.toList) (hn : (ents.toList.map (·.born)).Nodup) :
    (Instr.entry (.pointer (some ⟨r, 0, none⟩))).run P w = .ok (.tuple #[e.key, e.val]) w := by
  have hf : ents.find? (·.born == e.born) = some e := by rw [← Array.find?_toList]; exact find_born e ents.toList hn he
  simp [Instr.entry, run_getObj_iter hr, MapKept.run_getObj_map hm, hf]
end

/-- Which entries have come (dl), which are left (rl). -/
def Iter (ents : Array MapEntry) (seen : Array Nat) (dl rl : List MapEntry) : Prop := (dl ++ rl).Perm ents.toList ∧ seen.toList = dl.map (·.born)
theorem Iter.start (ents : Array MapEntry) : Iter ents #[] [] ents.toList := ⟨.refl _, rfl⟩
theorem Iter.done {ents : Array MapEntry} {seen : Array Nat} {dl rl : List MapEntry} (h : Iter ents seen dl rl) (hn : (ents.toList.map (·.born)).Nodup) (h0 : (leftOf ents seen).size = 0) : dl.Perm ents.toList := by
  have hrl : rl = [] := by
    rcases rl with _ | ⟨e, rl⟩
    · rfl
    · exfalso
      have hmem : e ∈ ents.toList := h.1.subset (by simp)
      have hs := all_seen ents seen h0 e hmem
      have hs' : e.born ∈ seen.toList := by simpa using hs
      rw [h.2] at hs'
      have hnd : ((dl ++ e :: rl).map (·.born)).Nodup := (h.1.map _).nodup_iff.2 hn
      rw [List.map_append, List.map_cons] at hnd
      exact (List.nodup_append.1 hnd).2.2 _ hs' _ (by simp) rfl
  subst hrl
  simpa using h.1
theorem Iter.next {ents : Array MapEntry} {seen : Array Nat} {dl rl : List MapEntry} (h : Iter ents seen dl rl) {e : MapEntry} (he : e ∈ (leftOf ents seen).toList) : ∃ rl', Iter ents (seen.push e.born) (dl ++ [e]) rl' ∧ rl.Perm (e :: rl') := by
  obtain ⟨hm, hs⟩ := mem_left he
  have hin : e ∈ dl ++ rl := h.1.symm.subset hm
  have hd : e ∉ dl := fun hd => by
    have : e.born ∈ seen.toList := by rw [h.2]; exact List.mem_map_of_mem hd
    simp at hs; exact hs (by simpa using this)
  have hr : e ∈ rl := (List.mem_append.1 hin).resolve_left hd
  obtain ⟨a, b, rfl⟩ := List.append_of_mem hr
  refine ⟨a ++ b, ⟨?_, by simp [h.2]⟩, List.perm_middle⟩
  refine List.Perm.trans ?_ h.1
  rw [List.append_assoc]
  exact List.Perm.append_left _ (by simpa using List.perm_middle.symm)

/-- What an entry holds, as a pair. -/
theorem MapRel.dec {K V : Type} {kenc : K → Value} {venc : V → Value} {ents : Array MapEntry} {clock : Nat} {es : List (K × V)} (h : MapRel kenc venc ents clock es) (d : K × V) :
    ∃ dec : MapEntry → K × V, ents.toList.map dec = es ∧ ∀ e ∈ ents.toList, e.key = kenc (dec e).1 ∧ e.val = venc (dec e).2 := by
  have hn : (ents.toList.map (·.born)).Nodup := h.born.imp (fun hlt => Nat.ne_of_lt hlt)
  have hkv := h.kv
  generalize ents.toList = l at *
  clear h
  induction l generalizing es with
  | nil => cases es with
    | nil => exact ⟨fun _ => d, rfl, by simp⟩
    | cons => simp at hkv
  | cons e l ih =>
    cases es with
    | nil => simp at hkv
    | cons p es =>
      simp only [List.map_cons, List.cons.injEq, Prod.mk.injEq, List.nodup_cons] at hkv hn
      obtain ⟨dec, h1, h2⟩ := ih hn.2 hkv.2
      refine ⟨fun x => if x.born = e.born then p else dec x, ?_, ?_⟩
      · have hne : ∀ x ∈ l, x.born ≠ e.born := fun x hx hb => hn.1 (by rw [← hb]; exact List.mem_map_of_mem hx)
        simp only [List.map_cons, if_true, List.cons.injEq, true_and]
        rw [← h1]
        exact List.map_congr_left (fun x hx => if_neg (hne x hx))
      · intro x hx
        rcases List.mem_cons.1 hx with rfl | hx
        · simpa using hkv.1
        · have hne : x.born ≠ e.born := fun hb => hn.1 (by rw [← hb]; exact List.mem_map_of_mem hx)
          simpa [hne] using h2 x hx

section
variable {P : Program} {ops : Array Oper} {Q : Exit → Act → World → Prop} {a : Act} {w w0 : World} {rest : List Oper} {o : Oper} {M : Nat → Prop} {L : List Asr}
theorem L_range (hgd : o.guard = none) {t k e : TypeId} {x : Operand} (ho : o.op = .range t x) (H : SH M w0 w L) {m : Nat} {ents : Array MapEntry} {clock : Nat} (hx : a.eval x = .map (some m)) (ht : P.underlying t = some (.map k e)) (hm : w.heap[m]? = some (.map ents clock))
    (kk : ∀ r w', SH M w0 w' (pt r (.mapIter (some m) clock #[] clock) :: L) → wpList P ops Q rest (a.put o.dst (.pointer (some ⟨r, 0, none⟩))) w') : wpList P ops Q (o :: rest) a w := by
  refine wpList_plain hgd fun K hK => ?_
  unfold Oper.wp execOp
  simp only [ho, hx, Sem.run_bind, Sem.run_pure, Result.andThen_ok, run_range_at ht hm]
  exact hK _ _ (kk _ _ (H.alloc _))
theorem L_next (hgd : o.guard = none) {x : Operand} (ho : o.op = .next x false) (H : SH M w0 w L) (i j : Nat) {r m : Nat} {ents : Array MapEntry} {clock : Nat} {seen : Array Nat} (hx : a.eval x = .pointer (some ⟨r, 0, none⟩))
    (hA : L[i]? = some (pt r (.mapIter (some m) clock seen clock))) (hB : L[j]? = some (pt m (.map ents clock))) (hold : ∀ x ∈ ents.toList, x.born < clock)
    (k0 : (leftOf ents seen).size = 0 → wpList P ops Q rest (a.put o.dst (.tuple #[.bool false])) w)
    (k1 : ∀ e ∈ (leftOf ents seen).toList, ∀ w', SH M w0 w' (L.set i (pt r (.mapIter (some m) clock (seen.push e.born) clock))) → wpList P ops Q rest (a.put o.dst (.tuple #[.bool true, e.key, e.val])) w') : wpList P ops Q (o :: rest) a w := by
  refine wpList_plain hgd fun K hK => ?_
  unfold Oper.wp execOp
  rcases run_next_at (P := P) (ty := o.type) (H.at_ i hA) (H.at_ j hB) hold with ⟨h0, hr⟩ | ⟨e, he, n, hr⟩
  · simp only [ho, hx, Sem.run_bind, Sem.run_pure, Result.andThen_ok, hr]
    exact hK _ _ (k0 h0)
  · simp only [ho, hx, Sem.run_bind, Sem.run_pure, Result.andThen_ok, hr]
    refine hK _ _ (k1 e he _ ((H.drewN n).upd i hA (Ext.putO _ r _) (putO_same (blk_lt' ((H.drewN n).at_ i hA)) _) (fun j hj => ?_)))
    simp only [pt_fp] at hj; subst hj
    exact ⟨.inl rfl, by rw [putO_size]; exact blk_lt' ((H.drewN n).at_ i hA)⟩
theorem L_entry (hgd : o.guard = none) {x : Operand} (ho : o.op = .entry x) (H : SH M w0 w L) (i j : Nat) {r m : Nat} {ents : Array MapEntry} {clock : Nat} {seen : Array Nat} {e : MapEntry} (hx : a.eval x = .pointer (some ⟨r, 0, none⟩))
    (hA : L[i]? = some (pt r (.mapIter (some m) clock (seen.push e.born) clock))) (hB : L[j]? = some (pt m (.map ents clock))) (he : e ∈ ents.toList) (hn : (ents.toList.map (·.born)).Nodup)
    (k : wpList P ops Q rest (a.put o.dst (.tuple #[e.key, e.val])) w) : wpList P ops Q (o :: rest) a w := by
  refine wpList_plain hgd fun K hK => ?_
  unfold Oper.wp execOp
  simp only [ho, hx, Sem.run_bind, Sem.run_pure, Result.andThen_ok, run_entry_at (P := P) (H.at_ i hA) (H.at_ j hB) he hn]
  exact hK _ _ k
theorem run_clear_map {w : World} {t ty : TypeId} {m : Nat} {u : TypeDesc} {ents : Array MapEntry} {clock : Nat} (ht : P.underlying t = some u) (hm : w.heap[m]? = some (.map ents clock)) :
    (Builtin.clear_ #[t] ty #[.map (some m)]).run P w = .ok (.tuple #[]) (putO w m (.map #[] clock)) := by
  simp [Builtin.clear_, run_underlying ht, MapKept.run_getObj_map hm, setObj, Sem.run, hm]
  rfl
theorem L_clear (hgd : o.guard = none) {t : TypeId} {x : Operand} (ho : o.op = .call { callee := .builtin .clear, args := #[x], argTypes := #[t] }) (H : SH M w0 w L) (i : Nat) {m : Nat} {ents : Array MapEntry} {clock : Nat} (hx : a.eval x = .map (some m))
    (hA : L[i]? = some (pt m (.map ents clock))) {u : TypeDesc} (ht : P.underlying t = some u) (k : ∀ w', SH M w0 w' (L.set i (pt m (.map #[] clock))) → wpList P ops Q rest (a.put o.dst (.tuple #[])) w') : wpList P ops Q (o :: rest) a w := by
  refine wpList_plain hgd fun K hK => ?_
  unfold Oper.wp execOp
  simp only [ho, resolve, invoke, builtin, Sem.run_bind, Sem.run_pure, Result.andThen_ok, List.map_toArray, List.map_cons, List.map_nil, hx, run_clear_map (P := P) ht (H.at_ i hA)]
  refine hK _ _ (k _ (H.upd i hA (Ext.putO _ m _) (putO_same (blk_lt' (H.at_ i hA)) _) (fun j hj => ?_)))
  simp only [pt_fp] at hj; subst hj
  exact ⟨.inl rfl, by rw [putO_size]; exact blk_lt' (H.at_ i hA)⟩
end
end Go.Proofs.YtgmeahogdjhejaaGreatDoor
