/- Bytes put together: zeros appended; slices.Grow, slices.Clip, slices.Concat. -/
import Derived.Test.YtgmeahogdjhejaaDoorWalA
import Derived.Lib.AppendZeros
import Derived.Lib.AppendZerosOnto
namespace Go.Proofs.YtgmeahogdjhejaaDoor
set_option linter.unusedVariables false
set_option linter.unusedSimpArgs false
open Go.RowKit

def zB (k : Nat) : List Value := List.replicate k (.int .u8 0)
theorem zB_len (k : Nat) : (zB k).length = k := by simp [zB]
theorem zeroCells_u8 (k : Nat) : (Builtin.zeroCells (Value.int .u8 0).cells k).toList = zB k := by
  show ((Array.range (k * 1)).map fun i => (#[Value.int .u8 0] : Array Value)[i % 1]!).toList = _
  have : (fun i : Nat => (#[Value.int .u8 0] : Array Value)[i % 1]!) = fun _ => Value.int .u8 0 := by funext i; simp [Nat.mod_one]
  rw [this]
  simp [zB, List.map_const']
theorem zB_one (k : Nat) : ∀ u ∈ zB k, u.oneCell' = true := fun u hu => by rw [(List.mem_replicate.1 hu).2]; rfl
theorem ownBlock_some (g n c : Nat) : (Value.slice (some ⟨g, 0, none⟩) n c).ownBlock = some g := rfl
set_option maxRecDepth 100000 in
theorem run_appendZ {w : World} {base : Nat} {ty : TypeId} {v : Value} {n : Nat} {xs : List Value} (hown : w.ownsRow base 5 1 v n xs) (k : Nat) (hk : n + k ≤ 1000000) (hbase : base ≤ w.heap.size) :
    ∃ v' w', (Builtin.append_ #[23, 3] ty #[v, .int .i64 (k : Int)]).run Tryd.prog w = .ok v' w' ∧ w'.ownsRow base 5 1 v' (n + k) (xs ++ zB k) ∧ w.grownBy w' v.ownBlock ∧ (v'.ownBlock = v.ownBlock ∨ v'.ownBlock = some w.heap.size) := by
  obtain ⟨i0, hi, hz, hs, hb⟩ := info_parts info5
  have hu := run_underlying (P := Tryd.prog) Tryd.underlying23
  have hun := run_underlying (P := Tryd.prog) Tryd.underlying3
  have hwk : IntKind.i64.wrap (k : Int) = (k : Int) := by rw [IntKind.wrap_i64]; omega
  have hkn : ¬ (k : Int) < 0 := by omega
  have hkb : ¬ (281474976710656 : Int) < (k : Int) := by omega
  by_cases h0 : k = 0
  · subst h0
    have hr : (Builtin.append_ #[23, 3] ty #[v, .int .i64 ((0 : Nat) : Int)]).run Tryd.prog w = .ok v w := by
      rcases hown.2 with ⟨rfl, h0⟩ | ⟨g, c, cur, rfl, _, _, hle, _⟩
      · simp [Builtin.append_, hu, hun, sizeOf, typeInfo, hi, hs, hb, asInt, asIntOf, storeCells, IntKind.wrap_i64]
      · simp [Builtin.append_, hu, hun, sizeOf, typeInfo, hi, hs, hb, asInt, asIntOf, hle, storeCells, IntKind.wrap_i64]
    exact ⟨v, w, hr, by simpa [zB] using hown, ⟨rfl, rfl, rfl, Nat.le_refl _, fun _ _ _ => rfl⟩, .inl rfl⟩
  · have hG := grownCap_ge w (n + k)
    have hfresh : ∀ (olds : List Value) (c : Nat), olds.length = n → c < n + k → c ≤ 1000000 → olds = xs → ∀ (row : Array Value), row = olds.toArray ++ Builtin.zeroCells (Value.int .u8 0).cells k ++ Builtin.zeroCells (Value.int .u8 0).cells (grownCap w (n + k) c 5 - (n + k)) →
        (w.drew.alloc (.cells row 5)).ownsRow base 5 1 (.slice (some ⟨w.heap.size, 0, none⟩) (n + k) (grownCap w (n + k) c 5)) (n + k) (xs ++ zB k) := by
      intro olds c hol hc hcm hox row hrow
      have hge : n + k ≤ grownCap w (n + k) c 5 := grownCap_ge w _ _ _
      have hle : grownCap w (n + k) c 5 ≤ maxLen := grownCap_le_maxLen w (n + k) c 5 (by unfold maxLen; omega)
      have hrl : row.toList = xs ++ (zB k ++ zB (grownCap w (n + k) c 5 - (n + k))) := by
        rw [hrow, Array.toList_append, Array.toList_append, zeroCells_u8, zeroCells_u8, hox, List.append_assoc]
      have hxl : xs.length = n := by rw [← hox]; exact hol
      refine ⟨by rw [List.length_append, zB_len, hxl, Nat.mul_one], .inr ⟨w.heap.size, _, row, rfl, hbase, heap_alloc_new w.drew _, hge, hle, ?_, ?_⟩⟩
      · rw [← Array.length_toList, hrl, List.length_append, List.length_append, zB_len, zB_len, hxl]
        omega
      · rw [hrl, ← List.append_assoc, List.take_left' (by rw [List.length_append, zB_len, hxl, Nat.mul_one])]
    have hgrown : ∀ (row : Array Value) (r : Option Nat), w.grownBy (w.drew.alloc (.cells row 5)) r := fun row r =>
      ⟨rfl, rfl, rfl, by simp, fun i hi _ => (Below.heap_alloc w.drew _ i hi)⟩
    rcases hown.2 with ⟨rfl, hn0⟩ | ⟨g, c, cur, rfl, hbg, hg, hle, hcm, hcs, hrow⟩
    · subst hn0
      have hx0 : xs = [] := List.eq_nil_of_length_eq_zero (by have := hown.1; simpa using this)
      have hr := Lib.run_append_nil_zeros (P := Tryd.prog) w 23 3 ty 5 i0 _ .i64 .i64 Tryd.underlying23 Tryd.underlying3 hi hz k (by omega) (by rw [hs]; omega) (by omega) (by rw [hb]; omega)
      refine ⟨_, _, hr, ?_, hgrown _ _, .inr rfl⟩
      have := hfresh [] 0 rfl (by omega) (by omega) hx0.symm _ rfl
      simp only [Nat.zero_add] at this ⊢
      simpa using this
    · by_cases hf : n + k ≤ c
      · have hst := run_storeCells_at Tryd.prog g n 5 (zB k) 0 cur w hg (by rw [zB_len]; omega) (zB_one k)
        have hr : (Builtin.append_ #[23, 3] ty #[.slice (some ⟨g, 0, none⟩) n c, .int .i64 (k : Int)]).run Tryd.prog w = .ok (.slice (some ⟨g, 0, none⟩) (n + k) c) (w.setRow g (cur.toList.take n ++ zB k ++ cur.toList.drop (n + k)).toArray) := by
          have hadd : (⟨g, 0, none⟩ : Addr).add n = ⟨g, n, none⟩ := by by_cases hn : n = 0 <;> simp [Addr.add, hn]
          simp only [Nat.add_zero, zB_len] at hst
          simp [Builtin.append_, hu, hun, sizeOf, typeInfo, zeroValue, hi, hs, hb, asInt, asIntOf, hwk, hkn, hkb, hf, h0, hz, zeroCells_u8, hadd, hst]
        refine ⟨_, _, hr, ?_, ⟨rfl, rfl, rfl, by simp, fun i hi hn => setRow_other w g i _ (fun e => hn (by rw [e]; rfl))⟩, .inl rfl⟩
        have hxl : xs.length = n := by have := hown.1; omega
        rw [Nat.mul_one] at hrow
        refine ⟨by rw [List.length_append, zB_len, hxl, Nat.mul_one], .inr ⟨g, c, _, rfl, hbg, setRow_heap w g cur _ _ _ hg, hf, hcm, ?_, ?_⟩⟩
        · rw [List.size_toArray, List.length_append, List.length_append, List.length_take, List.length_drop, zB_len, Array.length_toList]
          omega
        · rw [Nat.mul_one, hrow, List.take_left' (by rw [List.length_append, zB_len, hxl])]
      · have hold : (Builtin.firstCells i0.size n (.slice (some ⟨g, 0, none⟩) n c)).run Tryd.prog w.drew = .ok xs.toArray w.drew := by
          rw [hs]
          exact run_firstCells_some (P := Tryd.prog) w.drew 1 n ⟨g, 0, none⟩ n c xs hown.1 (fun j v hj => by
            have hj2 : j < xs.length := (List.getElem?_eq_some_iff.1 hj).1
            have hadd : (⟨g, 0, none⟩ : Addr).add j = ⟨g, j, none⟩ := by by_cases hn : j = 0 <;> simp [Addr.add, hn]
            rw [hadd]
            show w.cell? ⟨g, j, none⟩ = some v
            rw [cell_of_row w g j cur _ _ hg, ← Array.getElem?_toList]
            rw [← hrow, List.getElem?_take] at hj
            split at hj
            · exact hj
            · cases hj)
        have hr := Lib.run_append_grow_zeros (P := Tryd.prog) w 23 3 ty 5 i0 _ .i64 .i64 Tryd.underlying23 Tryd.underlying3 hi hz (some ⟨g, 0, none⟩) n c xs hold k (by omega) (by rw [hs]; omega) (by omega) (by omega) (by rw [hb]; omega) (by rw [hb]; exact growslice_fits (by omega) (by omega))
        refine ⟨_, _, hr, ?_, hgrown _ _, .inr rfl⟩
        exact hfresh xs c (by have := hown.1; omega) (by omega) (by omega) rfl _ rfl
section
variable {w w0 : World} {M : Nat → Prop} {L : List Asr} {a : Act} {o : Oper} {Q : Exit → Act → World → Prop} {K : Act → World → Prop}
/-- 'append(s, make([]byte, k)...)', s of the call's own. -/
theorem W_appendZ {s x : Operand} (ho : o.op = .call { callee := .builtin .append, args := #[s, x], argTypes := #[23, 3] }) (H : SH M w0 w L) (i : Nat)
    {v : Value} {n : Nat} {xs : List Value} (hA : L[i]? = some (ownA 5 1 v n xs)) (hs : a.eval s = v) {k : Nat} (hx : a.eval x = .int .i64 (k : Int)) (hk : n + k ≤ 1000000)
    (kk : ∀ v' w', SH M w0 w' (L.set i (ownA 5 1 v' (n + k) (xs ++ zB k))) → K (a.put o.dst v') w') : o.wp Tryd.prog a w K Q := by
  obtain ⟨v', w', hr, hown, hg, hat⟩ := run_appendZ (ty := o.type) (H.get i hA) k hk (Nat.zero_le _)
  unfold Oper.wp execOp
  simp only [ho, resolve, invoke, builtin, Sem.run_bind, Sem.run_pure, Result.andThen_ok, List.map_toArray, List.map_cons, List.map_nil, hs, hx, hr]
  refine kk v' w' (H.upd i hA ((Ext.of_grown hg).mono (fun j _ hj => ?_)) hown (fun j hj => ?_))
  · exact hj.symm
  · refine ⟨?_, (hown.lt j hj).2⟩
    rcases hat with h | h
    · exact .inl (show v.ownBlock = some j from h.symm.trans hj)
    · have hj' : v'.ownBlock = some j := hj
      rw [h] at hj'; cases hj'; exact .inr (Nat.le_refl _)
end
end Go.Proofs.YtgmeahogdjhejaaDoor
