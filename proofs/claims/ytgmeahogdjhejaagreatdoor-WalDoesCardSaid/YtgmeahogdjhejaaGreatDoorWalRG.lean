/- The document's disk: Crash. (Printed by genwal6.py.) -/
import Derived.Test.YtgmeahogdjhejaaGreatDoorWalRB
import Derived.Deep.CutRange
import Derived.Deep.LoopGhost
namespace Go.Proofs.YtgmeahogdjhejaaGreatDoor
set_option linter.unusedVariables false
set_option linter.unusedSimpArgs false
open Rf (RefA RM grown row_shape row_len R_store1 infoU8 bytesA)
open Go.RowKit

theorem sortedKeys_nodup' {V : Type} {es : List (Int × V)} (h : (es.map (·.1)).Nodup) : (sortedKeys es).Nodup := (sortedKeys_perm es).nodup_iff.2 h
theorem crash_at' {d : DS} {W : Int} (hf : d.Fine W) (keep torn cut : Int) {i : Nat} (hi : i < d.sure.length) : ∀ k, k ≤ d.pend.length →
    (∃ j : Nat, j < k ∧ (sortedKeys d.pend).getD j 0 = (i : Int) ∧ (crashTo d keep torn cut k).getD i St.zero = surv (d.sure.getD i St.zero) ((getE d.pend (i : Int)).getD St.zero) j keep torn cut) ∨
    ((∀ j : Nat, j < k → (sortedKeys d.pend).getD j 0 ≠ (i : Int)) ∧ (crashTo d keep torn cut k).getD i St.zero = d.sure.getD i St.zero)
  | 0, _ => .inr ⟨fun j hj => absurd hj (by omega), rfl⟩
  | k + 1, hk => by
    have ih := crash_at' hf keep torn cut hi k (by omega)
    have hlen := crashTo_length d keep torn cut k
    rw [crashTo_succ]
    obtain ⟨v, hv⟩ := sortedKeys_at d.pend k (by omega)
    have hr := (hf.pend _ hv).2
    have hnd := sortedKeys_nodup' hf.keys
    have hsl := sortedKeys_length d.pend
    by_cases he : (sortedKeys d.pend).getD k 0 = (i : Int)
    · left
      refine ⟨k, by omega, he, ?_⟩
      have hprev : (crashTo d keep torn cut k).getD i St.zero = d.sure.getD i St.zero := by
        rcases ih with ⟨j, hj, hji, _⟩ | ⟨_, h⟩
        · exfalso
          have hne := List.pairwise_iff_getElem.1 hnd j k (by omega) (by omega) hj
          refine hne ?_
          rw [List.getD_eq_getElem?_getD, List.getElem?_eq_getElem (by omega), Option.getD_some] at hji he
          rw [hji, he]
        · exact h
      rw [he, Int.toNat_natCast, hprev, List.getD_eq_getElem?_getD, List.getElem?_set_self (by omega)]
      rfl
    · have hne : ((sortedKeys d.pend).getD k 0).toNat ≠ i := by dsimp only at hr; omega
      have hset : ∀ s, ((crashTo d keep torn cut k).set ((sortedKeys d.pend).getD k 0).toNat s).getD i St.zero = (crashTo d keep torn cut k).getD i St.zero := fun s => by
        rw [List.getD_eq_getElem?_getD, List.getElem?_set_ne hne, ← List.getD_eq_getElem?_getD]
      rw [hset]
      rcases ih with ⟨j, hj, h1, h2⟩ | ⟨h1, h2⟩
      · exact .inl ⟨j, by omega, h1, h2⟩
      · refine .inr ⟨fun j hj => ?_, h2⟩
        by_cases hjk : j = k
        · subst hjk; exact he
        · exact h1 j (by omega)

theorem i64_and1 (n : Int) : bits .and .i64 n 1 = n % 2 := by
  have h127 : (BitVec.ofInt 64 1).toNat = 2 ^ 1 - 1 := by decide
  have key : (BitVec.ofInt 64 n &&& BitVec.ofInt 64 1).toNat = (n % ((2 ^ 64 : Nat) : Int)).toNat % 2 ^ 1 := by
    rw [BitVec.toNat_and, BitVec.toNat_ofInt, h127, Nat.and_two_pow_sub_one_eq_mod]
  show IntKind.i64.wrap ((BitVec.ofInt 64 n &&& BitVec.ofInt 64 1).toNat : Nat) = n % 2
  rw [key, IntKind.wrap_i64]
  omega
theorem u64_bit (keep : Int) (n : Nat) (hn : n < 62) : keep % 18446744073709551616 / 2 ^ n % 2 = keep / 2 ^ n % 2 := by
  have hp : (0 : Int) < 2 ^ n := Int.pow_pos (by decide)
  obtain ⟨m, hm⟩ : ∃ m, 64 = n + 1 + m := ⟨63 - n, by omega⟩
  have he : (18446744073709551616 : Int) = 2 ^ n * (2 * 2 ^ m) := by
    rw [show (18446744073709551616 : Int) = 2 ^ 64 from rfl, hm, Int.pow_add, Int.pow_add]
    rw [Int.pow_one, Int.mul_assoc]
  have h1 : keep % 18446744073709551616 = keep - 2 ^ n * (2 * 2 ^ m) * (keep / 18446744073709551616) := by
    rw [← he]; omega
  rw [h1, show keep - 2 ^ n * (2 * 2 ^ m) * (keep / 18446744073709551616) = keep + 2 ^ n * (2 * (2 ^ m * -(keep / 18446744073709551616))) by
    rw [Int.mul_neg, Int.mul_neg, Int.mul_neg, Int.mul_assoc, Int.mul_assoc]; rfl]
  rw [Int.add_mul_ediv_left _ _ (by omega)]
  omega
/-- How many are pending below i. -/
def wetN (d : DS) (i : Nat) : Nat := ((List.range i).map fun (k : Nat) => (getE d.pend (k : Int)).isSome).countP id
theorem wetN_succ (d : DS) (i : Nat) : wetN d (i + 1) = wetN d i + (if (getE d.pend (i : Int)).isSome then 1 else 0) := by
  unfold wetN
  rw [List.range_succ, List.map_append, List.countP_append]
  simp [List.countP_cons]
theorem wetN_le (d : DS) (i : Nat) : wetN d i ≤ i := by
  unfold wetN
  refine Nat.le_trans List.countP_le_length (by simp)
def DS.put (d : DS) (i : Nat) (s : St) : DS := { d with sure := d.sure.set i s, pend := d.pend.filter (fun p => p.1 != (i : Int)) }
def DS.mid (d : DS) (i : Nat) (s : St) : DS := { d with pend := ((i : Int), s) :: d.pend.filter (fun p => p.1 != (i : Int)) }
theorem DS.mid_is (d : DS) (i k : Nat) (s : St) : (d.mid i s).is (k : Int) = if k = i then s else d.is (k : Int) := by
  unfold DS.is DS.mid
  simp only [getE_cons, getE_filter]
  by_cases h : k = i
  · subst h; simp
  · rw [if_neg (by omega), if_neg (by omega), if_neg h]
theorem DS.mid_settle (d : DS) (i : Nat) (s : St) : (d.mid i s).settle i = d.put i s := by
  unfold DS.settle
  rw [d.mid_is i i s, if_pos rfl]
  unfold DS.mid DS.put
  simp [List.filter_filter]
/-- The document's crash, as far as sector i. -/
def crN (d : DS) (keep torn cut : Int) : Nat → DS
  | 0 => d
  | i + 1 => if (getE d.pend (i : Int)).isSome then (crN d keep torn cut i).put i (surv (d.sure.getD i St.zero) ((getE d.pend (i : Int)).getD St.zero) (wetN d i) keep torn cut) else crN d keep torn cut i
theorem crN_rest (d : DS) (keep torn cut : Int) : ∀ i, (crN d keep torn cut i).fuse = d.fuse ∧ (crN d keep torn cut i).writes = d.writes ∧ (crN d keep torn cut i).sure.length = d.sure.length
  | 0 => ⟨rfl, rfl, rfl⟩
  | i + 1 => by
    have ih := crN_rest d keep torn cut i
    unfold crN
    split
    · exact ⟨ih.1, ih.2.1, by show (List.set _ _ _).length = _; rw [List.length_set]; exact ih.2.2⟩
    · exact ih
theorem crN_get (d : DS) (keep torn cut : Int) (k : Nat) : ∀ i, getE (crN d keep torn cut i).pend (k : Int) = if k < i then none else getE d.pend (k : Int)
  | 0 => by rw [if_neg (by omega)]; rfl
  | i + 1 => by
    have ih := crN_get d keep torn cut k i
    unfold crN
    split
    · show getE (List.filter _ _) _ = _
      rw [getE_filter, ih]
      by_cases hk : k = i
      · subst hk; simp
      · rw [if_neg (by omega)]
        by_cases h2 : k < i
        · rw [if_pos h2, if_pos (by omega)]
        · rw [if_neg h2, if_neg (by omega)]
    · rename_i hno
      rw [ih]
      by_cases hk : k = i
      · subst hk
        simp at hno
        simp [hno]
      · by_cases h2 : k < i
        · rw [if_pos h2, if_pos (by omega)]
        · rw [if_neg h2, if_neg (by omega)]
theorem crN_sure (d : DS) (keep torn cut : Int) (k : Nat) (hk : k < d.sure.length) : ∀ i, (crN d keep torn cut i).sure.getD k St.zero = if k < i ∧ (getE d.pend (k : Int)).isSome then surv (d.sure.getD k St.zero) ((getE d.pend (k : Int)).getD St.zero) (wetN d k) keep torn cut else d.sure.getD k St.zero
  | 0 => by rw [if_neg (by omega)]; rfl
  | i + 1 => by
    have ih := crN_sure d keep torn cut k hk i
    have hl := (crN_rest d keep torn cut i).2.2
    unfold crN
    split
    · rename_i hyes
      show (List.set _ _ _).getD _ _ = _
      by_cases h2 : k = i
      · subst h2
        rw [if_pos ⟨by omega, hyes⟩, List.getD_eq_getElem?_getD, List.getElem?_set_self (by omega)]
        rfl
      · rw [List.getD_eq_getElem?_getD, List.getElem?_set_ne (by omega), ← List.getD_eq_getElem?_getD, ih]
        by_cases h3 : k < i ∧ (getE d.pend (k : Int)).isSome
        · rw [if_pos h3, if_pos ⟨by omega, h3.2⟩]
        · rw [if_neg h3, if_neg (fun h => h3 ⟨by omega, h.2⟩)]
    · rename_i hno
      rw [ih]
      by_cases h3 : k < i ∧ (getE d.pend (k : Int)).isSome
      · rw [if_pos h3, if_pos ⟨by omega, h3.2⟩]
      · rw [if_neg h3, if_neg (fun h => h3 ⟨by
          by_cases h4 : k = i
          · subst h4; exact absurd h.2 hno
          · omega, h.2⟩)]
theorem crN_mem (d : DS) (keep torn cut : Int) (i : Nat) : ∀ p ∈ (crN d keep torn cut i).pend, p ∈ d.pend := by
  induction i with
  | zero => exact fun p hp => hp
  | succ i ih =>
    intro p hp
    unfold crN at hp
    split at hp
    · exact ih p (List.mem_filter.1 hp).1
    · exact ih p hp
theorem count_below {l : List Int} (h : l.Pairwise (· < ·)) (j : Nat) (hj : j < l.length) : l.countP (fun x => decide (x < l[j])) = j := by
  have h1 : l = l.take j ++ l.drop j := (List.take_append_drop j l).symm
  have h2 := List.pairwise_iff_getElem.1 h
  generalize hx : l[j] = x
  have h3 : (l.take j).countP (fun y => decide (y < x)) = j := by
    rw [List.countP_eq_length.2 (fun y hy => ?_), List.length_take]
    · omega
    · obtain ⟨k, hk, rfl⟩ := List.mem_iff_getElem.1 hy
      rw [List.length_take] at hk
      rw [List.getElem_take, ← hx]
      simpa using h2 k j (by omega) hj (by omega)
  have h4 : (l.drop j).countP (fun y => decide (y < x)) = 0 := by
    rw [List.countP_eq_zero]
    intro y hy
    obtain ⟨k, hk, rfl⟩ := List.mem_iff_getElem.1 hy
    rw [List.length_drop] at hk
    rw [List.getElem_drop, ← hx]
    by_cases hk0 : k = 0
    · subst hk0; simp
    · have := h2 j (j + k) hj (by omega) (by omega)
      simp; omega
  conv => lhs; rw [h1]
  rw [List.countP_append, h3, h4]
  rfl
theorem sortedKeys_lt {es : List (Int × St)} (h : (es.map (·.1)).Nodup) : (sortedKeys es).Pairwise (· < ·) := by
  have h1 : (sortedKeys es).Pairwise (fun x y => decide (x ≤ y) = true) := List.pairwise_mergeSort (by intro a b c; simp; omega) (by intro a b; simp; omega) _
  have h2 : (sortedKeys es).Pairwise (· ≠ ·) := sortedKeys_nodup' h
  refine (h1.and h2).imp ?_
  intro a b hab
  have := hab.1
  have := hab.2
  simp only [decide_eq_true_eq] at *
  omega
theorem wetN_keys (d : DS) (hn : (d.pend.map (·.1)).Nodup) (hp : ∀ p ∈ d.pend, 0 ≤ p.1) (i : Nat) : wetN d i = (d.pend.map (·.1)).countP (fun x => decide (x < (i : Int))) := by
  have h1 := count_filter (d.pend.filter (fun p => decide (p.1 < (i : Int)))) i ((List.filter_sublist.map _).nodup hn) (fun p hp' => by
    obtain ⟨h1, h2⟩ := List.mem_filter.1 hp'
    have := hp p h1
    simp only [decide_eq_true_eq] at h2
    omega)
  have h2 : ((List.range i).map fun (k : Nat) => (getE (d.pend.filter (fun p => decide (p.1 < (i : Int)))) (k : Int)).isSome) = (List.range i).map fun (k : Nat) => (getE d.pend (k : Int)).isSome :=
    List.map_congr_left fun k hk => by
      have hk := List.mem_range.1 hk
      cases hg : getE d.pend (k : Int) with
      | none =>
        rw [getE_none.2 (fun hm => ?_)]
        · obtain ⟨p, hp1, hp2⟩ := List.mem_map.1 hm
          exact getE_none.1 hg (List.mem_map.2 ⟨p, (List.mem_filter.1 hp1).1, hp2⟩)
      | some v =>
        rw [getE_of_mem (v := v) ((List.filter_sublist.map _).nodup hn) (List.mem_filter.2 ⟨getE_mem hg, by simp; omega⟩)]
  rw [h2] at h1
  unfold wetN
  rw [h1, ← List.countP_eq_length_filter, List.countP_map]
  rfl
/-- Sector by sector, or by the keys in order: the same. -/
theorem crN_crash {d : DS} {W : Int} (hf : d.Fine W) (keep torn cut : Int) : { crN d keep torn cut d.sure.length with fuse := -1 } = d.crash keep torn cut := by
  have hr := crN_rest d keep torn cut d.sure.length
  have hpend : (crN d keep torn cut d.sure.length).pend = [] := by
    apply List.eq_nil_iff_forall_not_mem.2
    intro p hp
    have hm := crN_mem d keep torn cut _ p hp
    have hb := (hf.pend p hm).2
    obtain ⟨k, hk⟩ := Int.eq_ofNat_of_zero_le hb.1
    have hg := crN_get d keep torn cut k d.sure.length
    rw [if_pos (by omega)] at hg
    exact getE_none.1 hg (List.mem_map.2 ⟨p, hp, hk⟩)
  have hsure : (crN d keep torn cut d.sure.length).sure = crashTo d keep torn cut d.pend.length := by
    apply List.ext_getElem
    · rw [hr.2.2, crashTo_length]
    · intro k hk1 hk2
      have hk : k < d.sure.length := by rw [hr.2.2] at hk1; exact hk1
      have h1 := crN_sure d keep torn cut k hk d.sure.length
      rw [List.getD_eq_getElem?_getD, List.getElem?_eq_getElem hk1, Option.getD_some] at h1
      rw [h1]
      have h3 : (crashTo d keep torn cut d.pend.length)[k] = (crashTo d keep torn cut d.pend.length).getD k St.zero := by
        rw [List.getD_eq_getElem?_getD, List.getElem?_eq_getElem hk2]; rfl
      rw [h3]
      rcases crash_at' hf keep torn cut hk d.pend.length (Nat.le_refl _) with ⟨j, hj, hji, h2⟩ | ⟨hno, h2⟩
      · have hjl : j < (sortedKeys d.pend).length := by rw [sortedKeys_length]; exact hj
        rw [List.getD_eq_getElem?_getD, List.getElem?_eq_getElem hjl, Option.getD_some] at hji
        have hmem : (k : Int) ∈ d.pend.map (·.1) := (sortedKeys_perm d.pend).subset (hji ▸ List.getElem_mem hjl)
        have hso : (getE d.pend (k : Int)).isSome := by
          cases hg : getE d.pend (k : Int) with
          | none => exact absurd hmem (getE_none.1 hg)
          | some v => rfl
        have hw : wetN d k = j := by
          rw [wetN_keys d hf.keys (fun p hp => (hf.pend p hp).2.1) k, ← (sortedKeys_perm d.pend).countP_eq, ← hji]
          exact count_below (sortedKeys_lt hf.keys) j hjl
        rw [if_pos ⟨hk, hso⟩, h2, hw]
      · rw [h2, if_neg]
        intro ⟨_, hso⟩
        obtain ⟨v, hv⟩ := Option.isSome_iff_exists.1 hso
        have hm : (k : Int) ∈ sortedKeys d.pend := (sortedKeys_perm d.pend).symm.subset (List.mem_map.2 ⟨_, getE_mem hv, rfl⟩)
        obtain ⟨j, hj, he⟩ := List.mem_iff_getElem.1 hm
        have hjl : j < d.pend.length := by rw [sortedKeys_length] at hj; exact hj
        refine hno j hjl ?_
        rw [List.getD_eq_getElem?_getD, List.getElem?_eq_getElem hj, he]; rfl
  unfold DS.crash
  rw [← hsure, ← hpend, ← hr.2.1]
end Go.Proofs.YtgmeahogdjhejaaGreatDoor
namespace Go.Proofs.YtgmeahogdjhejaaGreatDoor
set_option linter.unusedVariables false
set_option linter.unusedSimpArgs false
open Rf (RefA RM grown row_shape row_len R_store1 infoU8 bytesA)
open Go.RowKit

def Rf.RM.torn (r : RM) (i : Nat) (gv : Value) (xs : List Int) : RM := { r with gs := r.gs.set i gv, age := r.age.set i (r.old.getD i 0), bv := (gv, xs) :: r.bv }
theorem Rf.RM.Ok.torn {r : RM} {e : DS} (h : r.Ok e) {i : Nat} (hi : i < e.sure.length) (hs : (getE e.pend (i : Int)).isSome) (gv : Value) (s : St) (hw : s.wr = (e.sure.getD i St.zero).wr) : (r.torn i gv s.bytes).Ok (e.mid i s) := by
  refine ⟨by simpa [RM.torn, DS.mid] using h.gl, h.sl, ?_, ?_, ?_, h.old, ?_, h.f, h.m⟩
  · intro k hk
    have hk2 : k < r.gs.length := by simpa [RM.torn] using hk
    show ((r.gs.set i gv)[k]'(by simpa using hk2), ((e.mid i s).is k).bytes) ∈ (gv, s.bytes) :: r.bv
    rw [e.mid_is]
    by_cases hki : k = i
    · subst hki; simp
    · rw [if_neg hki, List.getElem_set_ne (by omega)]
      exact List.mem_cons_of_mem _ (h.g k hk2)
  · intro k hk
    exact List.mem_cons_of_mem _ (h.s k hk)
  · show r.age.set i (r.old.getD i 0) = (List.range e.sure.length).map fun (k : Nat) => ((e.mid i s).is k).wr
    have ho : r.old.getD i 0 = s.wr := by
      rw [h.old, hw]
      simp [List.getD_eq_getElem?_getD, hi]
    rw [ho, h.age]
    apply List.ext_getElem
    · simp
    · intro k h1 h2
      simp only [List.getElem_set, List.getElem_map, List.getElem_range, e.mid_is]
      by_cases hki : i = k
      · subst hki; simp
      · rw [if_neg hki, if_neg (fun h => hki h.symm)]
  · show r.wet = (List.range e.sure.length).map fun (k : Nat) => (getE (e.mid i s).pend k).isSome
    rw [h.wet]
    refine List.map_congr_left fun k hk => ?_
    show _ = (getE (((i : Int), s) :: e.pend.filter (fun p => p.1 != (i : Int))) (k : Int)).isSome
    rw [getE_cons]
    by_cases hki : k = i
    · subst hki; simp [hs]
    · rw [if_neg (by simp; omega), getE_filter, if_neg (by omega)]
theorem Rf.RM.Ok.kept {r : RM} {e : DS} (h : r.Ok e) {i : Nat} (hs : (getE e.pend (i : Int)).isSome) : r.Ok (e.mid i (e.is i)) := by
  have his : ∀ k : Nat, (e.mid i (e.is i)).is (k : Int) = e.is (k : Int) := fun k => by
    rw [e.mid_is]
    by_cases hki : k = i
    · subst hki; simp
    · rw [if_neg hki]
  refine ⟨h.gl, h.sl, fun k hk => by rw [his]; exact h.g k hk, h.s, ?_, h.old, ?_, h.f, h.m⟩
  · rw [h.age]
    exact List.map_congr_left fun k _ => by rw [his]
  · show r.wet = (List.range e.sure.length).map fun (k : Nat) => (getE (e.mid i (e.is i)).pend k).isSome
    rw [h.wet]
    refine List.map_congr_left fun k hk => ?_
    show _ = (getE (((i : Int), e.is i) :: e.pend.filter (fun p => p.1 != (i : Int))) (k : Int)).isSome
    rw [getE_cons]
    by_cases hki : k = i
    · subst hki; simp [hs]
    · rw [if_neg (by simp; omega), getE_filter, if_neg (by omega)]

theorem Rf.RM.Ok.blown {r : RM} {e : DS} (h : r.Ok e) : (r.fused (-1)).Ok { e with fuse := -1 } :=
  ⟨h.gl, h.sl, h.g, h.s, h.age, h.old, h.wet, ⟨fun h => by simp at h, fun _ => by show (-1 : Int) < 0; omega, by show _ ≤ (-1 : Int); omega⟩, h.m⟩
theorem cells_u8 (xs : List Int) : cellsOf (encInt .u8) xs = xs.map (Value.int .u8) := by
  induction xs with
  | nil => rfl
  | cons x xs ih => simpa [cellsOf, encInt] using ih
theorem torn_set (nb sb : List Int) (j : Nat) (h1 : j < nb.length) (h2 : j < sb.length) : (cellsOf (encInt .u8) (nb.take j ++ sb.drop j)).set j (.int .u8 nb[j]) = cellsOf (encInt .u8) (nb.take (j + 1) ++ sb.drop (j + 1)) := by
  rw [cells_u8, cells_u8, List.map_append, List.set_append_right _ _ (by simp; omega), List.map_append]
  have h3 : (List.map (Value.int .u8) (nb.take j)).length = j := by simp; omega
  rw [h3, Nat.sub_self, List.drop_eq_getElem_cons h2, List.map_cons, List.set_cons_zero, List.take_add_one, List.getElem?_eq_getElem h1]
  simp only [List.map_cons, List.map_append, List.map_nil, Option.toList_some, List.append_assoc, List.cons_append, List.nil_append]
def TnRel (b : Nat) (L : List Asr) (gn cn : Nat) (nb sb : List Int) (M : Nat → Prop) (w0 : World) (top g : Nat) (vk : Value) (wr : World) : Prop :=
  ∃ j : Nat, vk = .int .i64 (j : Int) ∧ j + g = top ∧ SH M w0 wr (ownA 5 1 (.slice (some ⟨gn, 0, none⟩) 32 cn) 32 (cellsOf (encInt .u8) (nb.take j ++ sb.drop j)) :: L)
theorem kept_eq (keep : Int) (n : Nat) (hn : n < 62) : ((IntKind.u64.wrap keep / 2 ^ n).tmod 2 == 1) = keepBit keep n := by
  have h0 : (0 : Int) ≤ IntKind.u64.wrap keep / 2 ^ n := by
    rw [IntKind.wrap_u64]
    exact Int.ediv_nonneg (by omega) (Int.pow_nonneg (by decide))
  rw [Int.tmod_eq_emod_of_nonneg h0, IntKind.wrap_u64, u64_bit keep n hn]
  unfold keepBit
  rw [Int.toNat_natCast, i64_and1]
def CrRel (b : Nat) (d : DS) (keep torn cut : Int) (M : Nat → Prop) (w0 : World) (g : Nat) (vn vi : Value) (wr : World) : Prop :=
  ∃ (k : Nat) (r : RM), vn = .int .i64 (wetN d k : Nat) ∧ vi = .int .i64 (k : Int) ∧ k + g = d.sure.length ∧ r.Ok (crN d keep torn cut k) ∧ SH M w0 wr (r.L b)
set_option maxRecDepth 100000 in
set_option maxHeartbeats 4000000 in
theorem crashR_any {M : Nat → Prop} {w0 w : World} {b : Nat} {r : RM} {d : DS} (H : SH M w0 w (r.L b)) (hr : r.Ok d) {W : Int} (hf : d.Fine W) (keep torn cut : Int) :
    Calls Tryz.prog 14 #[.pointer (some ⟨b, 0, none⟩), .int .i64 keep, .int .i64 torn, .int .i64 cut] w fun e w' => e = .returned (.tuple #[]) ∧ ∃ r' : RM, r'.Ok (d.crash keep torn cut) ∧ SH M w0 w' (r'.L b) := by
  have HF := Lib.hid hf
  have hl4 := hf.len
  clear hf
  obtain ⟨N, hN⟩ : ∃ N, d.sure.length = N := ⟨_, rfl⟩
  go_enter Tryz.func14, Tryz.ntmps14
  go_wp2
  go_loopg [8, 9] (d.sure.length) (fun g vn vi wr => CrRel b d keep torn cut M w0 g vn vi wr)
  case atStart => exact ⟨0, r, rfl, rfl, by omega, hr, H⟩
  case round =>
    clear H hr r
    obtain ⟨k, r, rfl, rfl, hk, hr, H⟩ := hrel
    have hrl := crN_rest d keep torn cut k
    have hgl : r.gs.length = N := by rw [hr.gl, hrl.2.2, hN]
    have hwl : r.wet.length = N := by rw [hr.wet]; simp [hrl.2.2, hN]
    obtain ⟨hc0, hc1, hc2, hc3, hc4, _, _⟩ := RM.cellsAt (L := []) (by simpa using H)
    obtain ⟨A1, c1, hv1⟩ := row_len (H.get 1 rfl)
    have hwrow : wr.ownsRow 0 4 1 r.v5 (r.wet.map Value.bool).length (r.wet.map Value.bool) := by rw [List.length_map]; exact H.get 5 rfl
    rw [hv1, hgl] at hc0
    rw [hN] at hk hl4
    have hwn := wetN_le d k
    by_cases hkn : k < N
    · have hki : (k : Int) < (N : Int) := by omega
      obtain ⟨g5, c5, hv5, hc5⟩ : ∃ g5 c5, r.v5 = .slice (some ⟨g5, 0, none⟩) N c5 ∧ wr.cell? ⟨g5, k, none⟩ = some (.bool (getE d.pend (k : Int)).isSome) := by
        rcases row_shape hwrow with ⟨h0, _⟩ | ⟨g, c, he, hcell⟩
        · have : r.wet = [] := by simpa using h0
          rw [this] at hwl; simp at hwl; omega
        · refine ⟨g, c, by rw [he, List.length_map, hwl], ?_⟩
          have h1 := (hcell k (by simp; omega)).1
          rw [List.getElem_map] at h1
          rw [h1]
          have h2 := hr.wet
          have h3 := crN_get d keep torn cut k k
          rw [if_neg (by omega)] at h3
          congr 2
          rw [← h3]
          simp [h2]
      rw [hv5] at hc4
      cases hq : (getE d.pend (k : Int)).isSome
      · rw [hq] at hc5
        have HR := Lib.hid hr
        have hw2 := wetN_succ d k
        rw [hq] at hw2
        have hcr : crN d keep torn cut (k + 1) = crN d keep torn cut k := by rw [crN, hq]; rfl
        have HC := Lib.hid (And.intro hw2 hcr)
        clear hr hwrow hgl hwl hrl hv1 hv5 hw2 hcr hq
        go_wp2
        go_roundg (gk - 1)
        case measure => omega
        case rel =>
          clear hc0 hc1 hc2 hc3 hc4 hc5
          refine ⟨k + 1, r, ?_, by go_num, by omega, ?_, H⟩
          · rw [HC.out.1]; simp
          · rw [HC.out.2]; exact HR.out
      · rw [hq] at hc5
        have hnk : ((wetN d k : Nat) : Int) ≤ 4096 := by omega
        have HQ := Lib.hid hq
        have HR := Lib.hid hr
        have HH : Hid (SH M w0 wr (RM.L b r)) := Lib.hid H
        clear hq hr H hrl hgl hwl hwrow hv1 hv5
        obtain ⟨kept, hkept⟩ : ∃ q : Bool, (decide (((wetN d k : Nat) : Int) < 62) && keepBit keep (wetN d k : Nat)) = q := ⟨_, rfl⟩
        have hke := kept_eq keep (wetN d k)
        have hw2 := wetN_succ d k
        rw [HQ.out, if_pos rfl] at hw2
        have HW2 := Lib.hid hw2
        clear hw2
        obtain ⟨n, hn⟩ : ∃ n, wetN d k = n := ⟨_, rfl⟩
        rw [hn] at hwn hnk hkept hke HW2 ⊢
        have HNN : Hid (wetN d k = n) := Lib.hid hn
        clear hn
        go_upto_region 6 with fail
        go_cut [40] from 13 to 98 (fun s40 wc => s40 = .bool kept ∧ wc = wr)
        case first =>
          clear HQ HR HH hc0 hc1 hc2 hc3 hc4 hc5 HF
          by_cases hn : n < 62
          · have hn1 : (n : Int) < 62 := by omega
            have hb := hke hn
            clear hke
            go_wp2
            go_meet
            case rel => exact ⟨by rw [← hkept]; simp [hn1], rfl⟩
          · have hn1 : ¬ (n : Int) < 62 := by omega
            clear hke
            have hk2 : kept = false := by rw [← hkept]; simp [hn1]
            clear hkept
            go_wp2
            go_meet
            case rel => exact ⟨by rw [hk2], rfl⟩
        case rest =>
          obtain ⟨rfl, rfl⟩ := hcut
          clear hke
          go_upto_if 40 with fail
          go_cut [10] from 13 to 98 (fun s10 wc' => s10 = .int .i64 (if kept then 32 else 0) ∧ wc' = wc)
          case first =>
            clear HQ HR HH hc0 hc1 hc2 hc3 hc4 hc5 HF hkept
            cases kept
            · go_wp2
              go_meet
              case rel => exact ⟨rfl, rfl⟩
            · go_wp2
              go_meet
              case rel => exact ⟨rfl, rfl⟩
          case rest =>
            obtain ⟨rfl, rfl⟩ := hcut
            obtain ⟨st0, hst0⟩ : ∃ x : Int, (if kept then 32 else 0) = x := ⟨_, rfl⟩
            rw [hst0]
            go_upto_if 43 with fail
            go_cut [10] from 13 to 98 (fun s10 wc' => s10 = .int .i64 (if (n : Int) = torn then cut else st0) ∧ wc' = wc)
            case first =>
              clear HQ HR HH hc0 hc1 hc2 hc3 hc4 hc5 HF hkept hst0
              by_cases ht : (n : Int) = torn
              · go_wp2
                go_meet
                case rel => exact ⟨by rw [if_pos ht], rfl⟩
              · go_wp2
                go_meet
                case rel => exact ⟨by rw [if_neg ht], rfl⟩
            case rest =>
              obtain ⟨rfl, rfl⟩ := hcut
              obtain ⟨st, hst⟩ : ∃ x : Int, (if (n : Int) = torn then cut else st0) = x := ⟨_, rfl⟩
              rw [hst]
              -- what the sector holds behind it
              have hgk : getE (crN d keep torn cut k).pend (k : Int) = getE d.pend (k : Int) := by
                have h3 := crN_get d keep torn cut k k
                rw [if_neg (by omega)] at h3
                exact h3
              have hsk : (crN d keep torn cut k).sure.getD k St.zero = d.sure.getD k St.zero := by
                have h3 := crN_sure d keep torn cut k (by omega) k
                rw [if_neg (by omega)] at h3
                exact h3
              have hel : (crN d keep torn cut k).sure.length = N := by rw [(crN_rest d keep torn cut k).2.2, hN]
              have hin : (crN d keep torn cut k).is (k : Int) = (getE d.pend (k : Int)).getD St.zero := by
                unfold DS.is
                rw [hgk]
                cases hg : getE d.pend (k : Int) with
                | none => rw [hg] at HQ; exact absurd HQ.out (by simp)
                | some v => rfl
              have hso : ((getE d.pend (k : Int)).getD St.zero).Ok := getE_ok (fun p hp => (HF.out.pend p hp).1) _
              have hdo : (d.sure.getD k St.zero).Ok := getD_ok HF.out.sure k
              have hsurv : surv (d.sure.getD k St.zero) ((getE d.pend (k : Int)).getD St.zero) n keep torn cut = if 32 ≤ st then (getE d.pend (k : Int)).getD St.zero else (d.sure.getD k St.zero).torn ((getE d.pend (k : Int)).getD St.zero) st := by
                unfold surv
                rw [← hst]
                by_cases ht : (n : Int) = torn
                · rw [if_pos ht, if_pos ht]
                · rw [if_neg ht, if_neg ht, ← hst0]
                  cases hkk : kept
                  · rw [hkk] at hkept
                    have hno : ¬ ((n : Int) < 62 ∧ keepBit keep n = true) := by
                      intro ⟨h1, h2⟩
                      simp [h1, h2] at hkept
                    rw [if_neg hno]
                    simp [St.torn]
                  · rw [hkk] at hkept
                    have hyes : ((n : Int) < 62 ∧ keepBit keep n = true) := by simpa using hkept
                    rw [if_pos hyes]
                    simp
              have hcr : crN d keep torn cut (k + 1) = (crN d keep torn cut k).put k (if 32 ≤ st then (getE d.pend (k : Int)).getD St.zero else (d.sure.getD k St.zero).torn ((getE d.pend (k : Int)).getD St.zero) st) := by
                rw [← hsurv, ← HNN.out, crN, if_pos HQ.out]
              have HCR := Lib.hid hcr
              have hgs := HR.out.g k (by rw [HR.out.gl, hel]; exact hkn)
              have hss := HR.out.s k (by rw [HR.out.sl, hel]; exact hkn)
              rw [hin] at hgs
              rw [hsk] at hss
              have hkp := HR.out.kept (i := k) (by rw [hgk]; exact HQ.out)
              rw [hin] at hkp
              have htn := fun gv (s : St) (hs : s.wr = (d.sure.getD k St.zero).wr) => HR.out.torn (i := k) (by rw [hel]; exact hkn) (by rw [hgk]; exact HQ.out) gv s (by rw [hsk]; exact hs)
              clear hcr hsurv hst hst0 hkept hin hsk hgk
              generalize hEq : crN d keep torn cut k = e at *
              clear hEq
              generalize (getE d.pend (k : Int)).getD St.zero = nn at *
              generalize d.sure.getD k St.zero = ss at *
              go_upto_if 46 with fail
              go_cut [] from 13 to 98 (fun wc' => ∃ r2 : RM, r2.Ok (e.mid k (if 32 ≤ st then nn else ss.torn nn st)) ∧ SH M w0 wc' (RM.L b r2))
              case first =>
                by_cases h32 : st < 32
                · have hr := HR.out
                  have H := HH.out
                  have HTN := Lib.hid (fun gv => htn gv (ss.torn nn st) rfl)
                  have e1 : r.gs.length = N := by rw [hr.gl, hel]
                  have e2 : r.ss.length = N := by rw [hr.sl, hel]
                  have e3 : r.age.length = N := by rw [hr.age]; simp [hel]
                  have e4 : r.old.length = N := by rw [hr.old]; simp [hel]
                  have i1 : k < r.gs.length := by omega
                  have i2 : k < r.ss.length := by omega
                  replace hgs : (r.gs[k]'i1, nn.bytes) ∈ r.bv := hgs
                  replace hss : (r.ss[k]'i2, ss.bytes) ∈ r.bv := hss
                  have hrow1 := H.get 1 rfl
                  have hrow2 := H.get 2 rfl
                  have hrow3 := H.get 3 rfl
                  have hrow4 := H.get 4 rfl
                  have hgR := H.get 6 (A := bytesA r.bv) rfl _ hgs
                  have hsR := H.get 6 (A := bytesA r.bv) rfl _ hss
                  clear hr htn hkp HR HH HF HCR HQ hel
                  clear hc0 hc1 hc2 hc3 hc4 hc5
                  obtain ⟨v1, v2, v3, v4, v5, gs, sss, age, old, wet, f, m, bv⟩ := r
                  simp only at e1 e2 e3 e4 i1 i2
                  dsimp only at hgs hss hgR hsR
                  dsimp only at hrow1 hrow2 hrow3 hrow4
                  have shape : ∀ {T : TypeId} {v : Value} {n : Nat} {xs : List Value}, wc.ownsRow 0 T 1 v n xs → 0 < n → ∃ g c, v = .slice (some ⟨g, 0, none⟩) n c := fun h h0 => by
                    rcases h.2 with ⟨_, h1⟩ | ⟨g, c, cur, h1, _⟩
                    · omega
                    · exact ⟨g, c, h1⟩
                  obtain ⟨g1, c1, rfl⟩ := shape hrow1 (by omega)
                  obtain ⟨g2, c2, rfl⟩ := shape hrow2 (by omega)
                  obtain ⟨g3, c3, rfl⟩ := shape hrow3 (by omega)
                  obtain ⟨g4, c4, rfl⟩ := shape hrow4 (by omega)
                  have i3 : k < age.length := by omega
                  have i4 : k < old.length := by omega
                  have j1 : (k : Int) < (gs.length : Int) := by omega
                  have j2 : (k : Int) < (sss.length : Int) := by omega
                  have j3 : (k : Int) < (age.length : Int) := by omega
                  have j4 : (k : Int) < (old.length : Int) := by omega
                  have hcs := World.ownsRow.cellAt hrow2 k (by omega)
                  rw [List.getElem?_eq_getElem i2] at hcs
                  clear hrow1 hrow2 hrow3 hrow4 shape
                  obtain ⟨gv, hgv⟩ : ∃ gv, gs[k] = gv := ⟨_, rfl⟩
                  obtain ⟨sv, hsv⟩ : ∃ sv, sss[k] = sv := ⟨_, rfl⟩
                  obtain ⟨av, hav⟩ : ∃ av, old[k] = av := ⟨_, rfl⟩
                  rw [hgv] at hgR hgs
                  rw [hsv] at hsR hss hcs
                  try dsimp only at hgR hsR
                  obtain ⟨Ab, cb, rfl, _⟩ := hgR.len
                  obtain ⟨As, cs, rfl, _⟩ := hsR.len
                  rw [hso.1] at hgR hgs hgv
                  rw [hdo.1] at hsR hss hsv hcs
                  have HGM := Lib.hid hgs
                  have HSM := Lib.hid hss
                  have HGV := Lib.hid hgv
                  have HAV := Lib.hid hav
                  have HO := Lib.hid (And.intro hso.1 hdo.1)
                  have hnb : (0 + ss.bytes.length) * 1 ≤ 140737488355328 := by rw [hdo.1]; omega
                  have hnm : 0 + ss.bytes.length ≤ maxLen := by rw [hdo.1]; simp only [maxLen]; omega
                  simp only [RM.L, RM.cells] at H
                  have H1 := (H.alloc (.cells #[] 5)).toOwn 0 rfl 1 0 0 (Nat.le_refl _) (Nat.zero_le _) rfl [] rfl
                  simp only [List.set_cons_zero] at H1
                  have hbk := H.at_ 0 rfl
                  have hc1 := cell_of_row wc b 1 _ _ _ hbk
                  have hE := Ext.alloc (fun _ => False) wc (.cells #[] 5)
                  have hc1' := hE.cell hc1 (fun e => e)
                  have hcs' := hE.cell hcs (fun e => e)
                  have HR1 := Lib.hid (H1.get 7 (A := bytesA bv) rfl _ hss)
                  clear hbk hE hgR hsR hgs hss hgv hsv hav hso hdo H
                  go_wp2_with (refine L_append (encInt_len .u8) (encInt_one .u8) rfl rfl Tryz.underlying22 info5 rfl (by decide) H1 0 rfl rfl rfl HR1.out hnb hnm ?_; clear H1; intro v2 w2 H hnn; simp only [List.set_cons_zero, List.nil_append, Nat.zero_add] at H)
                  rw [HO.out.2] at H
                  obtain ⟨gn, cn, rfl⟩ : ∃ gn cn, v2 = .slice (some ⟨gn, 0, none⟩) 32 cn := by
                    rcases (H.get 0 rfl).2 with ⟨_, h1⟩ | ⟨g, c, cur, h1, _⟩
                    · omega
                    · exact ⟨g, c, h1⟩
                  clear hcs hc1 hcs' hc1' HR1 hnn
                  go_loopg [12] (st.toNat) (fun g vk wr' => TnRel b [pt b (.cells #[.slice (some ⟨g1, 0, none⟩) gs.length c1, .slice (some ⟨g2, 0, none⟩) sss.length c2, .slice (some ⟨g3, 0, none⟩) age.length c3, .slice (some ⟨g4, 0, none⟩) old.length c4, v5, .int .i64 f, .int .i64 m] 48 (0, 0)),
                    ownA 22 1 (.slice (some ⟨g1, 0, none⟩) gs.length c1) gs.length gs, ownA 22 1 (.slice (some ⟨g2, 0, none⟩) sss.length c2) sss.length sss, ownA 3 1 (.slice (some ⟨g3, 0, none⟩) age.length c3) age.length (age.map (Value.int .i64)), ownA 3 1 (.slice (some ⟨g4, 0, none⟩) old.length c4) old.length (old.map (Value.int .i64)),
                    ownA 4 1 v5 wet.length (wet.map Value.bool), bytesA bv] gn cn nn.bytes ss.bytes M w0 st.toNat g vk wr')
                  case atStart => exact ⟨0, rfl, by omega, H⟩
                  case round =>
                    clear H
                    obtain ⟨j, rfl, hj, H⟩ := hrel
                    by_cases hjs : (j : Int) < st
                    · have hj32 : j < 32 := by omega
                      have hj32' : (j : Int) < 32 := by omega
                      have hjn : j < nn.bytes.length := by rw [HO.out.1]; exact hj32
                      have hjd : j < ss.bytes.length := by rw [HO.out.2]; exact hj32
                      have hgN := World.ownsRow.cellAt (H.get 2 rfl) k (by omega)
                      rw [List.getElem?_eq_getElem i1, HGV.out] at hgN
                      have hbk := H.at_ 1 rfl
                      have hc0 := cell_of_row wr b 0 _ _ _ hbk
                      have hgR : RdS (encInt .u8) 1 wr (.slice Ab 32 cb) nn.bytes := H.get 7 (A := bytesA bv) rfl _ HGM.out
                      obtain ⟨gb, off, cs, T, fr, rfl, hgk, hcs⟩ := hgR.cell (j := j) hjn
                      have hcell : wr.cell? ⟨gb, off + j, none⟩ = some (.int .u8 nn.bytes[j]) := by
                        have := hcs 0 (by omega)
                        rw [cell_of_row wr gb _ cs T fr hgk]
                        rw [Nat.mul_one, Nat.add_zero] at this
                        rw [this]
                        simp [encInt]
                      obtain ⟨u0, hu0, hf0⟩ := ownCell (H.get 0 rfl) (j := j) hj32
                      have H2 := H.setOwn 0 (.int .u8 nn.bytes[j]) rfl hj32
                      rw [torn_set _ _ j hjn hjd] at H2
                      simp only [List.set_cons_zero] at H2
                      have HH2 := Lib.hid H2
                      obtain ⟨x, hx⟩ : ∃ x, nn.bytes[j] = x := ⟨_, rfl⟩
                      rw [hx] at hcell HH2
                      clear hbk hgk hcs hgR H H2 hx
                      go_wp2
                      go_roundg (gk - 1)
                      case measure => omega
                      case rel => exact ⟨j + 1, by go_num, by omega, HH2.out⟩
                    · have hjt : j = st.toNat := by omega
                      rw [hjt] at H
                      clear hjt hj
                      have HX := H.drop (L' := [_, _]) (List.Sublist.cons _ (List.Sublist.cons_cons _ (List.Sublist.cons _ (List.Sublist.cons _ (List.Sublist.cons _ (List.Sublist.cons_cons _ (List.nil_sublist _)))))))
                      have hl1 : ∀ {w' : World}, SH M w0 w' [pt b (.cells #[.slice (some ⟨g1, 0, none⟩) gs.length c1, .slice (some ⟨g2, 0, none⟩) sss.length c2, .slice (some ⟨g3, 0, none⟩) age.length c3, .slice (some ⟨g4, 0, none⟩) old.length c4, v5, .int .i64 f, .int .i64 m] 48 (0, 0)), ownA 3 1 (.slice (some ⟨g4, 0, none⟩) old.length c4) old.length (old.map (Value.int .i64))] →
                          w'.cell? ⟨g4, k, none⟩ = some (.int .i64 av) := fun h => by
                        have h3 := World.ownsRow.cellAt (h.get 1 rfl) k (by omega)
                        rw [List.getElem?_map, List.getElem?_eq_getElem i4, HAV.out] at h3
                        exact h3
                      go_wp2_with fail
                      refine D_start HX (by kernel_rfl) (fun hS => ?_)
                      try simp only [Act.put, List.setIfInBounds_toArray, List.set_cons_succ, List.set_cons_zero]
                      refine D_take 0 (v := ?_) rfl (by kernel_rfl) (by kernel_rfl) (by kernel_rfl) (fun _ _ _ h => h) rfl (by rfl) (fun W hS => ?_) hS ?_
                      rotate_left; (focus (first | (go_simp; done) | (go_simp; with_reducible rfl) | (go_simp; rfl))); all_goals skip; (try simp only [List.set_cons_succ, List.set_cons_zero])
                      refine D_take 1 (v := ?_) rfl (by kernel_rfl) (by kernel_rfl) (by kernel_rfl) (fun _ _ _ h => h) rfl (by rfl) (fun W hS => ?_) hS ?_
                      rotate_left; (focus (first | (go_simp; done) | (go_simp; with_reducible rfl) | (go_simp; rfl))); all_goals skip; (try simp only [List.set_cons_succ, List.set_cons_zero])
                      refine D_take 2 (v := ?_) rfl (by kernel_rfl) (by kernel_rfl) (by kernel_rfl) (fun _ _ _ h => h) rfl (by rfl) (fun W hS => ?_) hS ?_
                      rotate_left; (focus (first | (go_simp; done) | (go_simp; with_reducible rfl) | (go_simp; rfl))); all_goals skip; (try simp only [List.set_cons_succ, List.set_cons_zero])
                      refine D_take 3 (v := ?_) rfl (by kernel_rfl) (by kernel_rfl) (by kernel_rfl) (fun _ _ _ h => h) rfl (by rfl) (fun W hS => ?_) hS ?_
                      rotate_left; (focus (first | (refine R_load1 (ty := 33) (x := Operand.tmp 76) rfl hS 0 rfl rfl ?_ Tryz.isAgg33; rfl))); all_goals skip; (try simp only [List.set_cons_succ, List.set_cons_zero, List.getElem_toArray, List.getElem_cons_succ, List.getElem_cons_zero])
                      refine D_take 4 (v := ?_) rfl (by kernel_rfl) (by kernel_rfl) (by kernel_rfl) (fun _ _ _ h => h) rfl (by rfl) (fun W hS => ?_) hS ?_
                      rotate_left; (focus (first | (go_simp; done) | (go_simp; with_reducible rfl) | (go_simp; rfl))); all_goals skip; (try simp only [List.set_cons_succ, List.set_cons_zero])
                      refine D_take 5 (v := ?_) rfl (by kernel_rfl) (by kernel_rfl) (by kernel_rfl) (fun _ _ _ h => h) rfl (by rfl) (fun W hS => ?_) hS ?_
                      rotate_left; (focus (first | (go_simp; done) | (go_simp; with_reducible rfl) | (go_simp; rfl))); all_goals skip; (try simp only [List.set_cons_succ, List.set_cons_zero])
                      refine D_take 6 (v := ?_) rfl (by kernel_rfl) (by kernel_rfl) (by kernel_rfl) (fun _ _ _ h => h) rfl (by rfl) (fun W hS => ?_) hS ?_
                      rotate_left; (focus (first | (go_simp; done) | (go_simp; with_reducible rfl) | (go_simp; rfl))); all_goals skip; (try simp only [List.set_cons_succ, List.set_cons_zero])
                      refine D_take 7 (v := ?_) rfl (by kernel_rfl) (by kernel_rfl) (by kernel_rfl) (fun _ _ _ h => h) rfl (by rfl) (fun W hS => ?_) hS ?_
                      rotate_left; (focus (first | (go_simp; done) | (go_simp; with_reducible rfl) | (go_simp; rfl))); all_goals skip; (try simp only [List.set_cons_succ, List.set_cons_zero])
                      refine D_take 8 (v := ?_) rfl (by kernel_rfl) (by kernel_rfl) (by kernel_rfl) (fun _ _ _ h => h) rfl (by rfl) (fun W hS => ?_) hS ?_
                      rotate_left; (focus (first | (refine R_load1 (ty := 45) (x := Operand.tmp 81) rfl hS 0 rfl rfl ?_ Tryz.isAgg45; rfl))); all_goals skip; (try simp only [List.set_cons_succ, List.set_cons_zero, List.getElem_toArray, List.getElem_cons_succ, List.getElem_cons_zero])
                      refine D_take 9 (v := ?_) rfl (by kernel_rfl) (by kernel_rfl) (by kernel_rfl) (fun _ _ _ h => h) rfl (by rfl) (fun W hS => ?_) hS ?_
                      rotate_left; (focus (first | (go_simp; done) | (go_simp; with_reducible rfl) | (go_simp; rfl))); all_goals skip; (try simp only [List.set_cons_succ, List.set_cons_zero])
                      refine D_take 10 (v := ?_) rfl (by kernel_rfl) (by kernel_rfl) (by kernel_rfl) (fun _ _ _ h => h) rfl (by rfl) (fun W hS => ?_) hS ?_
                      rotate_left; (focus (first | (go_simp; done) | (go_simp; with_reducible rfl) | (go_simp; rfl))); all_goals skip; (try simp only [List.set_cons_succ, List.set_cons_zero])
                      refine D_take 11 (v := ?_) rfl (by kernel_rfl) (by kernel_rfl) (by kernel_rfl) (fun _ _ _ h => h) rfl (by rfl) (fun W hS => ?_) hS ?_
                      rotate_left; (focus (first | (go_simp; done) | (go_simp; with_reducible rfl) | (go_simp; rfl))); all_goals skip; (try simp only [List.set_cons_succ, List.set_cons_zero])
                      refine D_take 12 (v := ?_) rfl (by kernel_rfl) (by kernel_rfl) (by kernel_rfl) (fun _ _ _ h => h) rfl (by rfl) (fun W hS => ?_) hS ?_
                      rotate_left; (focus (first | (go_simp; done) | (go_simp; with_reducible rfl) | (go_simp; rfl))); all_goals skip; (try simp only [List.set_cons_succ, List.set_cons_zero])
                      refine D_take 13 (v := ?_) rfl (by kernel_rfl) (by kernel_rfl) (by kernel_rfl) (fun _ _ _ h => h) rfl (by rfl) (fun W hS => ?_) hS ?_
                      rotate_left; (focus (first | (go_simp; done) | (go_simp; with_reducible rfl) | (go_simp; rfl))); all_goals skip; (try simp only [List.set_cons_succ, List.set_cons_zero])
                      refine D_take 14 (v := ?_) rfl (by kernel_rfl) (by kernel_rfl) (by kernel_rfl) (fun _ _ _ h => h) rfl (by rfl) (fun W hS => ?_) hS ?_
                      rotate_left; (focus (first | (refine R_load1 (ty := 45) (x := Operand.tmp 87) rfl hS 0 rfl rfl ?_ Tryz.isAgg45; rfl))); all_goals skip; (try simp only [List.set_cons_succ, List.set_cons_zero, List.getElem_toArray, List.getElem_cons_succ, List.getElem_cons_zero])
                      refine D_take 15 (v := ?_) rfl (by kernel_rfl) (by kernel_rfl) (by kernel_rfl) (fun _ _ _ h => h) rfl (by rfl) (fun W hS => ?_) hS ?_
                      rotate_left; (focus (first | (go_simp; done) | (go_simp; with_reducible rfl) | (go_simp; rfl))); all_goals skip; (try simp only [List.set_cons_succ, List.set_cons_zero])
                      refine D_take 16 (v := ?_) rfl (by kernel_rfl) (by kernel_rfl) (by kernel_rfl) (fun _ _ _ h => h) rfl (by rfl) (fun W hS => ?_) hS ?_
                      rotate_left; (focus (first | (go_simp; done) | (go_simp; with_reducible rfl) | (go_simp; rfl))); all_goals skip; (try simp only [List.set_cons_succ, List.set_cons_zero])
                      refine D_take 17 (v := (.int .i64 av)) rfl (by kernel_rfl) (by kernel_rfl) (by kernel_rfl) (fun _ _ _ h => h) rfl (by rfl) (fun W hS => R_loadCell' (ty := 3) (x := .tmp 90) (p := ⟨g4, k, none⟩) rfl rfl (hl1 hS) Tryz.isAgg3) hS ?_; (try simp only [List.set_cons_succ, List.set_cons_zero])
                      refine D_take 18 (v := ?_) rfl (by kernel_rfl) (by kernel_rfl) (by kernel_rfl) (fun _ _ _ h => h) rfl (by rfl) (fun W hS => ?_) hS ?_
                      rotate_left; (focus (first | (go_simp; done) | (go_simp; with_reducible rfl) | (go_simp; rfl))); all_goals skip; (try simp only [List.set_cons_succ, List.set_cons_zero])
                      refine D_one 19 rfl (by kernel_rfl) (by rfl) ?_
                      have HW := H.drew
                      obtain ⟨u1, hu1, hf1⟩ := ownCell (HW.get 2 rfl) i1
                      have HW1 := HW.setOwn 2 (.slice (some ⟨gn, 0, none⟩) 32 cn) rfl i1
                      simp only [List.set_cons_succ, List.set_cons_zero] at HW1
                      clear hS
                      have hS := HW1.drop (L' := [_, _]) (List.Sublist.cons _ (List.Sublist.cons_cons _ (List.Sublist.cons _ (List.Sublist.cons _ (List.Sublist.cons _ (List.Sublist.cons_cons _ (List.nil_sublist _)))))))
                      refine wp_of_skip (R_store1 (ty := 22) (x := .tmp 92) (y := .tmp 84) (g := g1) (j := k) (v := .slice (some ⟨gn, 0, none⟩) 32 cn) rfl rfl rfl rfl rfl hu1 hf1 Tryz.sizeOf22) ⟨hS, ?_⟩
                      try simp only [Act.put, List.getElem_toArray, List.getElem_cons_succ, List.getElem_cons_zero, List.setIfInBounds_toArray, List.set_cons_succ, List.set_cons_zero]
                      refine D_take 20 (v := ?_) rfl (by kernel_rfl) (by kernel_rfl) (by kernel_rfl) (fun _ _ _ h => h) rfl (by rfl) (fun W hS => ?_) hS ?_
                      rotate_left; (focus (first | (go_simp; done) | (go_simp; with_reducible rfl) | (go_simp; rfl))); all_goals skip; (try simp only [List.set_cons_succ, List.set_cons_zero])
                      refine D_one 21 rfl (by kernel_rfl) (by rfl) ?_
                      obtain ⟨u3, hu3, hf3⟩ := ownCell (HW1.get 4 rfl) i3
                      have HW2 := HW1.setOwn 4 (.int .i64 av) rfl i3
                      simp only [List.set_cons_succ, List.set_cons_zero] at HW2
                      clear hS
                      have hS := HW2.drop (L' := [_, _]) (List.Sublist.cons _ (List.Sublist.cons_cons _ (List.Sublist.cons _ (List.Sublist.cons _ (List.Sublist.cons _ (List.Sublist.cons_cons _ (List.nil_sublist _)))))))
                      refine wp_of_skip (R_store1 (ty := 3) (x := .tmp 93) (y := .tmp 91) (g := g3) (j := k) (v := .int .i64 av) rfl rfl rfl rfl rfl hu3 hf3 Tryz.sizeOf3) ⟨hS, ?_⟩
                      try simp only [Act.put, List.getElem_toArray, List.getElem_cons_succ, List.getElem_cons_zero, List.setIfInBounds_toArray, List.set_cons_succ, List.set_cons_zero]
                      refine wpAnyH_done (by kernel_rfl) ?_ _
                      go_wp2_with fail
                      go_meet
                      case rel =>
                        rw [if_neg (show ¬ 32 ≤ st by omega)]
                        refine ⟨_, HTN.out (.slice (some ⟨gn, 0, none⟩) 32 cn), ?_⟩
                        have hown := RdS.own (encInt_len .u8) (by simp [HO.out.1, HO.out.2]; omega) (HW2.get 0 rfl)
                        have hbv := HW2.get 7 rfl
                        have HF := SH.merge (L1 := [_, _, _, _, _, _]) HW2 (bytesA ((.slice (some ⟨gn, 0, none⟩) 32 cn, nn.bytes.take st.toNat ++ ss.bytes.drop st.toNat) :: bv)) (fun p hp => by
                          rcases List.mem_cons.1 hp with rfl | hp
                          · exact hown
                          · exact hbv p hp) (fun i hi => by
                          obtain ⟨p, hp, off, n, c, he⟩ := hi
                          rcases List.mem_cons.1 hp with rfl | hp
                          · left
                            simp only [Value.slice.injEq, Option.some.injEq, Addr.mk.injEq] at he
                            show Value.ownBlock _ = some i
                            simp [Value.ownBlock, he.1.1]
                          · exact .inr ⟨p, hp, off, n, c, he⟩)
                        simp only [RM.L, RM.cells, RM.torn, List.length_set, List.map_set, St.torn]
                        rw [show old.getD k 0 = av by rw [List.getD_eq_getElem?_getD, List.getElem?_eq_getElem i4, HAV.out]; rfl]
                        exact HF
                · have HKP := Lib.hid hkp
                  clear HR hgs hss hkp htn HCR hc0 hc1 hc2 hc3 hc4 hc5
                  go_wp2
                  go_meet
                  case rel => exact ⟨r, by rw [if_pos (by omega)]; exact HKP.out, HH.out⟩
              case rest =>
                obtain ⟨r2, hr2, H2⟩ := hcut
                have hml : (e.mid k (if 32 ≤ st then nn else ss.torn nn st)).sure.length = N := hel
                have hset := settle_any H2 hr2 (by rw [hml]; exact hl4) k (by rw [hml]; exact hkn)
                have hok := hr2.settle (i := k) (by rw [hml]; exact hkn)
                rw [DS.mid_settle, ← HCR.out] at hok
                have HOK := Lib.hid hok
                clear HR hgs hss hkp htn HCR hc0 hc1 hc2 hc3 hc4 hc5 hok hr2 H2 HQ HH HF hel
                go_wp2_with (go_at_call 46; refine hset.mono ?_; rintro e2 w2 ⟨rfl, H⟩)
                go_roundg (gk - 1)
                case measure => omega
                case rel =>
                  refine ⟨k + 1, r2.settle k, ?_, by go_num, by omega, HOK.out, H⟩
                  rw [HW2.out]; go_num
    · obtain rfl : k = N := by omega
      have hok := hr.blown
      rw [← hN, crN_crash HF.out] at hok
      have HOK := Lib.hid hok
      have hbk := H.at_ 0 rfl
      have hc5' := cell_of_row wr b 5 _ _ _ hbk
      have hf5 := frozen_of_row wr b 5 _ _ hbk
      have H5 := H.setCell (off := 5) 0 (.int .i64 (-1)) rfl
      have HH5 : Hid (SH M w0 (wr.setCell ⟨b, 5, none⟩ (.int .i64 (-1))) ((r.fused (-1)).L b)) := Lib.hid H5
      clear hr hok hbk H H5 hrl hgl hwl hwrow hv1 HF
      go_wp2
      go_end0
      exact ⟨rfl, _, HOK.out, HH5.out⟩
/-- Crash, whatever the arguments. -/
theorem refCrash_any {b : Nat} {S : Nat → Prop} {d : DS} {W : Int} {w : World} (h : (RefA b S d).says w) (hf : d.Fine W) (keep torn cut : Int) :
    Calls Tryz.prog 14 #[.pointer (some ⟨b, 0, none⟩), .int .i64 keep, .int .i64 torn, .int .i64 cut] w fun e w' => e = .returned (.tuple #[]) ∧ Ext S w w' ∧ (RefA b (grown S w w') (d.crash keep torn cut)).says w' := by
  obtain ⟨r, hr, H⟩ := RefA.opens h
  have hlt := RefA.lt h
  exact (crashR_any H hr hf keep torn cut).mono fun e w' ⟨he, r', hr', H'⟩ => ⟨he, H'.ext, RefA.closes hlt H' hr'⟩
end Go.Proofs.YtgmeahogdjhejaaGreatDoor
