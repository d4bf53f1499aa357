/- The document's crash, the plain law: sector by sector it comes to the same. No call. -/
import Derived.Test.YtjdfeagjbhdceaaRefE
namespace Go.Proofs.Ytjdfeagjbhdceaa
set_option linter.unusedVariables false
set_option linter.unusedSimpArgs false
open Go.RowKit

theorem sortedKeys_nodup' {V : Type} {es : List (Int × V)} (h : (es.map (·.1)).Nodup) : (sortedKeys es).Nodup := (sortedKeys_perm es).nodup_iff.2 h
theorem crash_at' {d : DS} {W : Int} (hf : d.Fine W) (keep torn cut : Int) {i : Nat} (hi : i < d.sure.length) : ∀ k, k ≤ d.pend.length →
    (∃ j : Nat, j < k ∧ (sortedKeys d.pend).getD j 0 = (i : Int) ∧ (crashTo d keep torn cut k).getD i St.zero = surv (d.sure.getD i St.zero) ((getE d.pend (i : Int)).getD St.zero) j keep torn cut) ∨
    ((∀ j : Nat, j < k → (sortedKeys d.pend).getD j 0 ≠ (i : Int)) ∧ (crashTo d keep torn cut k).getD i St.zero = d.sure.getD i St.zero)
  | 0, _ => .inr ⟨fun j hj => absurd hj (by omega), rfl⟩
  | k + 1, hk => by
    have ih := crash_at' hf keep torn cut hi k (by omega)
    have hlen := crashTo_length d keep torn cut k
    rw [crashTo_succ]
    obtain ⟨v, hv⟩ := sortedKeys_at d.pend k (by omega)
    have hr := (hf.pend _ hv).2
    have hnd := sortedKeys_nodup' hf.keys
    have hsl := sortedKeys_length d.pend
    by_cases he : (sortedKeys d.pend).getD k 0 = (i : Int)
    · left
      refine ⟨k, by omega, he, ?_⟩
      have hprev : (crashTo d keep torn cut k).getD i St.zero = d.sure.getD i St.zero := by
        rcases ih with ⟨j, hj, hji, _⟩ | ⟨_, h⟩
        · exfalso
          have hne := List.pairwise_iff_getElem.1 hnd j k (by omega) (by omega) hj
          refine hne ?_
          rw [List.getD_eq_getElem?_getD, List.getElem?_eq_getElem (by omega), Option.getD_some] at hji he
          rw [hji, he]
        · exact h
      rw [he, Int.toNat_natCast, hprev, List.getD_eq_getElem?_getD, List.getElem?_set_self (by omega)]
      rfl
    · have hne : ((sortedKeys d.pend).getD k 0).toNat ≠ i := by dsimp only at hr; omega
      have hset : ∀ s, ((crashTo d keep torn cut k).set ((sortedKeys d.pend).getD k 0).toNat s).getD i St.zero = (crashTo d keep torn cut k).getD i St.zero := fun s => by
        rw [List.getD_eq_getElem?_getD, List.getElem?_set_ne hne, ← List.getD_eq_getElem?_getD]
      rw [hset]
      rcases ih with ⟨j, hj, h1, h2⟩ | ⟨h1, h2⟩
      · exact .inl ⟨j, by omega, h1, h2⟩
      · refine .inr ⟨fun j hj => ?_, h2⟩
        by_cases hjk : j = k
        · subst hjk; exact he
        · exact h1 j (by omega)

theorem i64_and1 (n : Int) : bits .and .i64 n 1 = n % 2 := by
  have h127 : (BitVec.ofInt 64 1).toNat = 2 ^ 1 - 1 := by decide
  have key : (BitVec.ofInt 64 n &&& BitVec.ofInt 64 1).toNat = (n % ((2 ^ 64 : Nat) : Int)).toNat % 2 ^ 1 := by
    rw [BitVec.toNat_and, BitVec.toNat_ofInt, h127, Nat.and_two_pow_sub_one_eq_mod]
  show IntKind.i64.wrap ((BitVec.ofInt 64 n &&& BitVec.ofInt 64 1).toNat : Nat) = n % 2
  rw [key, IntKind.wrap_i64]
  omega
theorem u64_bit (keep : Int) (n : Nat) (hn : n < 62) : keep % 18446744073709551616 / 2 ^ n % 2 = keep / 2 ^ n % 2 := by
  have hp : (0 : Int) < 2 ^ n := Int.pow_pos (by decide)
  obtain ⟨m, hm⟩ : ∃ m, 64 = n + 1 + m := ⟨63 - n, by omega⟩
  have he : (18446744073709551616 : Int) = 2 ^ n * (2 * 2 ^ m) := by
    rw [show (18446744073709551616 : Int) = 2 ^ 64 from rfl, hm, Int.pow_add, Int.pow_add]
    rw [Int.pow_one, Int.mul_assoc]
  have h1 : keep % 18446744073709551616 = keep - 2 ^ n * (2 * 2 ^ m) * (keep / 18446744073709551616) := by
    rw [← he]; omega
  rw [h1, show keep - 2 ^ n * (2 * 2 ^ m) * (keep / 18446744073709551616) = keep + 2 ^ n * (2 * (2 ^ m * -(keep / 18446744073709551616))) by
    rw [Int.mul_neg, Int.mul_neg, Int.mul_neg, Int.mul_assoc, Int.mul_assoc]; rfl]
  rw [Int.add_mul_ediv_left _ _ (by omega)]
  omega
/-- How many are pending below i. -/
def wetN (d : DS) (i : Nat) : Nat := ((List.range i).map fun (k : Nat) => (getE d.pend (k : Int)).isSome).countP id
theorem wetN_succ (d : DS) (i : Nat) : wetN d (i + 1) = wetN d i + (if (getE d.pend (i : Int)).isSome then 1 else 0) := by
  unfold wetN
  rw [List.range_succ, List.map_append, List.countP_append]
  simp [List.countP_cons]
theorem wetN_le (d : DS) (i : Nat) : wetN d i ≤ i := by
  unfold wetN
  refine Nat.le_trans List.countP_le_length (by simp)
def DS.put (d : DS) (i : Nat) (s : St) : DS := { d with sure := d.sure.set i s, pend := d.pend.filter (fun p => p.1 != (i : Int)) }
def DS.mid (d : DS) (i : Nat) (s : St) : DS := { d with pend := ((i : Int), s) :: d.pend.filter (fun p => p.1 != (i : Int)) }
theorem DS.mid_is (d : DS) (i k : Nat) (s : St) : (d.mid i s).is (k : Int) = if k = i then s else d.is (k : Int) := by
  unfold DS.is DS.mid
  simp only [getE_cons, getE_filter]
  by_cases h : k = i
  · subst h; simp
  · rw [if_neg (by omega), if_neg (by omega), if_neg h]
theorem DS.mid_settle (d : DS) (i : Nat) (s : St) : (d.mid i s).settle i = d.put i s := by
  unfold DS.settle
  rw [d.mid_is i i s, if_pos rfl]
  unfold DS.mid DS.put
  simp [List.filter_filter]
/-- The document's crash, as far as sector i. -/
def crN (d : DS) (keep torn cut : Int) : Nat → DS
  | 0 => d
  | i + 1 => if (getE d.pend (i : Int)).isSome then (crN d keep torn cut i).put i (surv (d.sure.getD i St.zero) ((getE d.pend (i : Int)).getD St.zero) (wetN d i) keep torn cut) else crN d keep torn cut i
theorem crN_rest (d : DS) (keep torn cut : Int) : ∀ i, (crN d keep torn cut i).fuse = d.fuse ∧ (crN d keep torn cut i).writes = d.writes ∧ (crN d keep torn cut i).sure.length = d.sure.length
  | 0 => ⟨rfl, rfl, rfl⟩
  | i + 1 => by
    have ih := crN_rest d keep torn cut i
    unfold crN
    split
    · exact ⟨ih.1, ih.2.1, by show (List.set _ _ _).length = _; rw [List.length_set]; exact ih.2.2⟩
    · exact ih
theorem crN_get (d : DS) (keep torn cut : Int) (k : Nat) : ∀ i, getE (crN d keep torn cut i).pend (k : Int) = if k < i then none else getE d.pend (k : Int)
  | 0 => by rw [if_neg (by omega)]; rfl
  | i + 1 => by
    have ih := crN_get d keep torn cut k i
    unfold crN
    split
    · show getE (List.filter _ _) _ = _
      rw [getE_filter, ih]
      by_cases hk : k = i
      · subst hk; simp
      · rw [if_neg (by omega)]
        by_cases h2 : k < i
        · rw [if_pos h2, if_pos (by omega)]
        · rw [if_neg h2, if_neg (by omega)]
    · rename_i hno
      rw [ih]
      by_cases hk : k = i
      · subst hk
        simp at hno
        simp [hno]
      · by_cases h2 : k < i
        · rw [if_pos h2, if_pos (by omega)]
        · rw [if_neg h2, if_neg (by omega)]
theorem crN_sure (d : DS) (keep torn cut : Int) (k : Nat) (hk : k < d.sure.length) : ∀ i, (crN d keep torn cut i).sure.getD k St.zero = if k < i ∧ (getE d.pend (k : Int)).isSome then surv (d.sure.getD k St.zero) ((getE d.pend (k : Int)).getD St.zero) (wetN d k) keep torn cut else d.sure.getD k St.zero
  | 0 => by rw [if_neg (by omega)]; rfl
  | i + 1 => by
    have ih := crN_sure d keep torn cut k hk i
    have hl := (crN_rest d keep torn cut i).2.2
    unfold crN
    split
    · rename_i hyes
      show (List.set _ _ _).getD _ _ = _
      by_cases h2 : k = i
      · subst h2
        rw [if_pos ⟨by omega, hyes⟩, List.getD_eq_getElem?_getD, List.getElem?_set_self (by omega)]
        rfl
      · rw [List.getD_eq_getElem?_getD, List.getElem?_set_ne (by omega), ← List.getD_eq_getElem?_getD, ih]
        by_cases h3 : k < i ∧ (getE d.pend (k : Int)).isSome
        · rw [if_pos h3, if_pos ⟨by omega, h3.2⟩]
        · rw [if_neg h3, if_neg (fun h => h3 ⟨by omega, h.2⟩)]
    · rename_i hno
      rw [ih]
      by_cases h3 : k < i ∧ (getE d.pend (k : Int)).isSome
      · rw [if_pos h3, if_pos ⟨by omega, h3.2⟩]
      · rw [if_neg h3, if_neg (fun h => h3 ⟨by
          by_cases h4 : k = i
          · subst h4; exact absurd h.2 hno
          · omega, h.2⟩)]
theorem crN_mem (d : DS) (keep torn cut : Int) (i : Nat) : ∀ p ∈ (crN d keep torn cut i).pend, p ∈ d.pend := by
  induction i with
  | zero => exact fun p hp => hp
  | succ i ih =>
    intro p hp
    unfold crN at hp
    split at hp
    · exact ih p (List.mem_filter.1 hp).1
    · exact ih p hp
theorem count_below {l : List Int} (h : l.Pairwise (· < ·)) (j : Nat) (hj : j < l.length) : l.countP (fun x => decide (x < l[j])) = j := by
  have h1 : l = l.take j ++ l.drop j := (List.take_append_drop j l).symm
  have h2 := List.pairwise_iff_getElem.1 h
  generalize hx : l[j] = x
  have h3 : (l.take j).countP (fun y => decide (y < x)) = j := by
    rw [List.countP_eq_length.2 (fun y hy => ?_), List.length_take]
    · omega
    · obtain ⟨k, hk, rfl⟩ := List.mem_iff_getElem.1 hy
      rw [List.length_take] at hk
      rw [List.getElem_take, ← hx]
      simpa using h2 k j (by omega) hj (by omega)
  have h4 : (l.drop j).countP (fun y => decide (y < x)) = 0 := by
    rw [List.countP_eq_zero]
    intro y hy
    obtain ⟨k, hk, rfl⟩ := List.mem_iff_getElem.1 hy
    rw [List.length_drop] at hk
    rw [List.getElem_drop, ← hx]
    by_cases hk0 : k = 0
    · subst hk0; simp
    · have := h2 j (j + k) hj (by omega) (by omega)
      simp; omega
  conv => lhs; rw [h1]
  rw [List.countP_append, h3, h4]
  rfl
theorem sortedKeys_lt {es : List (Int × St)} (h : (es.map (·.1)).Nodup) : (sortedKeys es).Pairwise (· < ·) := by
  have h1 : (sortedKeys es).Pairwise (fun x y => decide (x ≤ y) = true) := List.pairwise_mergeSort (by intro a b c; simp; omega) (by intro a b; simp; omega) _
  have h2 : (sortedKeys es).Pairwise (· ≠ ·) := sortedKeys_nodup' h
  refine (h1.and h2).imp ?_
  intro a b hab
  have := hab.1
  have := hab.2
  simp only [decide_eq_true_eq] at *
  omega
theorem wetN_keys (d : DS) (hn : (d.pend.map (·.1)).Nodup) (hp : ∀ p ∈ d.pend, 0 ≤ p.1) (i : Nat) : wetN d i = (d.pend.map (·.1)).countP (fun x => decide (x < (i : Int))) := by
  have h1 := count_filter (d.pend.filter (fun p => decide (p.1 < (i : Int)))) i ((List.filter_sublist.map _).nodup hn) (fun p hp' => by
    obtain ⟨h1, h2⟩ := List.mem_filter.1 hp'
    have := hp p h1
    simp only [decide_eq_true_eq] at h2
    omega)
  have h2 : ((List.range i).map fun (k : Nat) => (getE (d.pend.filter (fun p => decide (p.1 < (i : Int)))) (k : Int)).isSome) = (List.range i).map fun (k : Nat) => (getE d.pend (k : Int)).isSome :=
    List.map_congr_left fun k hk => by
      have hk := List.mem_range.1 hk
      cases hg : getE d.pend (k : Int) with
      | none =>
        rw [getE_none.2 (fun hm => ?_)]
        · obtain ⟨p, hp1, hp2⟩ := List.mem_map.1 hm
          exact getE_none.1 hg (List.mem_map.2 ⟨p, (List.mem_filter.1 hp1).1, hp2⟩)
      | some v =>
        rw [getE_of_mem (v := v) ((List.filter_sublist.map _).nodup hn) (List.mem_filter.2 ⟨getE_mem hg, by simp; omega⟩)]
  rw [h2] at h1
  unfold wetN
  rw [h1, ← List.countP_eq_length_filter, List.countP_map]
  rfl
/-- Sector by sector, or by the keys in order: the same. -/
theorem crN_crash {d : DS} {W : Int} (hf : d.Fine W) (keep torn cut : Int) : { crN d keep torn cut d.sure.length with fuse := -1 } = d.crash keep torn cut := by
  have hr := crN_rest d keep torn cut d.sure.length
  have hpend : (crN d keep torn cut d.sure.length).pend = [] := by
    apply List.eq_nil_iff_forall_not_mem.2
    intro p hp
    have hm := crN_mem d keep torn cut _ p hp
    have hb := (hf.pend p hm).2
    obtain ⟨k, hk⟩ := Int.eq_ofNat_of_zero_le hb.1
    have hg := crN_get d keep torn cut k d.sure.length
    rw [if_pos (by omega)] at hg
    exact getE_none.1 hg (List.mem_map.2 ⟨p, hp, hk⟩)
  have hsure : (crN d keep torn cut d.sure.length).sure = crashTo d keep torn cut d.pend.length := by
    apply List.ext_getElem
    · rw [hr.2.2, crashTo_length]
    · intro k hk1 hk2
      have hk : k < d.sure.length := by rw [hr.2.2] at hk1; exact hk1
      have h1 := crN_sure d keep torn cut k hk d.sure.length
      rw [List.getD_eq_getElem?_getD, List.getElem?_eq_getElem hk1, Option.getD_some] at h1
      rw [h1]
      have h3 : (crashTo d keep torn cut d.pend.length)[k] = (crashTo d keep torn cut d.pend.length).getD k St.zero := by
        rw [List.getD_eq_getElem?_getD, List.getElem?_eq_getElem hk2]; rfl
      rw [h3]
      rcases crash_at' hf keep torn cut hk d.pend.length (Nat.le_refl _) with ⟨j, hj, hji, h2⟩ | ⟨hno, h2⟩
      · have hjl : j < (sortedKeys d.pend).length := by rw [sortedKeys_length]; exact hj
        rw [List.getD_eq_getElem?_getD, List.getElem?_eq_getElem hjl, Option.getD_some] at hji
        have hmem : (k : Int) ∈ d.pend.map (·.1) := (sortedKeys_perm d.pend).subset (hji ▸ List.getElem_mem hjl)
        have hso : (getE d.pend (k : Int)).isSome := by
          cases hg : getE d.pend (k : Int) with
          | none => exact absurd hmem (getE_none.1 hg)
          | some v => rfl
        have hw : wetN d k = j := by
          rw [wetN_keys d hf.keys (fun p hp => (hf.pend p hp).2.1) k, ← (sortedKeys_perm d.pend).countP_eq, ← hji]
          exact count_below (sortedKeys_lt hf.keys) j hjl
        rw [if_pos ⟨hk, hso⟩, h2, hw]
      · rw [h2, if_neg]
        intro ⟨_, hso⟩
        obtain ⟨v, hv⟩ := Option.isSome_iff_exists.1 hso
        have hm : (k : Int) ∈ sortedKeys d.pend := (sortedKeys_perm d.pend).symm.subset (List.mem_map.2 ⟨_, getE_mem hv, rfl⟩)
        obtain ⟨j, hj, he⟩ := List.mem_iff_getElem.1 hm
        have hjl : j < d.pend.length := by rw [sortedKeys_length] at hj; exact hj
        refine hno j hjl ?_
        rw [List.getD_eq_getElem?_getD, List.getElem?_eq_getElem hj, he]; rfl
  unfold DS.crash
  rw [← hsure, ← hpend, ← hr.2.1]
end Go.Proofs.Ytjdfeagjbhdceaa
