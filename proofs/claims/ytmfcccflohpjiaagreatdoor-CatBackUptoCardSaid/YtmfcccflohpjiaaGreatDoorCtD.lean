/- Catalogues: the plain laws: bytes are read back, what is put in is found, taken away it is not; the fixed fact's entries. -/
import Derived.Test.YtmfcccflohpjiaaGreatDoorCtC
import Derived.Test.YtmfcccflohpjiaaGreatDoorCtA
namespace Go.Proofs.YtmfcccflohpjiaaGreatDoor
set_option linter.unusedVariables false
set_option linter.unusedSimpArgs false
open Go.RowKit

def Rng (n : Int) : Prop := -9223372036854775808 ≤ n ∧ n ≤ 9223372036854775807
theorem num8_be8 {n : Int} (h : Rng n) : num8 (be8 n) = n := by
  unfold num8 be8
  simp only [List.foldl_cons, List.foldl_nil]
  rw [IntKind.wrap_i64]
  obtain ⟨h1, h2⟩ := h
  omega
theorem rdN_be8 {n : Int} (h : Rng n) (r : List Int) : rdN (some (be8 n ++ r)) = (n, some r) := by
  unfold rdN
  simp only
  rw [if_neg (by rw [List.length_append, be8_len]; omega), List.take_left' (be8_len n), List.drop_left' (be8_len n), num8_be8 h]
theorem rdW_be2 {w : List Int} (h : w.length ≤ 32) (r : List Int) : rdW 32 (some (be2 w.length ++ (w ++ r))) = (w, some r) := by
  unfold rdW be2
  have h0 : ((w.length : Int) / 256 % 256) * 256 + (w.length : Int) % 256 = (w.length : Int) := by omega
  simp only [List.cons_append, List.nil_append, List.length_cons, List.length_append, List.getD_cons_zero, List.getD_cons_succ, List.drop_succ_cons, List.drop_zero]
  rw [h0, if_neg (by omega), if_neg (by omega), Int.toNat_natCast, List.take_left, List.drop_left]
/-- An entry as it may be handed in. -/
structure EntOk (x : Ent) : Prop where
  path : x.path.size < 4294967281
  mode : Rng x.mode
  time : Rng x.time
  block : Rng x.block
  at_ : Rng x.at_
  size : Rng x.size
theorem ok_path {xs : List Ent} (h : ∀ x ∈ xs, EntOk x) : PathOk xs := fun x hx => ⟨(h x hx).path, (h x hx).at_, (h x hx).size⟩
theorem rdEnt_enc {x : Ent} (h : EntOk x) (hp : x.path.size ≤ 32) (r : List Int) : rdEnt (some (encE x ++ r)) = (x, some r) := by
  unfold rdEnt encE nums
  simp only [List.flatMap_cons, List.flatMap_nil, List.append_nil, List.append_assoc, rdW_be2 (show (pN x.path).length ≤ 32 by rw [pN_len]; exact hp), rdN_be8 h.mode, rdN_be8 h.time, rdN_be8 h.block, rdN_be8 h.at_, rdN_be8 h.size, pN_str]
theorem rdEnts_enc {es : List Ent} (h : ∀ x ∈ es, EntOk x ∧ x.path.size ≤ 32) (r : List Int) : ∀ n, n ≤ es.length → rdEnts n (some (es.flatMap encE ++ r)) = (es.take n, some ((es.drop n).flatMap encE ++ r))
  | 0, _ => rfl
  | n + 1, hn => by
    have ih := rdEnts_enc h r n (by omega)
    have hb := h es[n] (List.getElem_mem (by omega))
    rw [rdEnts_succ, ih]
    simp only
    rw [List.drop_eq_getElem_cons (show n < es.length by omega), List.flatMap_cons, List.append_assoc, rdEnt_enc hb.1 hb.2, List.take_add_one, List.getElem?_eq_getElem (show n < es.length by omega)]
    rfl
theorem decOk_enc {es : List Ent} (h : CatGood es) (hk : ∀ x ∈ es, EntOk x) : DecOk (encCat es) es := by
  have h1 := rdEnts_enc (es := es) (fun x hx => ⟨hk x hx, good_path h x hx⟩) [] es.length (Nat.le_refl _)
  rw [List.append_nil, List.take_length, List.drop_length] at h1
  have hl := h.1
  refine ⟨(es.length : Int), some (es.flatMap encE), rdN_be8 ⟨by omega, by omega⟩ _, by omega, by omega, ?_, h, rfl⟩
  rw [Int.toNat_natCast, h1]
  rfl
/-! ### What is put in is found, taken away it is not -/
theorem eqP_self (x : Ent) : eqP x.path x = true := by unfold eqP; simp
theorem find_bounds (pr : Ent → Bool) (xs : List Ent) : -1 ≤ idxE pr xs ∧ idxE pr xs < (xs.length : Int) ∨ xs = [] ∧ idxE pr xs = -1 := by
  rcases idxE_cases pr xs with h | ⟨k, h, hk⟩
  · cases xs with
    | nil => exact .inr ⟨rfl, h⟩
    | cons x xs => rw [h, List.length_cons]; left; omega
  · left; omega
theorem withE_cases (xs : List Ent) (x : Ent) :
    (∃ k : Nat, ∃ _ : k < xs.length, findE x.path xs = (k : Int) ∧ eqP x.path xs[k] = true ∧ (∀ j (hj : j < k), eqP x.path (xs[j]'(by omega)) = false) ∧ withE xs x = xs.set k x) ∨
    (findE x.path xs = -1 ∧ (∀ y ∈ xs, eqP x.path y = false) ∧ ∃ N, N ≤ xs.length ∧ withE xs x = xs.take N ++ x :: xs.drop N) := by
  unfold withE findE
  cases h : xs.findIdx? (eqP x.path) with
  | none =>
    right
    have hi : idxE (eqP x.path) xs = -1 := by unfold idxE; rw [h]
    rw [List.findIdx?_eq_none_iff] at h
    refine ⟨hi, fun y hy => by simpa using h y hy, insAtE x.path xs, ?_, by rw [hi, if_pos (by omega)]⟩
    unfold insAtE
    split
    · exact Nat.le_refl _
    · rcases idxE_cases (gtP x.path) xs with h | ⟨k, h, hk⟩ <;> rw [h] <;> omega
  | some k =>
    left
    have hi : idxE (eqP x.path) xs = (k : Int) := by unfold idxE; rw [h]
    obtain ⟨hk, h1, h2⟩ := List.findIdx?_eq_some_iff_getElem.1 h
    exact ⟨k, hk, hi, h1, fun j hj => by simpa using h2 j hj, by rw [hi, if_neg (by omega), Int.toNat_natCast]⟩
theorem back_find (xs : List Ent) (x : Ent) : ∃ n : Nat, ∃ h : n < (withE xs x).length, findE x.path (withE xs x) = (n : Int) ∧ (withE xs x)[n] = x := by
  rcases withE_cases xs x with ⟨k, hk, _, _, hlt, he⟩ | ⟨_, hno, N, hN, he⟩
  · rw [he]
    have hk2 : k < (xs.set k x).length := by rw [List.length_set]; exact hk
    refine ⟨k, hk2, ?_, by rw [List.getElem_set_self]⟩
    exact idxE_hit (pr := eqP x.path) hk2 (by rw [List.getElem_set_self]; exact eqP_self x) (fun j hj => by rw [List.getElem_set_ne (by omega)]; exact hlt j hj)
  · rw [he]
    have hl : (xs.take N).length = N := by rw [List.length_take]; omega
    have hk2 : N < (xs.take N ++ x :: xs.drop N).length := by rw [List.length_append, List.length_cons, hl]; omega
    have hat : (xs.take N ++ x :: xs.drop N)[N] = x := by rw [List.getElem_append_right (by omega)]; simp [hl]
    refine ⟨N, hk2, ?_, hat⟩
    exact idxE_hit (pr := eqP x.path) hk2 (by rw [hat]; exact eqP_self x) (fun j hj => by
      rw [List.getElem_append_left (by omega), List.getElem_take]
      exact hno _ (List.getElem_mem _))
theorem out_none (s : ByteArray) (xs : List Ent) : ∀ y ∈ outE s xs, eqP s y = false := fun y hy => by
  unfold outE at hy
  simpa using (List.mem_filter.1 hy).2
theorem back_gone (s : ByteArray) (xs : List Ent) : findE s (outE s xs) = -1 :=
  idxE_none (pr := eqP s) fun j hj => out_none s xs _ (List.getElem_mem hj)
theorem back_out (xs : List Ent) (x : Ent) : outE x.path (withE xs x) = outE x.path xs := by
  rcases withE_cases xs x with ⟨k, hk, _, h1, _, he⟩ | ⟨_, _, N, hN, he⟩
  · rw [he, List.set_eq_take_append_cons_drop, if_pos hk]
    conv => rhs; rw [← List.take_append_drop k xs, List.drop_eq_getElem_cons hk]
    unfold outE
    rw [List.filter_append, List.filter_append, List.filter_cons_of_neg (by simp [eqP_self]), List.filter_cons_of_neg (by simp [h1])]
  · rw [he]
    conv => rhs; rw [← List.take_append_drop N xs]
    unfold outE
    rw [List.filter_append, List.filter_append, List.filter_cons_of_neg (by simp [eqP_self])]
theorem back_len (xs : List Ent) (x : Ent) : (0 ≤ findE x.path xs ∧ (withE xs x).length = xs.length) ∨ (findE x.path xs = -1 ∧ (withE xs x).length = xs.length + 1) := by
  rcases withE_cases xs x with ⟨k, hk, hf, _, _, he⟩ | ⟨hf, _, N, hN, he⟩
  · left; rw [he, List.length_set, hf]; exact ⟨by omega, rfl⟩
  · right; rw [he, List.length_append, List.length_cons, List.length_take, List.length_drop]; exact ⟨hf, by omega⟩
theorem withE_len (xs : List Ent) (x : Ent) : (withE xs x).length ≤ xs.length + 1 := by rcases back_len xs x with h | h <;> omega
theorem outE_len (s : ByteArray) (xs : List Ent) : (outE s xs).length ≤ xs.length := List.length_filter_le _ _
/-! ### The fixed fact's entries -/
def awX : Ent := ⟨⟨#[98]⟩, 420, 7, 1, 3, 4⟩
def awY : Ent := ⟨⟨#[97]⟩, 0, 0, 1, 0, 3⟩
def awZ : Ent := ⟨⟨#[97]⟩, 0, 0, 1, 0, 4⟩
theorem tl1 (a : UInt8) : (⟨#[a]⟩ : ByteArray).toList = [a] := ByteArray.toList_eq _
theorem aw_with1 : withE [] awX = [awX] := rfl
theorem aw_with2 : withE [awX] awY = [awY, awX] := by
  unfold withE findE insAtE idxE
  simp [List.findIdx?_cons, eqP, gtP, awX, awY, tl1, Op.bytesLess]
theorem aw_with3 : withE [awY, awX] awZ = [awZ, awX] := by
  unfold withE findE insAtE idxE
  simp [List.findIdx?_cons, eqP, awX, awY, awZ, tl1]
theorem aw_findb : findE ⟨#[98]⟩ [awY, awX] = 1 := by
  unfold findE idxE
  simp [List.findIdx?_cons, eqP, awX, awY, tl1]
theorem aw_findc : findE ⟨#[99]⟩ [awY, awX] = -1 := by
  unfold findE idxE
  simp [List.findIdx?_cons, eqP, awX, awY, tl1]
theorem aw_out : outE ⟨#[97]⟩ [awY, awX] = [awX] := by
  unfold outE
  simp [eqP, awX, awY, tl1]
theorem aw_good : CatGood [awY, awX] := by
  refine ⟨by simp, fun i hi x hx => ?_⟩
  match i, hi with
  | 0, _ =>
    cases hx
    exact ⟨by decide, fun k hk => by omega⟩
  | 1, _ =>
    cases hx
    refine ⟨by decide, fun k hk y hy => ?_⟩
    obtain rfl : k = 0 := by omega
    cases hy
    unfold pairOk
    rw [show awY.path.toList = [97] from tl1 97, show awX.path.toList = [98] from tl1 98]
    decide
theorem aw_bad : ¬ CatGood [awZ, awX] := fun h => by
  have := (h.2 1 (by simp) awX rfl).2 0 (by omega) awZ rfl
  unfold pairOk at this
  simp only [Bool.and_eq_true] at this
  have h2 := this.2
  revert h2
  decide
theorem aw_ok : ∀ x ∈ [awY, awX], EntOk x := by
  intro x hx
  simp only [List.mem_cons, List.not_mem_nil, or_false] at hx
  rcases hx with rfl | rfl <;> exact ⟨by decide, ⟨by decide, by decide⟩, ⟨by decide, by decide⟩, ⟨by decide, by decide⟩, ⟨by decide, by decide⟩, ⟨by decide, by decide⟩⟩
theorem aw_okz : ∀ x ∈ [awZ, awX], EntOk x := by
  intro x hx
  simp only [List.mem_cons, List.not_mem_nil, or_false] at hx
  rcases hx with rfl | rfl <;> exact ⟨by decide, ⟨by decide, by decide⟩, ⟨by decide, by decide⟩, ⟨by decide, by decide⟩, ⟨by decide, by decide⟩, ⟨by decide, by decide⟩⟩
theorem aw_len : (encCat [awY, awX]).length = 94 := by kernel_rfl
theorem aw_dec1 : ∀ es, ¬ DecOk ((encCat [awY, awX]).drop 1) es := fun es ⟨n, r1, h, ha, hb, _⟩ => by
  have h1 : (rdN (some ((encCat [awY, awX]).drop 1))).1 = 512 := by kernel_rfl
  rw [h] at h1
  simp only at h1
  omega
end Go.Proofs.YtmfcccflohpjiaaGreatDoor
