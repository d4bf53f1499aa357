/- Catalogues: the program's Good and the document's are one. Plain. -/
import Derived.Test.YtmfcccflohpjiaaGreatDoorCatJ
namespace Go.Proofs.YtmfcccflohpjiaaGreatDoor
set_option linter.unusedVariables false
set_option linter.unusedSimpArgs false
open Go.RowKit

theorem bl_iff : ∀ (x y : List UInt8), Op.bytesLess x y = true ↔ x < y
  | _, [] => by simp [Op.bytesLess]
  | [], _ :: _ => by simp [Op.bytesLess]
  | a :: x, b :: y => by
    rw [List.cons_lt_cons_iff, ← bl_iff x y]
    simp only [Op.bytesLess]
    by_cases h : a < b
    · simp [h]
    · by_cases h2 : a = b
      · subst h2; simp
      · simp [h, h2]
theorem bl_trans {x y z : List UInt8} (h1 : Op.bytesLess x y = true) (h2 : Op.bytesLess y z = true) : Op.bytesLess x z = true :=
  (bl_iff _ _).2 (List.lt_trans ((bl_iff _ _).1 h1) ((bl_iff _ _).1 h2))
theorem bl_asymm {x y : List UInt8} (h1 : Op.bytesLess x y = true) (h2 : Op.bytesLess y x = true) : False :=
  List.lt_asymm ((bl_iff _ _).1 h1) ((bl_iff _ _).1 h2)
theorem bl_append (x : List UInt8) (a : UInt8) (z : List UInt8) : Op.bytesLess x (x ++ a :: z) = true := by
  induction x with
  | nil => simp [Op.bytesLess]
  | cons b x ih =>
    rw [bl_iff] at ih ⊢
    rw [List.cons_append, List.cons_lt_cons_iff]
    exact .inr ⟨rfl, ih⟩
theorem und_less {x y : Ent} (h : undP x y = true) : Op.bytesLess y.path.toList x.path.toList = true := by
  unfold undP Pth.underL at h
  simp only [Bool.and_eq_true] at h
  obtain ⟨z, hz⟩ := List.isPrefixOf_iff_prefix.1 h.2
  have e1 : y.path.toList = Pth.lst y.path := Go.ByteArray.toList_eq _
  have e2 : x.path.toList = Pth.lst x.path := Go.ByteArray.toList_eq _
  rw [e1, e2, ← hz, List.append_assoc, List.cons_append, List.nil_append]
  exact bl_append _ _ _
/-- Sorted: whoever stands before is less. -/
theorem sorted_of {xs : List Ent} (h : ∀ i x y, xs[i]? = some y → xs[i + 1]? = some x → Op.bytesLess y.path.toList x.path.toList = true) : ∀ (i k : Nat) (x y : Ent), k < i → xs[k]? = some y → xs[i]? = some x → Op.bytesLess y.path.toList x.path.toList = true
  | 0, _, _, _, hk, _, _ => by omega
  | i + 1, k, x, y, hk, hy, hx => by
    have hl := (List.getElem?_eq_some_iff.1 hx).1
    obtain ⟨z, hz⟩ : ∃ z, xs[i]? = some z := ⟨_, List.getElem?_eq_getElem (by omega)⟩
    have h1 := h i x z hz hx
    by_cases hki : k = i
    · subst hki
      rw [hy] at hz
      cases hz
      exact h1
    · exact bl_trans (sorted_of h i k z y (by omega) hy hz) h1
def disj (x y : Ent) : Prop := x.block = y.block → 0 < x.size → 0 < y.size → x.at_ + x.size ≤ y.at_ ∨ y.at_ + y.size ≤ x.at_
theorem common_iff (x y : Ent) : commonP x y = false ↔ disj y x := by
  unfold commonP disj
  simp only [decide_eq_false_iff_not]
  constructor
  · intro h h1 h2 h3
    apply Classical.byContradiction
    intro hc
    exact h ⟨h1.symm, h3, h2, by omega, by omega⟩
  · rintro h ⟨h1, h2, h3, h4, h5⟩
    have := h h1.symm h3 h2
    omega
theorem apart_iff {xs : List Ent} (hal : ∀ x ∈ xs, aloneP x = true) : ApartP xs ↔ xs.Pairwise disj := by
  constructor
  · intro h
    rw [List.pairwise_iff_getElem]
    intro i j hi hj hij hb h1 h2
    have hne : grpF xs xs[i].block ≠ [] := by
      intro e
      have : spOf xs[i] ∈ grpF xs xs[i].block := List.mem_map.2 ⟨_, List.mem_filter.2 ⟨List.getElem_mem hi, by simp [h1]⟩, rfl⟩
      rw [e] at this
      cases this
    have hg := h _ hne
    unfold goodB at hg
    rw [decide_eq_true_eq] at hg
    have hp := hg.2
    unfold grpF at hp
    rw [List.pairwise_map, List.pairwise_filter, List.pairwise_iff_getElem] at hp
    have := hp i j hi hj hij (by simp [h1]) (by simp [hb, h2])
    simpa [spOf] using this
  · intro h k _
    unfold goodB
    rw [decide_eq_true_eq]
    refine ⟨fun s hs => ?_, ?_⟩
    · obtain ⟨x, hx, rfl⟩ := List.mem_map.1 hs
      obtain ⟨hx1, hx2⟩ := List.mem_filter.1 hx
      have ha := hal x hx1
      unfold aloneP at ha
      simp only [Bool.and_eq_true, decide_eq_true_eq] at ha hx2
      simp only [spOf]
      omega
    · unfold grpF
      rw [List.pairwise_map, List.pairwise_filter]
      refine h.imp fun {a b} hab h1 h2 => ?_
      simp only [Bool.and_eq_true, beq_iff_eq, decide_eq_true_eq] at h1 h2
      exact hab (h1.1.trans h2.1.symm) h1.2 h2.2
theorem catGood_iff (xs : List Ent) : CatGood1 xs ↔ CatGood xs := by
  constructor
  · rintro ⟨h1, h2, h3⟩
    have hal : ∀ x ∈ xs, aloneP x = true := fun x hx => by
      obtain ⟨i, hi, rfl⟩ := List.mem_iff_getElem.1 hx
      exact (h2 i hi _ (List.getElem?_eq_getElem hi)).1
    have hp := (apart_iff hal).1 h3
    have hs := sorted_of (xs := xs) (fun i x y hy hx => (h2 (i + 1) (List.getElem?_eq_some_iff.1 hx).1 x hx).2.1 i y rfl hy)
    refine ⟨h1, fun i hi x hx => ⟨(h2 i hi x hx).1, fun k hk y hy => ?_⟩⟩
    unfold pairOk
    have e1 := hs i k x y hk hy hx
    have e2 : undP x y = false := by
      have := (h2 i hi x hx).2.2
      rw [List.any_eq_false] at this
      simpa using this y (List.mem_of_getElem? hy)
    have e3 : commonP x y = false := by
      rw [common_iff]
      rw [List.pairwise_iff_getElem] at hp
      obtain ⟨hk1, rfl⟩ := List.getElem?_eq_some_iff.1 hy
      obtain ⟨hi1, rfl⟩ := List.getElem?_eq_some_iff.1 hx
      exact hp k i hk1 hi1 hk
    unfold undP at e2
    rw [e1, e2, e3]
    rfl
  · rintro ⟨h1, h2⟩
    have hal : ∀ x ∈ xs, aloneP x = true := fun x hx => by
      obtain ⟨i, hi, rfl⟩ := List.mem_iff_getElem.1 hx
      exact (h2 i hi _ (List.getElem?_eq_getElem hi)).1
    have hpo : ∀ (i k : Nat) (x y : Ent), k < i → xs[k]? = some y → xs[i]? = some x → pairOk y x = true := fun i k x y hk hy hx => (h2 i (List.getElem?_eq_some_iff.1 hx).1 x hx).2 k hk y hy
    have hless : ∀ (i k : Nat) (x y : Ent), k < i → xs[k]? = some y → xs[i]? = some x → Op.bytesLess y.path.toList x.path.toList = true := fun i k x y hk hy hx => by
      have := hpo i k x y hk hy hx
      unfold pairOk at this
      simp only [Bool.and_eq_true] at this
      exact this.1.1
    refine ⟨h1, fun i hi x hx => ⟨(h2 i hi x hx).1, fun j y e hy => hless i j x y (by omega) hy hx, ?_⟩, (apart_iff hal).2 ?_⟩
    · rw [List.any_eq_false]
      intro y hy hu
      obtain ⟨k, hk⟩ := List.mem_iff_getElem?.1 hy
      have hl := und_less hu
      rcases Nat.lt_trichotomy k i with h | h | h
      · have := hpo i k x y h hk hx
        unfold pairOk at this
        unfold undP at hu
        rw [hu] at this
        simp at this
      · subst h
        rw [hk] at hx
        cases hx
        exact bl_asymm hl hl
      · exact bl_asymm hl (hless k i y x h hx hk)
    · rw [List.pairwise_iff_getElem]
      intro i j hi hj hij
      have := hpo j i _ _ hij (List.getElem?_eq_getElem hi) (List.getElem?_eq_getElem hj)
      unfold pairOk at this
      simp only [Bool.and_eq_true, Bool.not_eq_true'] at this
      exact (common_iff _ _).1 this.2
end Go.Proofs.YtmfcccflohpjiaaGreatDoor
