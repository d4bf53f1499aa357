/- Arguments opened: a slice of structs as a list. No program is named. -/
import Derived.Test.YtgmeahogdjhejaaGreatDoorSlice
import Derived.ProofKit
import Derived.Deep.Slices
import Derived.Lib.SmallJoins
namespace Go.Proofs.YtgmeahogdjhejaaGreatDoor
set_option linter.unusedVariables false
set_option linter.unusedSimpArgs false
open Go.RowKit Go.ChangeShapes Go.WideShapes Go.Deep

theorem cell_inv {w : World} {b off : Nat} {v : Value} (h : w.cell? ⟨b, off, none⟩ = some v) : ∃ cs T fr, w.heap[b]? = some (.cells cs T fr) ∧ cs[off]? = some v := by
  unfold World.cell? at h
  simp only [Option.isSome_none, Bool.false_eq_true, if_false] at h
  split at h
  · rename_i cs T fr hb
    exact ⟨cs, T, fr, hb, h⟩
  · cases h

theorem list_of {α : Type} {p : Nat → α → Prop} : ∀ n, (∀ i, i < n → ∃ x, p i x) → ∃ xs : List α, xs.length = n ∧ ∀ i x, xs[i]? = some x → p i x
  | 0, _ => ⟨[], rfl, by simp⟩
  | n + 1, h => by
    obtain ⟨xs, hl, hx⟩ := list_of n (fun i hi => h i (by omega))
    obtain ⟨y, hy⟩ := h n (by omega)
    refine ⟨xs ++ [y], by simp [hl], fun i x hi => ?_⟩
    by_cases hin : i < xs.length
    · rw [List.getElem?_append_left hin] at hi; exact hx i x hi
    · have : i < (xs ++ [y]).length := (List.getElem?_eq_some_iff.1 hi).1
      simp at this
      obtain rfl : i = xs.length := by omega
      simp at hi; subst hi; rw [hl]; exact hy

theorem rds_of_slice {α : Type} {enc' : α → List Value} {k : Nat} {Ok : α → Prop} {H : Type} {enc : TypeId × Value → H} {P : Program} {w : World} {t e : TypeId} {A : Option Addr} {len cap : Nat} {d : DataW H} {ps : List MemPlace}
    (ht : P.underlying t = some (.slice e)) (hk : P.cellsOf e = k) (hk0 : 0 < k) (hel : ∀ (n : Nat) cs (x : DataW H × List MemPlace), DataW.trod enc P w 0 (fun _ => true) true n e cs = some x → ∃ y : α, cs = enc' y ∧ Ok y)
    (h : DataW.Trod enc P w 0 (fun _ => true) true t (.slice A len cap) d ps) : ∃ xs : List α, RdS enc' k w (.slice A len cap) xs ∧ ∀ x ∈ xs, Ok x := by
  obtain ⟨fuel, hf⟩ := h
  rcases open_slice ht hf with ⟨hcs, _⟩ | ⟨a, len', cap', m, n, D, Pl, hcs, _, hl, _, hm, _, hall⟩
  · simp [Value.cells] at hcs
    obtain ⟨rfl, rfl, rfl⟩ := hcs
    exact ⟨[], RdS.nil _ _ _, by simp⟩
  · simp [Value.cells] at hcs
    obtain ⟨rfl, rfl, rfl⟩ := hcs
    obtain ⟨b, off, spot⟩ := a
    obtain ⟨xs, hxl, hxs⟩ := list_of (p := fun i (y : α) => w.cells? 0 ((⟨b, off, spot⟩ : Addr).add (i * k)) k = some (enc' y) ∧ Ok y) len (fun i hi => by
      obtain ⟨cs', h1, h2⟩ := hall i (by simp_all; omega)
      obtain ⟨y, rfl, hy⟩ := hel n cs' _ h2
      rw [hk] at h1
      exact ⟨y, h1, hy⟩)
    subst hxl
    have hcells : ∀ i (hi : i < xs.length) j, j < k → w.cell? ((⟨b, off, spot⟩ : Addr).add (i * k + j)) = (enc' xs[i])[j]? ∧ (enc' xs[i]).length = k := fun i hi j hj => by
      obtain ⟨h1, h2⟩ := hxs i xs[i] (List.getElem?_eq_getElem hi)
      obtain ⟨_, h3, h4⟩ := World.cells?_some h1
      rw [← add_add]
      exact ⟨h4 j hj, h3⟩
    refine ⟨xs, ?_, fun x hx => ?_⟩
    · by_cases hne : xs = []
      · subst hne; exact ⟨_, cap, rfl, hl, .inl rfl⟩
      · have h0 : 0 < xs.length := List.length_pos_iff.2 hne
        have hc0 := hcells 0 h0 0 hk0
        have hsp : spot = none := by
          obtain ⟨v, hv⟩ : ∃ v, (enc' xs[0])[0]? = some v := ⟨_, List.getElem?_eq_getElem (by rw [hc0.2]; exact hk0)⟩
          have := hc0.1.trans hv
          have h5 := World.cell?_spot this
          simpa [Addr.add] using h5
        subst hsp
        have hplain : ∀ j, (⟨b, off, none⟩ : Addr).add j = ⟨b, off + j, none⟩ := fun j => by by_cases hj : j = 0 <;> simp [Addr.add, hj]
        obtain ⟨v, hv⟩ : ∃ v, (enc' xs[0])[0]? = some v := ⟨_, List.getElem?_eq_getElem (by rw [hc0.2]; exact hk0)⟩
        have h6 := hc0.1.trans hv
        rw [hplain] at h6
        obtain ⟨cs, T, fr, hb, _⟩ := cell_inv h6
        refine ⟨_, cap, rfl, hl, .inr ⟨b, off, cs, T, fr, rfl, hb, fun j hj i hi => ?_⟩⟩
        rw [← (hcells j hj i hi).1, hplain, cell_of_row w b _ cs T fr hb, Nat.add_assoc]
    · obtain ⟨i, hi, rfl⟩ := List.mem_iff_getElem.1 hx
      exact (hxs i xs[i] (List.getElem?_eq_getElem hi)).2
end Go.Proofs.YtgmeahogdjhejaaGreatDoor
