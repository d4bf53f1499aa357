/- DiskSurvives, the plain law: what each sector is behind a crash. No call. -/
import Derived.Test.YtjdfeagjbhdceaaFlushed
namespace Go.Proofs.Ytjdfeagjbhdceaa
set_option linter.unusedVariables false
set_option linter.unusedSimpArgs false
open Go.RowKit

theorem sortedKeys_nodup {V : Type} {es : List (Int × V)} (h : (es.map (·.1)).Nodup) : (sortedKeys es).Nodup := (sortedKeys_perm es).nodup_iff.2 h
theorem crash_at {d : DS} {W : Int} (hf : d.Fine W) (keep torn cut : Int) {i : Nat} (hi : i < d.sure.length) : ∀ k, k ≤ d.pend.length →
    (∃ j : Nat, j < k ∧ (sortedKeys d.pend).getD j 0 = (i : Int) ∧ (crashTo d keep torn cut k).getD i St.zero = surv (d.sure.getD i St.zero) ((getE d.pend (i : Int)).getD St.zero) j keep torn cut) ∨
    ((∀ j : Nat, j < k → (sortedKeys d.pend).getD j 0 ≠ (i : Int)) ∧ (crashTo d keep torn cut k).getD i St.zero = d.sure.getD i St.zero)
  | 0, _ => .inr ⟨fun j hj => absurd hj (by omega), rfl⟩
  | k + 1, hk => by
    have ih := crash_at hf keep torn cut hi k (by omega)
    have hlen := crashTo_length d keep torn cut k
    rw [crashTo_succ]
    obtain ⟨v, hv⟩ := sortedKeys_at d.pend k (by omega)
    have hr := (hf.pend _ hv).2
    have hnd := sortedKeys_nodup hf.keys
    have hsl := sortedKeys_length d.pend
    by_cases he : (sortedKeys d.pend).getD k 0 = (i : Int)
    · left
      refine ⟨k, by omega, he, ?_⟩
      have hprev : (crashTo d keep torn cut k).getD i St.zero = d.sure.getD i St.zero := by
        rcases ih with ⟨j, hj, hji, _⟩ | ⟨_, h⟩
        · exfalso
          have hne := List.pairwise_iff_getElem.1 hnd j k (by omega) (by omega) hj
          refine hne ?_
          rw [List.getD_eq_getElem?_getD, List.getElem?_eq_getElem (by omega), Option.getD_some] at hji he
          rw [hji, he]
        · exact h
      rw [he, Int.toNat_natCast, hprev, List.getD_eq_getElem?_getD, List.getElem?_set_self (by omega)]
      rfl
    · have hne : ((sortedKeys d.pend).getD k 0).toNat ≠ i := by dsimp only at hr; omega
      have hset : ∀ s, ((crashTo d keep torn cut k).set ((sortedKeys d.pend).getD k 0).toNat s).getD i St.zero = (crashTo d keep torn cut k).getD i St.zero := fun s => by
        rw [List.getD_eq_getElem?_getD, List.getElem?_set_ne hne, ← List.getD_eq_getElem?_getD]
      rw [hset]
      rcases ih with ⟨j, hj, h1, h2⟩ | ⟨h1, h2⟩
      · exact .inl ⟨j, by omega, h1, h2⟩
      · refine .inr ⟨fun j hj => ?_, h2⟩
        by_cases hjk : j = k
        · subst hjk; exact he
        · exact h1 j (by omega)

/-- Of which sector a crash may leave a part. -/
def tornKey (d : DS) (torn : Int) : Int := (sortedKeys d.pend).getD torn.toNat 0
/-- Behind a crash a sector is as it was sure, or as written, or (one sector alone) begins as the one and ends as the other. -/
theorem survives_at {d : DS} {W : Int} (hf : d.Fine W) (keep torn cut : Int) {i : Nat} (hi : i < d.sure.length) :
    ((d.crash keep torn cut).is i).bytes = (d.sure.getD i St.zero).bytes ∨ ((d.crash keep torn cut).is i).bytes = (d.is i).bytes ∨
    ((i : Int) = tornKey d torn ∧ 0 ≤ cut ∧ cut < 32 ∧ ((d.crash keep torn cut).is i).bytes = (d.is i).bytes.take cut.toNat ++ (d.sure.getD i St.zero).bytes.drop cut.toNat) := by
  rw [DS.is_sure (crash_pend _ _ _ _), Int.toNat_natCast]
  show ((crashTo d keep torn cut d.pend.length).getD i St.zero).bytes = _ ∨ _
  rcases crash_at hf keep torn cut hi d.pend.length (Nat.le_refl _) with ⟨j, hj, hji, h⟩ | ⟨_, h⟩
  · have hat : ∃ v, getE d.pend (i : Int) = some v := by
      obtain ⟨v, hv⟩ := sortedKeys_at d.pend j hj
      rw [hji] at hv
      exact ⟨v, getE_of_mem hf.keys hv⟩
    obtain ⟨n, hn⟩ := hat
    have his : d.is (i : Int) = n := by unfold DS.is; rw [hn]; rfl
    rw [hn, Option.getD_some] at h
    show ((crashTo d keep torn cut d.pend.length).getD i St.zero).bytes = _ ∨ ((crashTo d keep torn cut d.pend.length).getD i St.zero).bytes = _ ∨ (_ ∧ _ ∧ _ ∧ ((crashTo d keep torn cut d.pend.length).getD i St.zero).bytes = _)
    rw [h, his]
    unfold surv
    split
    · rename_i ht
      split
      · exact .inr (.inl rfl)
      · by_cases h0 : 0 ≤ cut
        · refine .inr (.inr ⟨?_, h0, by omega, rfl⟩)
          unfold tornKey
          rw [← ht, Int.toNat_natCast, hji]
        · left
          have : cut.toNat = 0 := by omega
          simp [St.torn, this]
    · split
      · exact .inr (.inl rfl)
      · exact .inl rfl
  · left
    rw [h]
end Go.Proofs.Ytjdfeagjbhdceaa
