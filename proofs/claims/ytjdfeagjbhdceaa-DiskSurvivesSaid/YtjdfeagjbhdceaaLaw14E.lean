/- Plain laws on the disk's states: what holds of every state that a disk may show. No call. -/
import Derived.Test.YtjdfeagjbhdceaaLaw14D
namespace Go.Proofs.Ytjdfeagjbhdceaa
set_option linter.unusedVariables false
set_option linter.unusedSimpArgs false
open Go.RowKit

theorem mem_applyAll {P : St → Prop} {sure : List St} {es : List (Int × St)} (h1 : ∀ s ∈ sure, P s) (h2 : ∀ p ∈ es, P p.2) : ∀ s ∈ applyAll sure es, P s := by
  induction es generalizing sure with
  | nil => exact h1
  | cons p es ih =>
    refine ih (sure := sure.set p.1.toNat p.2) (fun s hs => ?_) (fun q hq => h2 q (by simp [hq]))
    rcases List.mem_or_eq_of_mem_set hs with h | rfl
    · exact h1 s h
    · exact h2 p (by simp)
theorem surv_P {P : St → Prop} (ht : ∀ a b c, P a → P b → P (a.torn b c)) {a b : St} (ha : P a) (hb : P b) (n keep torn cut : Int) : P (surv a b n keep torn cut) := by
  unfold surv
  split
  · split
    · exact hb
    · exact ht _ _ _ ha hb
  · split <;> assumption
theorem mem_crashTo {P : St → Prop} (ht : ∀ a b c, P a → P b → P (a.torn b c)) {d : DS} {W : Int} (hf : d.Fine W) (h1 : ∀ s ∈ d.sure, P s) (h2 : ∀ p ∈ d.pend, P p.2) (keep torn cut : Int) : ∀ k, k ≤ d.pend.length → ∀ s ∈ crashTo d keep torn cut k, P s
  | 0, _ => h1
  | k + 1, hk => fun s hs => by
    have ih := mem_crashTo ht hf h1 h2 keep torn cut k (by omega)
    rw [crashTo_succ] at hs
    obtain ⟨v, hv⟩ := sortedKeys_at d.pend k (by omega)
    generalize (sortedKeys d.pend).getD k 0 = key at *
    have hget : getE d.pend key = some v := getE_of_mem hf.keys hv
    rw [hget, Option.getD_some] at hs
    have hr := (hf.pend _ hv).2
    have hlt : key.toNat < (crashTo d keep torn cut k).length := by rw [crashTo_length]; dsimp only at hr; omega
    rcases List.mem_or_eq_of_mem_set hs with h | rfl
    · exact ih s h
    · refine surv_P ht (ih _ ?_) (h2 _ hv) _ _ _ _
      rw [List.getD_eq_getElem?_getD, List.getElem?_eq_getElem hlt]
      exact List.getElem_mem _

theorem DS.has_of {d : DS} {n : Nat} (h : d.sure.length = n) {i : Nat} (hi : i < n) : d.has (i : Int) := ⟨by omega, by omega⟩
theorem DS.writeR_on {d : DS} {i : Int} {xs : List Int} (h : d.has i) (hx : xs.length = 32) (hf : d.fuse ≠ 0) : d.writeR i xs = (d.write i xs, 0) := by
  unfold DS.writeR; rw [if_neg (by simp [h, hx]), if_neg hf]
theorem DS.flushR_on {d : DS} (hf : d.fuse ≠ 0) : d.flushR = (d.flush, 0) := by unfold DS.flushR; rw [if_neg hf]
theorem DS.spend_free {d : DS} (hf : d.fuse = -1) : d.spend.1 = d := by unfold DS.spend; rw [if_pos hf]

/-- A disk of n sectors whose fuse does not burn. -/
def DS.Open (d : DS) (n : Nat) : Prop := d.fuse = -1 ∧ d.sure.length = n
theorem DS.Open.new (n : Nat) : (DS.new n).Open n := ⟨rfl, by simp [DS.new]⟩
theorem DS.Open.ne {d : DS} {n : Nat} (h : d.Open n) : d.fuse ≠ 0 := by rw [h.1]; omega
theorem DS.Open.flush {d : DS} {n : Nat} (h : d.Open n) : d.flushR.1.Open n := by
  rw [DS.flushR_on h.ne]
  refine ⟨?_, ?_⟩
  · show d.spend.1.fuse = -1; rw [DS.spend_free h.1]; exact h.1
  · simp only [DS.flush, applyAll_length]; exact h.2
theorem DS.Open.write {d : DS} {n : Nat} (h : d.Open n) (i : Int) (xs : List Int) : (d.writeR i xs).1.Open n := by
  unfold DS.writeR
  split
  · exact h
  · rw [if_neg h.ne]
    refine ⟨?_, ?_⟩
    · show d.spend.1.fuse = -1; rw [DS.spend_free h.1]; exact h.1
    · show d.spend.1.sure.length = n; rw [DS.spend_free h.1]; exact h.2
theorem DS.Open.crash {d : DS} {n : Nat} (h : d.sure.length = n) (keep torn cut : Int) : (d.crash keep torn cut).Open n := ⟨rfl, by simp only [DS.crash, crashTo_length]; exact h⟩
theorem DS.Open.someStep {d : DS} {n : Nat} (h : d.Open n) (x : Deed) : (someStep d x).Open n := by
  unfold Go.Proofs.Ytjdfeagjbhdceaa.someStep
  split
  · exact h.flush
  · exact h.write _ _
theorem fold_open {step : DS → Deed → DS} {n : Nat} (hs : ∀ {d : DS}, d.Open n → ∀ x, (step d x).Open n) : ∀ (xs : List Deed) (d : DS), d.Open n → (xs.foldl step d).Open n
  | [], _, h => h
  | x :: xs, d, h => fold_open hs xs _ (hs h x)
theorem someD_open (xs : List Deed) : (someD xs).Open 9 := fold_open (fun h x => h.someStep x) _ _ (.new 9)
theorem someD_fine {xs : List Deed} (h : ∀ x ∈ xs, x.Ok) : (someD xs).Fine 30 :=
  (fold_fine someStep_fine (xs.take 30) _ _ (DS.Fine.new 9 (by omega)) (fun y hy => h y (List.mem_of_mem_take hy))).mono (by rw [List.length_take]; omega)

/-- Each sector is of a write behind the n-th. -/
structure Young (n : Int) (d : DS) : Prop where
  le : n ≤ d.writes
  sure : ∀ s ∈ d.sure, n < s.wr ∧ s.wr ≤ d.writes
  pend : ∀ p ∈ d.pend, n < p.2.wr ∧ p.2.wr ≤ d.writes
theorem Young.flush {n : Int} {d : DS} {k : Nat} (h : Young n d) (ho : d.Open k) : Young n d.flushR.1 := by
  rw [DS.flushR_on ho.ne]
  have hw : d.flush.writes = d.writes := by show d.spend.1.writes = _; rw [DS.spend_free ho.1]
  exact ⟨by rw [hw]; exact h.le, by rw [hw]; exact mem_applyAll h.sure h.pend, by simp [DS.flush]⟩
theorem Young.write {n : Int} {d : DS} {k : Nat} {W : Int} (h : Young n d) (ho : d.Open k) (hf : d.Fine W) (i : Int) (xs : List Int) : Young n (d.writeR i xs).1 := by
  unfold DS.writeR
  split
  · exact h
  · rw [if_neg ho.ne]
    have hn := h.le
    refine ⟨by simp only [DS.write]; omega, fun s hs => ?_, fun p hp => ?_⟩
    · have : s ∈ d.sure := by have := hs; simp only [DS.write] at this; rwa [DS.spend_free ho.1] at this
      have := h.sure s this; simp only [DS.write]; omega
    · simp only [DS.write] at hp ⊢
      rcases mem_putE hf.keys hp with rfl | hp
      · dsimp only; omega
      · have := h.pend p hp; omega
theorem Young.crash {n : Int} {d : DS} {W : Int} (h : Young n d) (hf : d.Fine W) (keep torn cut : Int) : Young n (d.crash keep torn cut) :=
  ⟨h.le, mem_crashTo (P := fun s => n < s.wr ∧ s.wr ≤ d.writes) (fun _ _ _ ha _ => ha) hf h.sure h.pend keep torn cut _ (Nat.le_refl _), by simp [DS.crash]⟩
theorem Young.since {n : Int} {d : DS} {k : Nat} (h : Young n d) (ho : d.Open k) {i : Nat} (hi : i < k) : n < d.sinceR i ∧ d.sinceR i ≤ d.writes := by
  unfold DS.sinceR
  rw [if_pos (DS.has_of ho.2 hi)]
  unfold DS.is
  cases hg : getE d.pend (i : Int) with
  | some s => exact h.pend _ (getE_mem hg)
  | none =>
    refine h.sure _ ?_
    rw [Option.getD_none, List.getD_eq_getElem?_getD, Int.toNat_natCast, List.getElem?_eq_getElem (by rw [ho.2]; exact hi)]
    exact List.getElem_mem _

/-- The first k sectors written. -/
def writeAll (d : DS) : Nat → DS
  | 0 => d
  | k + 1 => ((writeAll d k).writeR k (List.replicate 32 (k : Int))).1
theorem writeAll_open {d : DS} {n : Nat} (h : d.Open n) : ∀ k, (writeAll d k).Open n
  | 0 => h
  | k + 1 => (writeAll_open h k).write _ _
theorem writeAll_fine {d : DS} {W : Int} (h : d.Fine W) : ∀ k : Nat, k ≤ 9 → (writeAll d k).Fine (W + k)
  | 0, _ => h.mono (by omega)
  | k + 1, hk => ((writeAll_fine h k (by omega)).writeR (rep_bytes 32 k (by omega))).mono (by omega)
theorem writeAll_ok {d : DS} {n : Nat} (h : d.Open n) {k : Nat} (hk : k < n) : ((writeAll d k).writeR k (List.replicate 32 (k : Int))).2 = 0 := by
  rw [DS.writeR_on (DS.has_of (writeAll_open h k).2 hk) (by simp) (writeAll_open h k).ne]
theorem writeAll_pend {d : DS} {n : Nat} {W : Int} (h : d.Open n) (hf : d.Fine W) : ∀ k : Nat, k ≤ n → k ≤ 9 → d.writes ≤ (writeAll d k).writes ∧ ∀ i : Nat, i < k → ∃ s, getE (writeAll d k).pend (i : Int) = some s ∧ d.writes < s.wr ∧ s.wr ≤ (writeAll d k).writes
  | 0, _, _ => ⟨Int.le_refl _, fun i hi => absurd hi (by omega)⟩
  | k + 1, hk, h9 => by
    obtain ⟨h1, h2⟩ := writeAll_pend h hf k (by omega) (by omega)
    have ho := writeAll_open h k
    have hfk := writeAll_fine hf k (by omega)
    have he : writeAll d (k + 1) = (writeAll d k).write k (List.replicate 32 (k : Int)) := by
      show ((writeAll d k).writeR k (List.replicate 32 (k : Int))).1 = _
      rw [DS.writeR_on (DS.has_of ho.2 (by omega)) (by simp) ho.ne]
    rw [he]
    simp only [DS.write]
    refine ⟨by omega, fun i hi => ?_⟩
    rw [getE_putE _ hfk.keys]
    split
    · exact ⟨_, rfl, by dsimp only; omega, by dsimp only; omega⟩
    · rename_i hne
      obtain ⟨s, hs, h3, h4⟩ := h2 i (by omega)
      exact ⟨s, hs, h3, by omega⟩
theorem writeAll_young {d : DS} {W : Int} (h : d.Open 9) (hf : d.Fine W) : Young d.writes (writeAll d 9).flushR.1 := by
  obtain ⟨h1, h2⟩ := writeAll_pend h hf 9 (by omega) (by omega)
  have ho := writeAll_open h 9
  have hfk := writeAll_fine hf 9 (by omega)
  generalize writeAll d 9 = D at *
  rw [DS.flushR_on ho.ne]
  have hw : D.flush.writes = D.writes := by show D.spend.1.writes = _; rw [DS.spend_free ho.1]
  refine ⟨by rw [hw]; exact h1, fun s hs => ?_, by simp [DS.flush]⟩
  rw [hw]
  obtain ⟨j, hj, rfl⟩ := List.mem_iff_getElem.1 hs
  have hj9 : j < D.sure.length := by have := hj; simpa only [DS.flush, applyAll_length] using this
  obtain ⟨s, hs2, h3, h4⟩ := h2 j (by have := ho.2; omega)
  have := applyAll_get D.pend hfk.keys (fun p hp => (hfk.pend p hp).2.1) D.sure j hj9
  rw [hs2, Option.getD_some, List.getElem?_eq_getElem (by simpa [applyAll_length] using hj9)] at this
  have he : D.flush.sure[j] = s := by simpa [DS.flush] using this
  rw [he]; exact ⟨h3, h4⟩
end Go.Proofs.Ytjdfeagjbhdceaa
