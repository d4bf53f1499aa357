/- Journals: the plain law of crashes, seventh part: the log behind a crash. -/
import Derived.Test.YtgmeahogdjhejaaDoorWalCw
namespace Go.Proofs.YtgmeahogdjhejaaDoor
set_option linter.unusedVariables false
set_option linter.unusedSimpArgs false
open Go.RowKit Go.Shelf

/-- The log's records as they are seen; the first c of them are sure; below the others lie sectors of other epochs. -/
def LogR (e : Int) (S V : Nat → List Int) (base : Nat) : Int → Nat → List (List Int) → Nat → Prop
  | _, _, [], _ => True
  | q, u, b :: bs, c => Bytes b ∧ b.length ≤ 65535 ∧ Sm (q + 1) ∧
      (∀ k, k < countP b.length → V (base + (u + k)) = sectP (markP e (q + 1)) (matterP e (q + 1) b) k ∧
        (if 0 < c then S (base + (u + k)) = sectP (markP e (q + 1)) (matterP e (q + 1) b) k else ∃ ea qa, SmS (S (base + (u + k))) ea qa ∧ ea ≠ e)) ∧
      LogR e S V base (q + 1) (u + countP b.length) bs (c - 1)
/-- The log behind its records: sectors of other epochs; and a record that was not written to its end. -/
structure Tail (e q : Int) (S V : Nat → List Int) (base m u : Nat) (part : Option (List Int)) : Prop where
  old : ∀ k, u ≤ k → k < m → ∃ ea qa, SmS (S (base + k)) ea qa ∧ ea ≠ e
  now : ∀ k, u ≤ k → k < m → V (base + k) = S (base + k) ∨ ∃ b, part = some b ∧ k < u + countP b.length ∧ V (base + k) = sectP (markP e (q + 1)) (matterP e (q + 1) b) (k - u)
  part : ∀ b, part = some b → Bytes b ∧ b.length ≤ 65535 ∧ Sm (q + 1) ∧ ∃ k, u ≤ k ∧ k < u + countP b.length ∧ k < m ∧ V (base + k) = S (base + k)
section
variable {e : Int} {S V O : Nat → List Int} {base m N : Nat}
theorem placed_of (he : Sm e) (hlen : ∀ i, i < N → (S i).length = 32) (hO : ∀ i, i < N → ∃ k, O i = mixS k (S i) (V i)) (hN : base + m ≤ N) {f : Nat → List Int} (hf : ∀ k, k < m → f k = O (base + k)) :
    ∀ (bs : List (List Int)) (q : Int) (u c : Nat), LogR e S V base q u bs c → endU u bs ≤ m → PlacedO e f q u bs ∧ WholeO e f q u (bs.take c)
  | [], _, _, _, _, _ => ⟨trivial, by rw [List.take_nil]; trivial⟩
  | b :: bs, q, u, c, h, hend => by
    obtain ⟨h1, h2, h3, h4, h5⟩ := h
    have hge := endU_ge bs (u + countP b.length)
    have hend' : endU (u + countP b.length) bs ≤ m := hend
    obtain ⟨ih1, ih2⟩ := placed_of he hlen hO hN hf bs (q + 1) (u + countP b.length) (c - 1) h5 hend'
    refine ⟨⟨fun k hk => ?_, h1, h2, h3, ih1⟩, ?_⟩
    · rw [hf _ (by omega)]
      obtain ⟨n, hn⟩ := hO (base + (u + k)) (by omega)
      have hV := h4 k hk
      rw [hn, hV.1]
      by_cases hc : 0 < c
      · rw [if_pos hc] at hV
        rw [hV.2, mix_same]
        exact near_sect h3 b k
      · rw [if_neg hc] at hV
        obtain ⟨ea, qa, hs, hne⟩ := hV.2
        exact mix_near hs (hlen _ (by omega)) hne he h3 b k n
    · cases c with
      | zero => rw [List.take_zero]; trivial
      | succ c =>
        rw [List.take_succ_cons]
        refine ⟨fun k hk => ?_, ih2⟩
        rw [hf _ (by omega)]
        obtain ⟨n, hn⟩ := hO (base + (u + k)) (by omega)
        have hV := h4 k hk
        rw [if_pos (by omega)] at hV
        rw [hn, hV.1, hV.2, mix_same]
theorem lift_nil : liftP [] = none := rfl
theorem tail_stop (he : Sm e) (hlen : ∀ i, i < N → (S i).length = 32) (hO : ∀ i, i < N → ∃ k, O i = mixS k (S i) (V i)) (hN : base + m ≤ N) {f : Nat → List Int} (hf : ∀ k, k < m → f k = O (base + k)) (hfl : ∀ k, (f k).length = 32)
    {q : Int} {u : Nat} (hu : u ≤ m) {part : Option (List Int)} (h : Tail e q S V base m u part) (r : Rec) (hr : liftP (((List.range m).flatMap f).drop (32 * u)) = some r) : r.epoch ≠ e := by
  intro hre
  rw [drop_flat hfl hu] at hr
  by_cases hum : u = m
  · subst hum
    rw [Nat.sub_self] at hr
    cases hr
  · have hold : ∀ k, u ≤ k → k < m → V (base + k) = S (base + k) → epochP (f k) ≠ e := fun k h1 h2 h3 => by
      obtain ⟨n, hn⟩ := hO (base + k) (by omega)
      obtain ⟨ea, qa, hs, hne⟩ := h.old k h1 h2
      rw [hf k h2, hn, h3, mix_same, hs.epoch]
      exact hne
    cases hp : part with
    | none =>
      obtain ⟨rest, hrest⟩ := flat_first (f := fun k => f (u + k)) (m := m - u) (by omega)
      rw [hrest] at hr
      have h1 := (lift_first (hfl _) hr).1
      rw [hre] at h1
      have h2 := (h.now u (Nat.le_refl _) (by omega)).resolve_right (fun ⟨b, hb, _⟩ => by rw [hp] at hb; cases hb)
      exact hold u (Nat.le_refl _) (by omega) h2 h1.symm
    | some b =>
      obtain ⟨hb, hl, hq, k, hk1, hk2, hk3, hk4⟩ := h.part b hp
      have hnear : ∀ k, k < m - u → k < countP b.length → Near e (dataP e (q + 1) b k) (f (u + k)) := fun k h1 h2 => by
        rcases h.now (u + k) (by omega) (by omega) with h3 | ⟨b', hb', h4, h5⟩
        · exact .inl (hold _ (by omega) (by omega) h3)
        · rw [hp] at hb'
          cases hb'
          obtain ⟨n, hn⟩ := hO (base + (u + k)) (by omega)
          obtain ⟨ea, qa, hs, hne⟩ := h.old (u + k) (by omega) (by omega)
          rw [hf _ (by omega), hn, h5, show u + k - u = k by omega]
          exact mix_near hs (hlen _ (by omega)) hne he hq b k n
      obtain ⟨_, _, hsec⟩ := lift_near he hq hb hl (fun k => hfl _) hnear hr hre
      have h6 := hsec (k - u) (by omega)
      rw [show u + (k - u) = k by omega] at h6
      refine hold k hk1 hk3 hk4 ?_
      rw [h6]
      exact (SmS.sect he hq b (k - u)).epoch
/-- The log behind a crash: some first ones of its records, and at least the sure ones. -/
theorem log_outcome (he : Sm e) (hlen : ∀ i, i < N → (S i).length = 32 ∧ (V i).length = 32) (hO : ∀ i, i < N → ∃ k, O i = mixS k (S i) (V i)) (hN : base + m ≤ N) {q : Int} {bs : List (List Int)} {c : Nat} (hc : c ≤ bs.length) (hL : LogR e S V base q 0 bs c)
    (hend : endU 0 bs ≤ m) {part : Option (List Int)} (hT : Tail e (q + bs.length) S V base m (endU 0 bs) part) :
    ∃ t, c ≤ t ∧ t ≤ bs.length ∧ scanP ((List.range m).flatMap fun k => O (base + k)) e m q 0 = (bs.take t, q + t, endU 0 (bs.take t)) := by
  obtain ⟨f, hfd⟩ : ∃ f : Nat → List Int, ∀ k, f k = if k < m then O (base + k) else List.replicate 32 0 := ⟨_, fun _ => rfl⟩
  have hf : ∀ k, k < m → f k = O (base + k) := fun k hk => by rw [hfd, if_pos hk]
  have hfl : ∀ k, (f k).length = 32 := fun k => by
    rw [hfd]
    split
    · obtain ⟨n, hn⟩ := hO (base + k) (by omega)
      have := hlen (base + k) (by omega)
      rw [hn, mix_len (by omega)]
      exact this.1
    · simp
  rw [← flatMap_range_congr m hf]
  obtain ⟨h1, h2⟩ := placed_of he (fun i hi => (hlen i hi).1) hO hN hf bs q 0 c hL hend
  obtain ⟨t, ht, hs, hw⟩ := scan_placed he hfl bs q 0 m h1 hend (by omega) (fun r hr hh => tail_stop he (fun i hi => (hlen i hi).1) hO hN hf hfl hend hT r hr hh.1)
  exact ⟨t, hw c hc h2, ht, hs⟩
end
end Go.Proofs.YtgmeahogdjhejaaDoor
