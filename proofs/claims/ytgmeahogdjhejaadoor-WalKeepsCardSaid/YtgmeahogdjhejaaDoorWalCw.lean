/- Journals: the plain law of crashes, sixth part: a checkpoint in flight; the log's records behind a crash. -/
import Derived.Test.YtgmeahogdjhejaaDoorWalCv
namespace Go.Proofs.YtgmeahogdjhejaaDoor
set_option linter.unusedVariables false
set_option linter.unusedSimpArgs false
open Go.RowKit Go.Shelf

theorem mix_zero (a b : List Int) : mixS 0 a b = a := by simp [mixS]
theorem mix_take24 {a b : List Int} (hal : a.length = 32) (hbl : b.length = 32) (c : Nat) : (mixS c a b).take 24 = mixS (min c 24) (a.take 24) (b.take 24) := by
  apply List.ext_getElem?
  intro j
  rw [mix_at (by rw [List.length_take, List.length_take, hal, hbl]), List.getElem?_take, mix_at (by rw [hal, hbl]), List.getElem?_take, List.getElem?_take]
  by_cases hj : j < 24
  · by_cases hc : j < c
    · rw [if_pos hj, if_pos hc, if_pos (by omega), if_pos hj]
    · rw [if_pos hj, if_neg hc, if_neg (by omega), if_pos hj]
  · simp [hj]
theorem mix_mix {a b : List Int} (h : a.length = b.length) (c c0 : Nat) : mixS c (mixS c0 a b) b = mixS (max c0 c) a b := by
  apply List.ext_getElem?
  intro j
  rw [mix_at (by rw [mix_len h, h]), mix_at h, mix_at h]
  by_cases h1 : j < c
  · rw [if_pos h1, if_pos (by omega)]
  · rw [if_neg h1]
    by_cases h2 : j < c0
    · rw [if_pos h2, if_pos (by omega)]
    · rw [if_neg h2, if_neg (by omega)]
theorem of_parts {s D m : List Int} (h1 : s.take 24 = D) (h2 : s.drop 24 = m) : s = D ++ m := by rw [← h1, ← h2, List.take_append_drop]
theorem cp_take (e q n : Nat) : (cpS e q n).take 24 = cpD e q n := by rw [cpS_eq, List.take_left' (cpD_len _ _ _)]
/-- What a crash leaves of a checkpoint in flight. -/
def Left (e E q2 n2 : Nat) (s : List Int) : Prop := OthS e q2 n2 s ∧ s.length = 32 ∧ ∃ z w : Nat, SmS s z w ∧ z ≤ E ∧ w < 64
theorem left_low {e : Nat} {s : List Int} {ea qa : Nat} (hl : s.length = 32) (hs : SmS s ea qa) (hea : ea < e) (hqa : qa < 64) {E qf nf : Nat} (hE : e < E) (hE2 : E < 63) (hqf : qf < 64) (hnf : nf < 64) (c : Nat) :
    mixS c s (cpS E qf nf) = cpS E qf nf ∨ ∀ q2 n2, Left e E q2 n2 (mixS c s (cpS E qf nf)) := by
  have hm := mix_cases hs (cpS_sm (e := E) (q := qf) (by omega) (by omega) nf) hl (cpS_len _ _ _) c
  rcases hm.2 with h | ⟨h1, h2⟩ | h
  · exact .inr fun q2 n2 => ⟨.inl ⟨hm.1, ea, qa, h, hea, hqa⟩, hm.1, ea, qa, h, by omega, hqa⟩
  · rw [cp_take] at h1
    have h3 := of_parts h1 h2.2.2
    by_cases hq : qa = qf
    · subst hq; exact .inl h3
    · exact .inr fun q2 n2 => ⟨.inr ⟨E, qa, qf, nf, 0, hE, hE2, hqa, hqf, hnf, hq, by rw [mix_zero]; exact h3⟩, hm.1, E, qa, h2, Nat.le_refl _, hqa⟩
  · exact .inl h
theorem left_high {e x y q1 n1 c0 q2 n2 : Nat} (hex : e < x) (hx : x + 1 < 63) (hy : y < 64) (hq1 : q1 < 64) (hn1 : n1 < 64) (hne : y ≠ q1) (hq2 : q2 < 64) (hn2 : n2 < 64) (c : Nat) :
    mixS c (mixS c0 (cpD x q1 n1) (cpD (x + 1) q2 n2) ++ markP (x : Int) (y : Int)) (cpS (x + 1) q2 n2) = cpS (x + 1) q2 n2 ∨ Left e (x + 1) q2 n2 (mixS c (mixS c0 (cpD x q1 n1) (cpD (x + 1) q2 n2) ++ markP (x : Int) (y : Int)) (cpS (x + 1) q2 n2)) := by
  have hDl : (cpD x q1 n1).length = (cpD (x + 1) q2 n2).length := by rw [cpD_len, cpD_len]
  have hml : (mixS c0 (cpD x q1 n1) (cpD (x + 1) q2 n2)).length = 24 := by rw [mix_len hDl, cpD_len]
  have hs : SmS (mixS c0 (cpD x q1 n1) (cpD (x + 1) q2 n2) ++ markP (x : Int) (y : Int)) x y := ⟨⟨by omega, by omega⟩, ⟨by omega, by omega⟩, List.drop_left' hml⟩
  have hl : (mixS c0 (cpD x q1 n1) (cpD (x + 1) q2 n2) ++ markP (x : Int) (y : Int)).length = 32 := by rw [List.length_append, hml, markP_len]
  have hm := mix_cases hs (cpS_sm (e := x + 1) (q := q2) (by omega) (by omega) n2) hl (cpS_len _ _ _) c
  rcases hm.2 with h | ⟨h1, h2⟩ | h
  · right
    refine ⟨.inr ⟨x, y, q1, n1, max c0 (min c 24), hex, by omega, hy, hq1, hn1, hne, ?_⟩, hm.1, x, y, h, by omega, hy⟩
    refine of_parts ?_ h.2.2
    rw [mix_take24 hl (cpS_len _ _ _), List.take_left' hml, cp_take, mix_mix hDl]
  · rw [cp_take] at h1
    have h3 := of_parts h1 h2.2.2
    by_cases hq : y = q2
    · subst hq; exact .inl h3
    · exact .inr ⟨.inr ⟨x + 1, y, q2, n2, 0, by omega, hx, hy, hq2, hn2, hq, by rw [mix_zero]; exact h3⟩, hm.1, x + 1, y, h2, Nat.le_refl _, hy⟩
  · exact .inl h
/-! ### The log -/
theorem drop_flat {f : Nat → List Int} (hf : ∀ k, (f k).length = 32) {m u : Nat} (hu : u ≤ m) : ((List.range m).flatMap f).drop (32 * u) = (List.range (m - u)).flatMap fun k => f (u + k) := by
  obtain ⟨d, rfl⟩ : ∃ d, m = u + d := ⟨m - u, by omega⟩
  rw [List.range_add, List.flatMap_append, List.drop_left' (by rw [flatR_len hf]; omega), show u + d - u = d by omega, List.flatMap_map]
/-- Records that lie behind one another, as sectors f hold them: each sector is the record's, or of another epoch, or like the record's. -/
def PlacedO (e : Int) (f : Nat → List Int) : Int → Nat → List (List Int) → Prop
  | _, _, [] => True
  | q, u, b :: bs => (∀ k, k < countP b.length → Near e (dataP e (q + 1) b k) (f (u + k))) ∧ Bytes b ∧ b.length ≤ 65535 ∧ Sm (q + 1) ∧ PlacedO e f (q + 1) (u + countP b.length) bs
def WholeO (e : Int) (f : Nat → List Int) : Int → Nat → List (List Int) → Prop
  | _, _, [] => True
  | q, u, b :: bs => (∀ k, k < countP b.length → f (u + k) = sectP (markP e (q + 1)) (matterP e (q + 1) b) k) ∧ WholeO e f (q + 1) (u + countP b.length) bs
def endU (u : Nat) : List (List Int) → Nat
  | [] => u
  | b :: bs => endU (u + countP b.length) bs
theorem endU_ge : ∀ (bs : List (List Int)) (u : Nat), u ≤ endU u bs
  | [], _ => Nat.le_refl _
  | b :: bs, u => by
    have := endU_ge bs (u + countP b.length)
    show u ≤ endU (u + countP b.length) bs
    omega
theorem lift_whole {e q : Int} (he : Sm e) (hq : Sm q) {b : List Int} (hb : b.length ≤ 65535) {f : Nat → List Int} {m : Nat} (hm : countP b.length ≤ m) (h : ∀ k, k < countP b.length → f k = sectP (markP e q) (matterP e q b) k) :
    liftP ((List.range m).flatMap f) = some ⟨e, q, b, countP b.length⟩ := by
  obtain ⟨d, rfl⟩ : ∃ d, m = countP b.length + d := ⟨m - countP b.length, by omega⟩
  rw [List.range_add, List.flatMap_append, flatMap_range_congr _ h]
  exact lift_lay he.u32 hq.u32 hb _
theorem scan_placed {e : Int} (he : Sm e) {m : Nat} {f : Nat → List Int} (hf : ∀ k, (f k).length = 32) : ∀ (bs : List (List Int)) (q : Int) (u fuel : Nat), PlacedO e f q u bs → endU u bs ≤ m → m ≤ fuel + u →
    (∀ r, liftP (((List.range m).flatMap f).drop (32 * endU u bs)) = some r → ¬ (r.epoch = e ∧ r.seq = q + bs.length + 1)) →
    ∃ t, t ≤ bs.length ∧ scanP ((List.range m).flatMap f) e fuel q u = (bs.take t, q + t, endU u (bs.take t)) ∧ ∀ c, c ≤ bs.length → WholeO e f q u (bs.take c) → c ≤ t
  | [], q, u, fuel, _, _, _, hstop => ⟨0, Nat.le_refl _, by
      rw [scan_end (used := u) (fun r hr hh => hstop r hr ⟨hh.1, by rw [hh.2]; simp⟩)]
      simp [endU], fun c hc _ => hc⟩
  | b :: bs, q, u, fuel, hp, hend, hfu, hstop => by
    obtain ⟨h1, h2, h3, h4, h5⟩ := hp
    have hge := endU_ge bs (u + countP b.length)
    have hpos := count_pos b.length
    have hend' : endU (u + countP b.length) bs ≤ m := hend
    by_cases h : ∃ r, liftP (((List.range m).flatMap f).drop (32 * u)) = some r ∧ r.epoch = e ∧ r.seq = q + 1
    · obtain ⟨r, hl, hre, hrq⟩ := h
      have hl2 := hl
      rw [drop_flat hf (by omega)] at hl2
      obtain ⟨hr, hM, hsec⟩ := lift_near he h4 h2 h3 (fun k => hf _) (fun k _ hk => h1 k hk) hl2 hre
      obtain ⟨fuel', rfl⟩ : ∃ fuel', fuel = fuel' + 1 := ⟨fuel - 1, by omega⟩
      obtain ⟨t, ht, hsc, hw⟩ := scan_placed he hf bs (q + 1) (u + countP b.length) fuel' h5 hend' (by omega) (fun r hr' hh => hstop r hr' ⟨hh.1, by rw [hh.2, List.length_cons]; push_cast; omega⟩)
      refine ⟨t + 1, by rw [List.length_cons]; omega, ?_, fun c hc hwc => ?_⟩
      · rw [scan_more hl hre hrq, hr]
        simp only [hsc, List.take_succ_cons]
        refine Prod.ext rfl (Prod.ext ?_ rfl)
        show q + 1 + (t : Int) = q + ((t + 1 : Nat) : Int)
        omega
      · cases c with
        | zero => omega
        | succ c =>
          rw [List.take_succ_cons] at hwc
          have := hw c (by rw [List.length_cons] at hc; omega) hwc.2
          omega
    · refine ⟨0, Nat.zero_le _, ?_, fun c hc hwc => ?_⟩
      · rw [scan_end (fun r hr hh => h ⟨r, hr, hh.1, hh.2⟩)]
        simp [endU]
      · cases c with
        | zero => omega
        | succ c =>
          exfalso
          rw [List.take_succ_cons] at hwc
          refine h ⟨⟨e, q + 1, b, countP b.length⟩, ?_, rfl, rfl⟩
          rw [drop_flat hf (by omega)]
          exact lift_whole he h4 h3 (by omega) hwc.1
end Go.Proofs.YtgmeahogdjhejaaDoor
