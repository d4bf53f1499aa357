/- Journals: the plain law of WalAgain: sectors that nobody writes stay. -/
import Derived.Test.YtgmeahogdjhejaaGreatDoorWalLw
namespace Go.Proofs.YtgmeahogdjhejaaGreatDoor
set_option linter.unusedVariables false
set_option linter.unusedSimpArgs false
open Go.RowKit Go.Shelf

/-- The first m sectors are as d0's, and wait for nothing. -/
def Held (d0 d : DS) (m : Nat) : Prop := ∀ i : Nat, i < m → getE d.pend (i : Int) = none ∧ d.sure[i]? = d0.sure[i]?
theorem Held.writeR {d0 d : DS} {m : Nat} (h : Held d0 d m) {W : Int} (hf : d.Fine W) (a : Nat) (ha : m ≤ a) (xs : List Int) : Held d0 (d.writeR a xs).1 m := by
  unfold DS.writeR
  split
  · exact h
  · split
    · exact h
    · intro i hi
      refine ⟨?_, ?_⟩
      · show getE (putE d.pend (a : Int) _) (i : Int) = none
        rw [getE_putE _ hf.keys, if_neg (by omega)]
        exact (h i hi).1
      · show d.spend.1.sure[i]? = _
        rw [(DS.spend_fuse hf.fuse).2.2.1]
        exact (h i hi).2
theorem Held.lay {d0 : DS} {m : Nat} : ∀ (n : Nat) {d : DS} (_ : Held d0 d m) {W : Int} (_ : d.Fine W) (a : Nat) (_ : m ≤ a) {s : List Int} (_ : ∀ x ∈ s, 0 ≤ x ∧ x ≤ 255), Held d0 (d.lay a n s).1 m
  | 0, _, h, _, _, _, _, _, _ => h
  | n + 1, d, h, W, hf, a, ha, s, hb => by
    unfold DS.lay
    split
    · exact Held.lay n (h.writeR hf a ha _) (hf.writeR (i := a) (xs := s.take 32) (fun x hx => hb x (List.mem_of_mem_take hx))) (a + 1) (by omega) (s := s.drop 32) (fun x hx => hb x (List.mem_of_mem_drop hx))
    · exact h.writeR hf a ha _
theorem Held.flushR {d0 d : DS} {m : Nat} (h : Held d0 d m) {W : Int} (hf : d.Fine W) : Held d0 d.flushR.1 m := by
  unfold DS.flushR
  split
  · exact h
  · intro i hi
    refine ⟨by show getE [] (i : Int) = none; exact getE_nil _, ?_⟩
    show (applyAll d.sure d.pend)[i]? = _
    rw [← (h i hi).2]
    by_cases hl : i < d.sure.length
    · rw [applyAll_get d.pend hf.keys (fun p hp => (hf.pend p hp).2.1) d.sure i hl, (h i hi).1, Option.getD_none, List.getElem?_eq_getElem hl]
    · rw [List.getElem?_eq_none (by rw [applyAll_length]; omega), List.getElem?_eq_none (by omega)]
theorem crashTo_off (d : DS) {W : Int} (hf : d.Fine W) (keep torn cut : Int) (i : Nat) (h : getE d.pend (i : Int) = none) : ∀ n, n ≤ d.pend.length → (crashTo d keep torn cut n)[i]? = d.sure[i]?
  | 0, _ => rfl
  | n + 1, hn => by
    rw [crashTo_succ, List.getElem?_set_ne, crashTo_off d hf keep torn cut i h n (by omega)]
    intro he
    obtain ⟨v, hv⟩ := sortedKeys_at d.pend n (by omega)
    have h0 := (hf.pend _ hv).2.1
    have h1 : ((sortedKeys d.pend).getD n 0) = (i : Int) := by simp only at h0; omega
    rw [h1] at hv
    rw [getE_of_mem hf.keys hv] at h
    cases h
theorem Held.crash {d0 d : DS} {m : Nat} (h : Held d0 d m) {W : Int} (hf : d.Fine W) (keep torn cut : Int) : Held d0 (d.crash keep torn cut) m := fun i hi =>
  ⟨getE_nil _, by rw [← (h i hi).2]; exact crashTo_off d hf keep torn cut i (h i hi).1 _ (Nat.le_refl _)⟩
theorem Held.append {d0 d : DS} {m : Nat} (h : Held d0 d m) {W : Int} (hf : d.Fine W) {j : JS} (hm : m ≤ 2 * j.slot) {b : List Int} (hb : Bytes b) : Held d0 (appendP d j b).1 m := by
  unfold appendP
  split
  · exact h
  · split
    · exact h
    · split
      · exact h
      · split
        · exact h
        · have := Held.lay (countP b.length) h hf (2 * j.slot + j.used) (by omega) (lay_bytes (e := j.epoch) (q := j.seq + 1) hb)
          simp only
          split <;> exact this
theorem Held.commit {d0 d : DS} {m : Nat} (h : Held d0 d m) {W : Int} (hf : d.Fine W) (j : JS) : Held d0 (commitP d j).1 m := by
  unfold commitP
  split
  · exact h
  · split
    · exact h
    · exact h.flushR hf
theorem Held.sec {d0 d : DS} {m : Nat} (h : Held d0 d m) (h0 : d0.pend = []) {i : Nat} (hi : i < m) : d.sec i = d0.sec i := by
  unfold DS.sec DS.is
  rw [(h i hi).1, h0, getE_nil]
  simp only [Option.getD_none, Int.toNat_natCast, List.getD_eq_getElem?_getD]
  rw [(h i hi).2]
theorem Held.best {d0 d : DS} {slot : Nat} (h : Held d0 d (2 * slot)) (h0 : d0.pend = []) : bestP d slot = bestP d0 slot := by
  have h1 : ∀ a, a + slot ≤ 2 * slot → d.between a slot = d0.between a slot := fun a ha => flatMap_range_congr slot (fun i hi => h.sec h0 (by omega))
  unfold bestP
  rw [h1 0 (by omega), h1 slot (by omega)]
theorem open_of_best {d d0 : DS} {slot log : Nat} (h : bestP d slot = bestP d0 slot) (h0 : (bestP d0 slot).isSome = true) : ∃ j st xss, openP d slot log = some (j, st, xss) := by
  unfold openP
  rw [h]
  cases hb : bestP d0 slot with
  | none => rw [hb] at h0; cases h0
  | some ap => exact ⟨_, _, _, rfl⟩
theorem crash_still (d : DS) (h1 : d.fuse = -1) (h2 : d.pend = []) (keep torn cut : Int) : d.crash keep torn cut = d := by
  obtain ⟨f, s, p, w⟩ := d
  simp only at h1 h2
  subst h1 h2
  rfl
/-- What WalAgain begins with. -/
def ag0 : DS := DS.new 60
def ag1 : DS := (formatP ag0 2 50 []).1
def agj : JS := ⟨2, 50, 1, 0, 0, 0, false, false⟩
def ag2 := checkpointP ag1 agj []
theorem ag_fo : formatP ag0 2 50 [] = (ag1, 0) := Prod.ext rfl (show (formatP ag0 2 50 []).2 = 0 by kernel_rfl)
theorem ag_op : openP ag1 2 50 = some (agj, [], []) := by kernel_rfl
theorem ag_best : (bestP ag2.1 2).isSome = true := by kernel_rfl
theorem ag_pend : ag2.1.pend = [] := by kernel_rfl
theorem ag_slot : ag2.2.1.slot = 2 := by kernel_rfl
theorem ag_log : ag2.2.1.log = 50 := by kernel_rfl
theorem ag_f0 : ag0.Fine 0 := DS.Fine.new 60 (by omega)
theorem ag_l0 : ag0.sure.length = 60 := by kernel_rfl
theorem ag_f1 : ag1.Fine 3000 ∧ ag1.sure.length = 60 := by
  have h := format_fine ag_f0 2 50 (st := []) (by simp [Bytes])
  exact ⟨h.1, h.2.trans ag_l0⟩
theorem ag_may : mayP 60 ((2 : Nat) : Int) ((50 : Nat) : Int) := ⟨by decide, by decide, by decide, by decide, by decide⟩
theorem ag_k1 : agj.Ok 60 := ⟨ag_may, ⟨by decide, by decide⟩, ⟨by decide, by decide⟩, by decide, by decide⟩
theorem ag_f2 : ag2.1.Fine 6000 ∧ ag2.1.sure.length = 60 ∧ ag2.2.1.Ok 60 := by
  have h := checkpoint_ok ag_f1.1 ag_f1.2 ag_k1 (st := []) (by simp [Bytes])
  unfold ag2
  exact ⟨h.1.mono (by omega), h.2.1, h.2.2⟩
theorem held_self {d : DS} (h : d.pend = []) (m : Nat) : Held d d m := fun i _ => ⟨by rw [h]; exact getE_nil _, rfl⟩
theorem ag_held : Held ag2.1 ag2.1 4 := held_self ag_pend 4
theorem scan_len (s : List Int) (e : Int) : ∀ (f : Nat) (q : Int) (u : Nat), (scanP s e f q u).1.length ≤ f
  | 0, _, _ => Nat.le_refl _
  | f + 1, q, u => by
    by_cases h : ∃ r, liftP (s.drop (32 * u)) = some r ∧ r.epoch = e ∧ r.seq = q + 1
    · obtain ⟨r, hl, he, hr⟩ := h
      rw [scan_more hl he hr, List.length_cons]
      have := scan_len s e f (q + 1) (u + r.sectors)
      omega
    · rw [scan_end (fun r hl hr => h ⟨r, hl, hr.1, hr.2⟩)]
      exact Nat.zero_le _
theorem open_len {d : DS} {slot log : Nat} {j : JS} {st : List Int} {xss : List (List Int)} (h : openP d slot log = some (j, st, xss)) : xss.length ≤ log := by
  unfold openP at h
  split at h
  · cases h
  · simp only at h
    cases h
    exact scan_len _ _ _ _ _
/-- What WalAgain begins with, in plain words. -/
structure Ag (d0 d1 d2 : DS) (j1 j2 : JS) : Prop where
  f0 : d0.Fine 6000
  f1 : d1.Fine 6000
  f2 : d2.Fine 6000
  l1 : d1.sure.length = 60
  l2 : d2.sure.length = 60
  k1 : j1.Ok 60
  k2 : j2.Ok 60
  fo : formatP d0 2 50 [] = (d1, 0)
  op : openP d1 2 50 = some (j1, [], [])
  ck : checkpointP d1 j1 [] = (d2, j2, 0)
  slot : j2.slot = 2
  log : j2.log = 50
  best : (bestP d2 2).isSome = true
  pend : d2.pend = []
theorem prodA {α β γ : Type} (r : α × β × γ) {c : γ} (h : r.2.2 = c) : r = (r.1, r.2.1, c) := by rw [← h]
theorem ag : Ag ag0 ag1 ag2.1 agj ag2.2.1 where
  f0 := ag_f0.mono (by omega)
  f1 := ag_f1.1.mono (by omega)
  f2 := ag_f2.1
  l1 := ag_f1.2
  l2 := ag_f2.2.1
  k1 := ag_k1
  k2 := ag_f2.2.2
  fo := ag_fo
  op := ag_op
  ck := prodA ag2 (show ag2.2.2 = 0 by kernel_rfl)
  slot := ag_slot
  log := ag_log
  best := ag_best
  pend := ag_pend
end Go.Proofs.YtgmeahogdjhejaaGreatDoor
