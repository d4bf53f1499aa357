/- Journals: the plain law: what stays within its bounds. -/
import Derived.Test.YtgmeahogdjhejaaGreatDoorWalY
import Derived.Test.YtgmeahogdjhejaaGreatDoorWalU
namespace Go.Proofs.YtgmeahogdjhejaaGreatDoor
set_option linter.unusedVariables false
set_option linter.unusedSimpArgs false
open Go.RowKit Go.Shelf

theorem spend_len {d : DS} {W : Int} (hf : d.Fine W) : d.spend.1.sure.length = d.sure.length := by rw [(DS.spend_fuse hf.fuse).2.2.1]
theorem writeR_len {d : DS} {W : Int} (hf : d.Fine W) (i : Int) (xs : List Int) : (d.writeR i xs).1.sure.length = d.sure.length := by
  unfold DS.writeR
  split
  · rfl
  · split
    · rfl
    · exact spend_len hf
theorem flushR_len (d : DS) : d.flushR.1.sure.length = d.sure.length := by
  unfold DS.flushR
  split
  · rfl
  · exact applyAll_length _ _
theorem crashTo_len (d : DS) (keep torn cut : Int) : ∀ n, (crashTo d keep torn cut n).length = d.sure.length := by
  intro n
  induction n with
  | zero => rfl
  | succ n ih => rw [crashTo_succ, List.length_set, ih]
theorem crash_len (d : DS) (keep torn cut : Int) : (d.crash keep torn cut).sure.length = d.sure.length := crashTo_len d keep torn cut _
theorem lay_len : ∀ (n : Nat) {d : DS} {W : Int} (_ : d.Fine W) (a : Nat) {s : List Int} (_ : ∀ x ∈ s, 0 ≤ x ∧ x ≤ 255), (d.lay a n s).1.sure.length = d.sure.length
  | 0, _, _, _, _, _, _ => rfl
  | n + 1, d, W, hf, a, s, hb => by
    unfold DS.lay
    split
    · rw [lay_len n (hf.writeR (i := a) (xs := s.take 32) (fun x hx => hb x (List.mem_of_mem_take hx))) (a + 1) (s := s.drop 32) (fun x hx => hb x (List.mem_of_mem_drop hx)), writeR_len hf]
    · exact writeR_len hf _ _
theorem count_le {n : Nat} (h : n ≤ 65535) : 1 ≤ countP n ∧ countP n ≤ 2732 := by unfold countP; omega
theorem recErr_zero {slot : Nat} {e : Int} {n : Nat} (h : recErr slot e n = 0) : n ≤ 65535 ∧ e ≤ 4294967295 ∧ countP n ≤ slot := by
  unfold recErr at h
  split at h
  · omega
  · split at h <;> omega
def Bytes (xs : List Int) : Prop := ∀ x ∈ xs, 0 ≤ x ∧ x ≤ 255
theorem format_fine {d : DS} {W : Int} (hf : d.Fine W) (slot log : Int) {st : List Int} (hb : Bytes st) : (formatP d slot log st).1.Fine (W + 3000) ∧ (formatP d slot log st).1.sure.length = d.sure.length := by
  unfold formatP
  split
  · exact ⟨hf.mono (by omega), rfl⟩
  · split
    · exact ⟨hf.mono (by omega), rfl⟩
    · rename_i h1 h2
      have hn := count_le (recErr_zero (Decidable.not_not.1 h2)).1
      have hl := hf.lay (countP st.length) 0 (lay_bytes (e := 1) (q := 0) hb)
      have hl2 := lay_len (countP st.length) hf 0 (lay_bytes (e := 1) (q := 0) hb)
      split
      · exact ⟨hl.mono (by omega), hl2⟩
      · exact ⟨hl.flushR.mono (by omega), by rw [flushR_len, hl2]⟩
theorem checkpoint_fine {d : DS} {W : Int} (hf : d.Fine W) {j : JS} (hj : j.Ok d.sure.length) {st : List Int} (hb : Bytes st) :
    (checkpointP d j st).1.Fine (W + 3000) ∧ (checkpointP d j st).1.sure.length = d.sure.length ∧ (checkpointP d j st).2.1.Ok d.sure.length ∧ (checkpointP d j st).2.1.slot = j.slot ∧ (checkpointP d j st).2.1.log = j.log := by
  unfold checkpointP
  split
  · exact ⟨hf.mono (by omega), rfl, hj, rfl, rfl⟩
  · dsimp only
    split
    · exact ⟨hf.mono (by omega), rfl, hj, rfl, rfl⟩
    · rename_i h1 h2
      have hz := recErr_zero (Decidable.not_not.1 h2)
      have hn := count_le hz.1
      have ht := top_u32 hf (2 * j.slot + j.log) (by have := hj.may.2.2.2.2; omega)
      have hl := hf.lay (countP st.length) ((1 - j.place) * j.slot) (lay_bytes (e := topP d (2 * j.slot + j.log) + 1) (q := j.seq) hb)
      have hl2 := lay_len (countP st.length) hf ((1 - j.place) * j.slot) (lay_bytes (e := topP d (2 * j.slot + j.log) + 1) (q := j.seq) hb)
      split
      · exact ⟨hl.mono (by omega), hl2, ⟨hj.may, hj.epoch, hj.seq, hj.place, hj.used⟩, rfl, rfl⟩
      · split
        · exact ⟨hl.flushR.mono (by omega), by rw [flushR_len, hl2], ⟨hj.may, hj.epoch, hj.seq, hj.place, hj.used⟩, rfl, rfl⟩
        · exact ⟨hl.flushR.mono (by omega), by rw [flushR_len, hl2], ⟨hj.may, ⟨by show 0 ≤ topP d (2 * j.slot + j.log) + 1; omega, by show topP d (2 * j.slot + j.log) + 1 ≤ _; omega⟩, hj.seq, by show 1 - j.place ≤ 1; omega, Nat.zero_le _⟩, rfl, rfl⟩
theorem append_fine {d : DS} {W : Int} (hf : d.Fine W) {j : JS} (hj : j.Ok d.sure.length) {b : List Int} (hb : Bytes b) :
    (appendP d j b).1.Fine (W + 3000) ∧ (appendP d j b).1.sure.length = d.sure.length ∧ (appendP d j b).2.1.Ok d.sure.length ∧ (appendP d j b).2.1.slot = j.slot ∧ (appendP d j b).2.1.log = j.log := by
  unfold appendP
  split
  · exact ⟨hf.mono (by omega), rfl, hj, rfl, rfl⟩
  · split
    · exact ⟨hf.mono (by omega), rfl, hj, rfl, rfl⟩
    · split
      · exact ⟨hf.mono (by omega), rfl, hj, rfl, rfl⟩
      · rename_i h3
        split
        · exact ⟨hf.mono (by omega), rfl, hj, rfl, rfl⟩
        · rename_i h4
          have hn := count_le (n := b.length) (by omega)
          have hl := hf.lay (countP b.length) (2 * j.slot + j.used) (lay_bytes (e := j.epoch) (q := j.seq + 1) hb)
          have hl2 := lay_len (countP b.length) hf (2 * j.slot + j.used) (lay_bytes (e := j.epoch) (q := j.seq + 1) hb)
          simp only
          split
          · exact ⟨hl.mono (by omega), hl2, ⟨hj.may, hj.epoch, hj.seq, hj.place, hj.used⟩, rfl, rfl⟩
          · have hu := hj.used
            have hq := hj.seq
            refine ⟨hl.mono (by omega), hl2, ⟨hj.may, hj.epoch, ⟨by have := hq.1; show 0 ≤ j.seq + 1; omega, by have := hq.2; show j.seq + 1 ≤ _; omega⟩, hj.place, by show j.used + countP b.length ≤ j.log; omega⟩, rfl, rfl⟩
theorem commit_fine {d : DS} {W : Int} (hf : d.Fine W) {j : JS} (hj : j.Ok d.sure.length) :
    (commitP d j).1.Fine W ∧ (commitP d j).1.sure.length = d.sure.length ∧ (commitP d j).2.1.Ok d.sure.length ∧ (commitP d j).2.1.slot = j.slot ∧ (commitP d j).2.1.log = j.log := by
  unfold commitP
  split
  · exact ⟨hf, rfl, hj, rfl, rfl⟩
  · split
    · exact ⟨hf, rfl, hj, rfl, rfl⟩
    · exact ⟨hf.flushR, flushR_len d, ⟨hj.may, hj.epoch, hj.seq, hj.place, hj.used⟩, rfl, rfl⟩
theorem scan_ok {s : List Int} (hb : Bytes s) {log : Nat} (hs : s.length = 32 * log) (epoch : Int) : ∀ (f : Nat) (seq : Int) (used : Nat), U32 seq → used ≤ log →
    U32 (scanP s epoch f seq used).2.1 ∧ (scanP s epoch f seq used).2.2 ≤ log ∧ used ≤ (scanP s epoch f seq used).2.2 ∧ ∀ b ∈ (scanP s epoch f seq used).1, Bytes b ∧ b.length ≤ 65535
  | 0, seq, used, hq, hu => ⟨hq, hu, Nat.le_refl _, by intro b hb; simp [scanP] at hb⟩
  | f + 1, seq, used, hq, hu => by
    by_cases h : ∃ r, liftP (s.drop (32 * used)) = some r ∧ r.epoch = epoch ∧ r.seq = seq + 1
    · obtain ⟨r, hl, he, hr⟩ := h
      rw [scan_more hl he hr]
      have hfa := lift_facts (fun x hx => hb x (List.mem_of_mem_drop hx)) hl
      have hd : (s.drop (32 * used)).length = 32 * log - 32 * used := by rw [List.length_drop, hs]
      have h1 := hfa.2.2.2.2.1
      rw [hd] at h1
      obtain ⟨h2, h3, h5, h4⟩ := scan_ok hb hs epoch f (seq + 1) (used + r.sectors) (by rw [← hr]; exact hfa.2.1) (by omega)
      refine ⟨h2, h3, by simp only; omega, fun b hb' => ?_⟩
      rcases List.mem_cons.1 hb' with rfl | hb'
      · exact ⟨hfa.2.2.2.2.2, hfa.2.2.1⟩
      · exact h4 b hb'
    · rw [scan_end (fun r hl hr => h ⟨r, hl, hr.1, hr.2⟩)]
      exact ⟨hq, hu, Nat.le_refl _, by intro b hb; simp at hb⟩
theorem best_ok {d : DS} {W : Int} (hf : d.Fine W) {slot : Nat} (h : 2 * slot ≤ d.sure.length) {a : Rec} {p : Nat} (hbest : bestP d slot = some (a, p)) : U32 a.epoch ∧ U32 a.seq ∧ p ≤ 1 ∧ Bytes a.bytes ∧ a.bytes.length ≤ 65535 := by
  have h0 := fun r (hl : liftP (d.between 0 slot) = some r) => lift_facts (DS.between_bytes hf 0 slot (by omega)) hl
  have h1 := fun r (hl : liftP (d.between slot slot) = some r) => lift_facts (DS.between_bytes hf slot slot (by omega)) hl
  unfold bestP at hbest
  split at hbest
  · cases hbest
  · rename_i r hl _
    cases hbest
    exact ⟨(h0 a hl).1, (h0 a hl).2.1, by omega, (h0 a hl).2.2.2.2.2, (h0 a hl).2.2.1⟩
  · rename_i r _ hl
    cases hbest
    exact ⟨(h1 a hl).1, (h1 a hl).2.1, by omega, (h1 a hl).2.2.2.2.2, (h1 a hl).2.2.1⟩
  · rename_i r q hl hl2
    split at hbest
    · cases hbest
      exact ⟨(h1 a hl2).1, (h1 a hl2).2.1, by omega, (h1 a hl2).2.2.2.2.2, (h1 a hl2).2.2.1⟩
    · cases hbest
      exact ⟨(h0 a hl).1, (h0 a hl).2.1, by omega, (h0 a hl).2.2.2.2.2, (h0 a hl).2.2.1⟩
theorem open_ok {d : DS} {W : Int} (hf : d.Fine W) {slot log : Nat} (hm : mayP d.sure.length slot log) {j : JS} {st : List Int} {xss : List (List Int)} (h : openP d slot log = some (j, st, xss)) :
    j.Ok d.sure.length ∧ j.slot = slot ∧ j.log = log ∧ j.fresh = false ∧ j.refused = false ∧ Bytes st ∧ st.length ≤ 65535 ∧ ∀ b ∈ xss, Bytes b ∧ b.length ≤ 65535 := by
  unfold openP at h
  split at h
  · cases h
  · rename_i a p hbest
    have hb := best_ok hf (by have := hm.2.2.2.2; omega) hbest
    have hs := scan_ok (DS.between_bytes hf (2 * slot) log (by have := hm.2.2.2.2; omega)) (DS.between_len hf (2 * slot) log (by have := hm.2.2.2.2; omega)) a.epoch log a.seq 0 hb.2.1 (Nat.zero_le _)
    simp only at h
    cases h
    exact ⟨⟨hm, hb.1, hs.1, hb.2.2.1, hs.2.1⟩, rfl, rfl, rfl, rfl, hb.2.2.2.1, hb.2.2.2.2, hs.2.2.2⟩
theorem checkpoint_ok {d : DS} {W : Int} {N : Nat} (hf : d.Fine W) (hl : d.sure.length = N) {j : JS} (hj : j.Ok N) {st : List Int} (hb : Bytes st) : (checkpointP d j st).1.Fine (W + 3000) ∧ (checkpointP d j st).1.sure.length = N ∧ (checkpointP d j st).2.1.Ok N := by
  subst hl
  have h := checkpoint_fine hf hj hb
  exact ⟨h.1, h.2.1, h.2.2.1⟩
theorem append_ok {d : DS} {W : Int} {N : Nat} (hf : d.Fine W) (hl : d.sure.length = N) {j : JS} (hj : j.Ok N) {st : List Int} (hb : Bytes st) : (appendP d j st).1.Fine (W + 3000) ∧ (appendP d j st).1.sure.length = N ∧ (appendP d j st).2.1.Ok N := by
  subst hl
  have h := append_fine hf hj hb
  exact ⟨h.1, h.2.1, h.2.2.1⟩
theorem commit_ok {d : DS} {W : Int} {N : Nat} (hf : d.Fine W) (hl : d.sure.length = N) {j : JS} (hj : j.Ok N) : (commitP d j).1.Fine W ∧ (commitP d j).1.sure.length = N ∧ (commitP d j).2.1.Ok N := by
  subst hl
  have h := commit_fine hf hj
  exact ⟨h.1, h.2.1, h.2.2.1⟩
end Go.Proofs.YtgmeahogdjhejaaGreatDoor
