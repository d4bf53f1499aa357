/- Journals: the plain law of crashes, second part: what is lifted of sectors some of which are another record's. -/
import Derived.Test.YtgmeahogdjhejaaDoorWalCr
namespace Go.Proofs.YtgmeahogdjhejaaDoor
set_option linter.unusedVariables false
set_option linter.unusedSimpArgs false
open Go.RowKit Go.Shelf

def dataP (e q : Int) (b : List Int) (k : Nat) : List Int := (List.range 24).map fun j => (matterP e q b).getD (24 * k + j) 0
theorem sect_eq (e q : Int) (b : List Int) (k : Nat) : sectP (markP e q) (matterP e q b) k = dataP e q b k ++ markP e q := rfl
theorem data_len (e q : Int) (b : List Int) (k : Nat) : (dataP e q b k).length = 24 := by simp [dataP]
/-- A sector at a record's place: of another epoch, or with its data and its epoch. -/
def Near (e : Int) (D : List Int) (s : List Int) : Prop := epochP s ≠ e ∨ (s.take 24 = D ∧ ∃ q', Sm q' ∧ s.drop 24 = markP e q')
theorem Sm.u32 {n : Int} (h : Sm n) : U32 n := ⟨h.1, by have := h.2; omega⟩
theorem numB4_mark {e q : Int} (he : Sm e) (hq : Sm q) : numB ((markP e q).take 4) = e ∧ numB (((markP e q).drop 4).take 4) = q := by
  rw [mark_small he hq]
  constructor
  · show numB [0, 0, 0, e] = e
    simp [numB]
  · show numB [0, 0, 0, q] = q
    simp [numB]
theorem epoch_mark {s : List Int} {e q : Int} (he : Sm e) (hq : Sm q) (h : s.drop 24 = markP e q) : epochP s = e := by
  unfold epochP
  rw [h]
  exact (numB4_mark he hq).1
theorem seq_mark {s : List Int} {e q : Int} (he : Sm e) (hq : Sm q) (h : s.drop 24 = markP e q) : seqP s = q := by
  unfold seqP
  rw [show s.drop 28 = (s.drop 24).drop 4 by rw [List.drop_drop], h]
  exact (numB4_mark he hq).2
theorem matter_inj {e q q' : Int} {b b' : List Int} (he : Sm e) (hq : Sm q) (hq' : Sm q') (hb : Bytes b) (hl : b'.length = b.length) (h : matterP e q b = matterP e q' b') : b = b' ∧ q = q' := by
  unfold matterP at h
  have hlen : (matter0 b).length = (matter0 b').length := by simp [matter0, hl]
  obtain ⟨h1, h2⟩ := List.append_inj h hlen
  have hbb : b = b' := by
    unfold matter0 at h1
    exact (List.append_inj h1 (by simp [be2])).2
  subst hbb
  refine ⟨rfl, ?_⟩
  have h3 := congrArg numB h2
  rw [numB_be4 (crcTwo_rng _ _), numB_be4 (crcTwo_rng _ _)] at h3
  refine crc_tells he hq hq' (fun c hc => ?_) h3
  unfold matter0 at hc
  rcases List.mem_append.1 hc with hc | hc
  · simp only [be2, List.mem_cons, List.not_mem_nil, or_false] at hc
    rcases hc with rfl | rfl <;> exact ⟨by omega, by omega⟩
  · exact hb c hc
theorem matter_ext {d d' : List Int} {n : Nat} (hl : d.length = d'.length) (hn : d.length ≤ 24 * n) (h : ∀ k, k < n → ((List.range 24).map fun j => d.getD (24 * k + j) 0) = ((List.range 24).map fun j => d'.getD (24 * k + j) 0)) : d = d' := by
  apply List.ext_getElem?
  intro i
  by_cases hi : i < d.length
  · have hk := h (i / 24) (by omega)
    have h1 := congrArg (fun l => l[i % 24]?) hk
    simp only [List.getElem?_map, List.getElem?_range (show i % 24 < 24 by omega), Option.map_some, Option.some.injEq] at h1
    rw [show 24 * (i / 24) + i % 24 = i by omega, List.getD_eq_getElem?_getD, List.getD_eq_getElem?_getD, List.getElem?_eq_getElem hi, List.getElem?_eq_getElem (by omega)] at h1
    rw [List.getElem?_eq_getElem hi, List.getElem?_eq_getElem (by omega)]
    exact congrArg some h1
  · rw [List.getElem?_eq_none (by omega), List.getElem?_eq_none (by omega)]
/-- A record's place: if a record of that epoch is lifted, it is that record, and it is there whole. -/
theorem lift_near {e q : Int} {b : List Int} (he : Sm e) (hq : Sm q) (hb : Bytes b) (hl : b.length ≤ 65535) {M : Nat} {f : Nat → List Int} (hf : ∀ k, (f k).length = 32) (hnear : ∀ k, k < M → k < countP b.length → Near e (dataP e q b k) (f k))
    {r : Rec} (h : liftP ((List.range M).flatMap f) = some r) (hr : r.epoch = e) : r = ⟨e, q, b, countP b.length⟩ ∧ countP b.length ≤ M ∧ ∀ k, k < countP b.length → f k = sectP (markP e q) (matterP e q b) k := by
  have hc := count_pos b.length
  obtain ⟨s, hs⟩ : ∃ s, (List.range M).flatMap f = s := ⟨_, rfl⟩
  have hsl : s.length = M * 32 := by rw [← hs]; exact flatR_len hf M
  have hat : ∀ i j, i < M → j < 32 → s[i * 32 + j]? = (f i)[j]? := by rw [← hs]; exact flatR_at hf M
  rw [hs] at h
  unfold liftP at h
  split at h
  · cases h
  · rename_i h1
    split at h
    · cases h
    · rename_i h2
      split at h
      · rename_i h3
        cases h
        simp only at hr
        have hM : 0 < M := by omega
        have htk : ∀ a n, a + n ≤ 32 → (s.drop a).take n = ((f 0).drop a).take n := fun a n han => by
          apply List.ext_getElem?
          intro j
          rw [List.getElem?_take, List.getElem?_take]
          by_cases hj : j < n
          · rw [if_pos hj, if_pos hj, List.getElem?_drop, List.getElem?_drop]
            have := hat 0 (a + j) hM (by omega)
            rwa [Nat.zero_mul, Nat.zero_add] at this
          · rw [if_neg hj, if_neg hj]
        have hep : epochP s = epochP (f 0) := by unfold epochP; rw [htk 24 4 (by omega)]
        obtain ⟨h4, q0, hq0, h5⟩ := (hnear 0 hM hc).resolve_left (fun hn => hn (hep ▸ hr))
        have hseq : seqP s = q0 := by
          rw [← seq_mark he hq0 h5]
          unfold seqP
          rw [htk 28 4 (by omega)]
        have hlong : longP s = b.length := by
          have h6 : s.take 2 = be2 b.length := by
            have h7 := htk 0 2 (by omega)
            rw [List.drop_zero, List.drop_zero] at h7
            rw [h7, show (f 0).take 2 = ((f 0).take 24).take 2 by rw [List.take_take]; rfl, h4]
            rfl
          unfold longP
          rw [h6, numB_be2 (by omega), Int.toNat_natCast]
        rw [hlong] at h2 h3 ⊢
        rw [hr, hseq] at h3 ⊢
        have hnM : countP b.length ≤ M := by omega
        obtain ⟨b', hb'⟩ : ∃ b', unlayP s b.length = b' := ⟨_, rfl⟩
        rw [hb'] at h3 ⊢
        have hbl : b'.length = b.length := by rw [← hb']; simp [unlayP]
        have hsec : ∀ k, k < countP b.length → f k = sectP (markP e q0) (matterP e q0 b') k := fun k hk => by
          apply List.ext_getElem?
          intro j
          by_cases hj : j < 32
          · have h8 := lay_byte e q0 b' [] (i := k) (j := j) (by rw [hbl]; exact hk) hj
            rw [List.append_nil, h3, List.getElem?_take, if_pos (by omega), show 32 * k + j = k * 32 + j by omega, hat k j (by omega) hj] at h8
            exact h8
          · rw [List.getElem?_eq_none (by rw [hf]; omega), List.getElem?_eq_none (by rw [sectP_len (markP_len e q0)]; omega)]
        have hmat : matterP e q b = matterP e q0 b' := by
          refine matter_ext (n := countP b.length) (by rw [matterP_len, matterP_len, hbl]) (by rw [matterP_len]; unfold countP; omega) (fun k hk => ?_)
          have h9 := hsec k hk
          have h10 : epochP (f k) = e := by
            rw [h9]
            exact epoch_sect he.u32 q0 _ k
          obtain ⟨h11, _⟩ := (hnear k (by omega) hk).resolve_left (fun hn => hn h10)
          rw [h9, sect_eq, List.take_left' (data_len _ _ _ _)] at h11
          exact h11.symm
        obtain ⟨h12, h13⟩ := matter_inj he hq hq0 hb hbl hmat
        subst h12 h13
        exact ⟨rfl, hnM, hsec⟩
      · cases h
end Go.Proofs.YtgmeahogdjhejaaDoor
