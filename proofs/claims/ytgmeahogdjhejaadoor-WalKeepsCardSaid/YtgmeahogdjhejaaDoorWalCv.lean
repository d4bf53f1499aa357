/- Journals: the plain law of crashes, fifth part: the place that has no checkpoint. -/
import Derived.Test.YtgmeahogdjhejaaDoorWalCu
namespace Go.Proofs.YtgmeahogdjhejaaDoor
set_option linter.unusedVariables false
set_option linter.unusedSimpArgs false
open Go.RowKit Go.Shelf

theorem tell_len (n : Nat) : (tellN n).length = 2 := rfl
theorem tell_bytes {n : Nat} (h : n < 256) : Bytes (tellN n) := fun x hx => by
  simp only [tellN, List.mem_cons, List.not_mem_nil, or_false] at hx
  omega
theorem matter_tell {x y n : Nat} : matterP (x : Int) (y : Int) (tellN n) = [0, 2, 0, (n : Int), ((chk x y n / 16777216 % 256 : Nat) : Int), ((chk x y n / 65536 % 256 : Nat) : Int), ((chk x y n / 256 % 256 : Nat) : Int), ((chk x y n % 256 : Nat) : Int)] := by
  have h : crcTwo (markP (x : Int) (y : Int)) (matter0 (tellN n)) = ((chk x y n : Nat) : Int) := by
    unfold chk
    have := (crcTwo_rng (markP (x : Int) (y : Int)) (matter0 (tellN n))).1
    omega
  unfold matterP
  rw [h]
  have hm : matter0 (tellN n) = [0, 2, 0, (n : Int)] := by simp [matter0, tellN, be2]
  rw [hm]
  have a0 : ((chk x y n / 16777216 % 256 : Nat) : Int) = ((chk x y n : Nat) : Int) / 16777216 % 256 := by omega
  have a1 : ((chk x y n / 65536 % 256 : Nat) : Int) = ((chk x y n : Nat) : Int) / 65536 % 256 := by omega
  have a2 : ((chk x y n / 256 % 256 : Nat) : Int) = ((chk x y n : Nat) : Int) / 256 % 256 := by omega
  have a3 : ((chk x y n % 256 : Nat) : Int) = ((chk x y n : Nat) : Int) % 256 := by omega
  rw [a0, a1, a2, a3]
  rfl
/-- The sector of a checkpoint that tells n. -/
def cpS (e q n : Nat) : List Int := sectP (markP (e : Int) (q : Int)) (matterP (e : Int) (q : Int) (tellN n)) 0
def cpD (e q n : Nat) : List Int := dataP (e : Int) (q : Int) (tellN n) 0
theorem cpS_eq (e q n : Nat) : cpS e q n = cpD e q n ++ markP (e : Int) (q : Int) := rfl
theorem cpD_len (e q n : Nat) : (cpD e q n).length = 24 := data_len _ _ _ _
theorem cpS_len (e q n : Nat) : (cpS e q n).length = 32 := sectP_len (markP_len _ _) _ _
theorem cpS_sm {e q : Nat} (he : e < 256) (hq : q < 256) (n : Nat) : SmS (cpS e q n) e q := SmS.sect ⟨by omega, by omega⟩ ⟨by omega, by omega⟩ _ _
theorem lay_cp (e q n : Nat) : layP (e : Int) (q : Int) (tellN n) = cpS e q n := by
  unfold layP
  rw [tell_len]
  show (List.range 1).flatMap _ = _
  rw [show List.range 1 = [0] from rfl, List.flatMap_cons, List.flatMap_nil, List.append_nil]
  rfl
theorem cpD_at (e q n : Nat) {j : Nat} (hj : j < 24) : (cpD e q n)[j]? = some ((matterP (e : Int) (q : Int) (tellN n)).getD j 0) := by
  unfold cpD dataP
  rw [List.getElem?_map, List.getElem?_range hj]
  simp only [Option.map_some, Nat.mul_zero, Nat.zero_add]
theorem cp_bytes {e q n : Nat} (hn : n < 256) : ∀ x ∈ cpS e q n, 0 ≤ x ∧ x ≤ 255 := by
  have h := lay_bytes (e := (e : Int)) (q := (q : Int)) (tell_bytes hn)
  rw [lay_cp] at h
  exact h
theorem flat_first {f : Nat → List Int} {m : Nat} (hm : 0 < m) : ∃ rest, (List.range m).flatMap f = f 0 ++ rest := by
  obtain ⟨k, rfl⟩ : ∃ k, m = k + 1 := ⟨m - 1, by omega⟩
  rw [List.range_succ_eq_map, List.flatMap_cons]
  exact ⟨_, rfl⟩
theorem lift_first {s rest : List Int} (hs : s.length = 32) {r : Rec} (h : liftP (s ++ rest) = some r) : r.epoch = epochP s ∧ longP (s ++ rest) = longP s ∧ seqP (s ++ rest) = seqP s := by
  have he : epochP (s ++ rest) = epochP s := by
    unfold epochP
    rw [List.drop_append_of_le_length (by omega), List.take_append_of_le_length (by rw [List.length_drop]; omega)]
  have hq : seqP (s ++ rest) = seqP s := by
    unfold seqP
    rw [List.drop_append_of_le_length (by omega), List.take_append_of_le_length (by rw [List.length_drop]; omega)]
  have hl : longP (s ++ rest) = longP s := by
    unfold longP
    rw [List.take_append_of_le_length (by omega)]
  refine ⟨?_, hl, hq⟩
  unfold liftP at h
  split at h
  · cases h
  · split at h
    · cases h
    · split at h
      · cases h; exact he
      · cases h
/-- The first sector of the place that has no checkpoint: of an epoch that is past; or what is left of checkpoints that did not come off. -/
def OthS (e q2 n2 : Nat) (s : List Int) : Prop :=
  (s.length = 32 ∧ ∃ ea qa : Nat, SmS s ea qa ∧ ea < e ∧ qa < 64) ∨
  (∃ x y q1 n1 c : Nat, e < x ∧ x < 63 ∧ y < 64 ∧ q1 < 64 ∧ n1 < 64 ∧ y ≠ q1 ∧ s = mixS c (cpD x q1 n1) (cpD (x + 1) q2 n2) ++ markP (x : Int) (y : Int))
theorem mix_len {c : Nat} {a b : List Int} (h : a.length = b.length) : (mixS c a b).length = a.length := by
  unfold mixS
  rw [List.length_append, List.length_take, List.length_drop]
  omega
theorem mix_at {c : Nat} {a b : List Int} (h : a.length = b.length) (j : Nat) : (mixS c a b)[j]? = if j < c then b[j]? else a[j]? := by
  unfold mixS
  by_cases hj : j < c
  · rw [if_pos hj]
    by_cases hb : j < b.length
    · rw [List.getElem?_append_left (by rw [List.length_take]; omega), List.getElem?_take, if_pos hj]
    · rw [List.getElem?_eq_none (by rw [List.length_append, List.length_take, List.length_drop]; omega), List.getElem?_eq_none (by omega)]
  · rw [if_neg hj]
    by_cases hb : c ≤ b.length
    · rw [List.getElem?_append_right (by rw [List.length_take]; omega), List.length_take, List.getElem?_drop, show c + (j - min c b.length) = j by omega]
    · rw [List.getElem?_eq_none (by rw [List.length_append, List.length_take, List.length_drop]; omega), List.getElem?_eq_none (by omega)]
theorem nat_of_int {a b : Nat} (h : ((a : Nat) : Int) = ((b : Nat) : Int)) : a = b := by omega
/-- What is left of checkpoints that did not come off is not lifted. -/
theorem oth_lift {e q2 n2 : Nat} (hq2 : q2 < 64) (hn2 : n2 < 64) {s rest : List Int} (h : OthS e q2 n2 s) {r : Rec} (hr : liftP (s ++ rest) = some r) : r.epoch < (e : Int) := by
  rcases h with ⟨hl, ea, qa, hs, hlt, _⟩ | ⟨x, y, q1, n1, c, hex, hx, hy, hq1, hn1, hne, rfl⟩
  · rw [(lift_first hl hr).1, hs.epoch]
    omega
  · exfalso
    have hDl : (cpD x q1 n1).length = (cpD (x + 1) q2 n2).length := by rw [cpD_len, cpD_len]
    have hml : (mixS c (cpD x q1 n1) (cpD (x + 1) q2 n2)).length = 24 := by rw [mix_len hDl, cpD_len]
    obtain ⟨D, hD⟩ : ∃ D, mixS c (cpD x q1 n1) (cpD (x + 1) q2 n2) = D := ⟨_, rfl⟩
    have hat : ∀ j, j < 24 → D[j]? = some (if j < c then (matterP ((x + 1 : Nat) : Int) (q2 : Int) (tellN n2)).getD j 0 else (matterP (x : Int) (q1 : Int) (tellN n1)).getD j 0) := fun j hj => by
      rw [← hD, mix_at hDl]
      split
      · rw [cpD_at _ _ _ hj]
      · rw [cpD_at _ _ _ hj]
    rw [hD] at hml hr
    have hsl : (D ++ markP (x : Int) (y : Int)).length = 32 := by rw [List.length_append, hml, markP_len]
    have hep : epochP (D ++ markP (x : Int) (y : Int)) = (x : Int) := epoch_mark ⟨by omega, by omega⟩ (q := (y : Int)) ⟨by omega, by omega⟩ (List.drop_left' hml)
    have hsq : seqP (D ++ markP (x : Int) (y : Int)) = (y : Int) := seq_mark (e := (x : Int)) ⟨by omega, by omega⟩ ⟨by omega, by omega⟩ (List.drop_left' hml)
    have h01 : ∀ z w m : Nat, (matterP (z : Int) (w : Int) (tellN m)).getD 0 0 = 0 ∧ (matterP (z : Int) (w : Int) (tellN m)).getD 1 0 = 2 ∧ (matterP (z : Int) (w : Int) (tellN m)).getD 2 0 = 0 ∧ (matterP (z : Int) (w : Int) (tellN m)).getD 3 0 = (m : Int) := fun z w m => by
      rw [matter_tell]
      exact ⟨rfl, rfl, rfl, rfl⟩
    have ht2 : D.take 2 = [0, 2] := by
      apply List.ext_getElem?
      intro j
      rw [List.getElem?_take]
      match j with
      | 0 => rw [if_pos (by omega), hat 0 (by omega), (h01 _ _ _).1, (h01 _ _ _).1]; split <;> rfl
      | 1 => rw [if_pos (by omega), hat 1 (by omega), (h01 _ _ _).2.1, (h01 _ _ _).2.1]; split <;> rfl
      | j + 2 => rw [if_neg (by omega)]; rfl
    have hlg : longP (D ++ markP (x : Int) (y : Int)) = 2 := by
      unfold longP
      rw [List.take_append_of_le_length (by omega), ht2]
      rfl
    have hlf := lift_first hsl hr
    unfold liftP at hr
    split at hr
    · cases hr
    · split at hr
      · cases hr
      · split at hr
        · rename_i h1 h2 h3
          have hE : epochP ((D ++ markP (x : Int) (y : Int)) ++ rest) = (x : Int) := by
            cases hr
            exact Eq.trans hlf.1 hep
          rw [hE, hlf.2.2, hsq, hlf.2.1, hlg] at h3
          obtain ⟨b', hb'⟩ : ∃ b', unlayP ((D ++ markP (x : Int) (y : Int)) ++ rest) 2 = b' := ⟨_, rfl⟩
          have hbv : b' = [D.getD 2 0, D.getD 3 0] := by
            rw [← hb']
            have hg : ∀ j, j < 24 → ((D ++ markP (x : Int) (y : Int)) ++ rest).getD j 0 = D.getD j 0 := fun j hj => by
              rw [List.getD_eq_getElem?_getD, List.getD_eq_getElem?_getD, List.append_assoc, List.getElem?_append_left (by omega)]
            show [((D ++ markP (x : Int) (y : Int)) ++ rest).getD 2 0, ((D ++ markP (x : Int) (y : Int)) ++ rest).getD 3 0] = _
            rw [hg 2 (by omega), hg 3 (by omega)]
          rw [hb'] at h3
          have hD2 : D.getD 2 0 = 0 := by
            rw [List.getD_eq_getElem?_getD, hat 2 (by omega), (h01 _ _ _).2.2.1, (h01 _ _ _).2.2.1]
            split <;> rfl
          obtain ⟨nb, hnb, hnbe⟩ : ∃ nb : Nat, nb = (if 3 < c then n2 else n1) ∧ D.getD 3 0 = (nb : Int) := by
            refine ⟨_, rfl, ?_⟩
            rw [List.getD_eq_getElem?_getD, hat 3 (by omega), (h01 _ _ _).2.2.2, (h01 _ _ _).2.2.2, Option.getD_some]
            split <;> rfl
          rw [hD2, hnbe] at hbv
          have hbt : b' = tellN nb := hbv
          rw [hbt, lay_cp, show 32 * countP 2 = 32 from rfl, List.take_append_of_le_length (by omega), List.take_of_length_le (by omega), cpS_eq] at h3
          have h4 : cpD x y nb = D := (List.append_inj h3 (by rw [cpD_len, hml])).1
          have h5 : ∀ j, j < 24 → (matterP (x : Int) (y : Int) (tellN nb)).getD j 0 = if j < c then (matterP ((x + 1 : Nat) : Int) (q2 : Int) (tellN n2)).getD j 0 else (matterP (x : Int) (q1 : Int) (tellN n1)).getD j 0 := fun j hj => by
            have h6 := cpD_at x y nb hj
            rw [h4, hat j hj] at h6
            exact (Option.some.inj h6).symm
          have hnb64 : nb < 64 := by rw [hnb]; split <;> assumption
          by_cases hc : c ≤ 6
          · have h6 := h5 6 (by omega)
            have h7 := h5 7 (by omega)
            rw [if_neg (by omega), matter_tell, matter_tell] at h6 h7
            exact tells_low (by omega) hy hnb64 hq1 hn1 hne (nat_of_int h6) (nat_of_int h7)
          · have hn : nb = n2 := by rw [hnb, if_pos (by omega)]
            subst hn
            have h6 := h5 4 (by omega)
            have h7 := h5 5 (by omega)
            have h8 := h5 6 (by omega)
            rw [if_pos (by omega), matter_tell, matter_tell] at h6 h7 h8
            exact tells_high (by omega) hy hnb64 hq2 (nat_of_int h6) (nat_of_int h7) (nat_of_int h8)
        · cases hr
end Go.Proofs.YtgmeahogdjhejaaDoor
