/- Journals: the plain law of crashes, third part: what is sure and what is seen of a disk. (Printed by genwal5.py.) -/
import Derived.Test.YtgmeahogdjhejaaDoorWalCs
namespace Go.Proofs.YtgmeahogdjhejaaDoor
set_option linter.unusedVariables false
set_option linter.unusedSimpArgs false
open Go.RowKit Go.Shelf

theorem DS.is_sure {d : DS} (hp : d.pend = []) (i : Int) : d.is i = d.sure.getD i.toNat St.zero := by
  unfold DS.is; rw [hp]; rfl

theorem crash_pend (d : DS) (keep torn cut : Int) : (d.crash keep torn cut).pend = [] := rfl

theorem sortedKeys_nodup {V : Type} {es : List (Int × V)} (h : (es.map (·.1)).Nodup) : (sortedKeys es).Nodup := (sortedKeys_perm es).nodup_iff.2 h

theorem crash_at {d : DS} {W : Int} (hf : d.Fine W) (keep torn cut : Int) {i : Nat} (hi : i < d.sure.length) : ∀ k, k ≤ d.pend.length →
    (∃ j : Nat, j < k ∧ (sortedKeys d.pend).getD j 0 = (i : Int) ∧ (crashTo d keep torn cut k).getD i St.zero = surv (d.sure.getD i St.zero) ((getE d.pend (i : Int)).getD St.zero) j keep torn cut) ∨
    ((∀ j : Nat, j < k → (sortedKeys d.pend).getD j 0 ≠ (i : Int)) ∧ (crashTo d keep torn cut k).getD i St.zero = d.sure.getD i St.zero)
  | 0, _ => .inr ⟨fun j hj => absurd hj (by omega), rfl⟩
  | k + 1, hk => by
    have ih := crash_at hf keep torn cut hi k (by omega)
    have hlen := crashTo_length d keep torn cut k
    rw [crashTo_succ]
    obtain ⟨v, hv⟩ := sortedKeys_at d.pend k (by omega)
    have hr := (hf.pend _ hv).2
    have hnd := sortedKeys_nodup hf.keys
    have hsl := sortedKeys_length d.pend
    by_cases he : (sortedKeys d.pend).getD k 0 = (i : Int)
    · left
      refine ⟨k, by omega, he, ?_⟩
      have hprev : (crashTo d keep torn cut k).getD i St.zero = d.sure.getD i St.zero := by
        rcases ih with ⟨j, hj, hji, _⟩ | ⟨_, h⟩
        · exfalso
          have hne := List.pairwise_iff_getElem.1 hnd j k (by omega) (by omega) hj
          refine hne ?_
          rw [List.getD_eq_getElem?_getD, List.getElem?_eq_getElem (by omega), Option.getD_some] at hji he
          rw [hji, he]
        · exact h
      rw [he, Int.toNat_natCast, hprev, List.getD_eq_getElem?_getD, List.getElem?_set_self (by omega)]
      rfl
    · have hne : ((sortedKeys d.pend).getD k 0).toNat ≠ i := by dsimp only at hr; omega
      have hset : ∀ s, ((crashTo d keep torn cut k).set ((sortedKeys d.pend).getD k 0).toNat s).getD i St.zero = (crashTo d keep torn cut k).getD i St.zero := fun s => by
        rw [List.getD_eq_getElem?_getD, List.getElem?_set_ne hne, ← List.getD_eq_getElem?_getD]
      rw [hset]
      rcases ih with ⟨j, hj, h1, h2⟩ | ⟨h1, h2⟩
      · exact .inl ⟨j, by omega, h1, h2⟩
      · refine .inr ⟨fun j hj => ?_, h2⟩
        by_cases hjk : j = k
        · subst hjk; exact he
        · exact h1 j (by omega)


def tornKey (d : DS) (torn : Int) : Int := (sortedKeys d.pend).getD torn.toNat 0
/-- Behind a crash a sector is as it was sure, or as written, or (one sector alone) begins as the one and ends as the other. -/
theorem survives_at {d : DS} {W : Int} (hf : d.Fine W) (keep torn cut : Int) {i : Nat} (hi : i < d.sure.length) :
    ((d.crash keep torn cut).is i).bytes = (d.sure.getD i St.zero).bytes ∨ ((d.crash keep torn cut).is i).bytes = (d.is i).bytes ∨
    ((i : Int) = tornKey d torn ∧ 0 ≤ cut ∧ cut < 32 ∧ ((d.crash keep torn cut).is i).bytes = (d.is i).bytes.take cut.toNat ++ (d.sure.getD i St.zero).bytes.drop cut.toNat) := by
  rw [DS.is_sure (crash_pend _ _ _ _), Int.toNat_natCast]
  show ((crashTo d keep torn cut d.pend.length).getD i St.zero).bytes = _ ∨ _
  rcases crash_at hf keep torn cut hi d.pend.length (Nat.le_refl _) with ⟨j, hj, hji, h⟩ | ⟨_, h⟩
  · have hat : ∃ v, getE d.pend (i : Int) = some v := by
      obtain ⟨v, hv⟩ := sortedKeys_at d.pend j hj
      rw [hji] at hv
      exact ⟨v, getE_of_mem hf.keys hv⟩
    obtain ⟨n, hn⟩ := hat
    have his : d.is (i : Int) = n := by unfold DS.is; rw [hn]; rfl
    rw [hn, Option.getD_some] at h
    show ((crashTo d keep torn cut d.pend.length).getD i St.zero).bytes = _ ∨ ((crashTo d keep torn cut d.pend.length).getD i St.zero).bytes = _ ∨ (_ ∧ _ ∧ _ ∧ ((crashTo d keep torn cut d.pend.length).getD i St.zero).bytes = _)
    rw [h, his]
    unfold surv
    split
    · rename_i ht
      split
      · exact .inr (.inl rfl)
      · by_cases h0 : 0 ≤ cut
        · refine .inr (.inr ⟨?_, h0, by omega, rfl⟩)
          unfold tornKey
          rw [← ht, Int.toNat_natCast, hji]
        · left
          have : cut.toNat = 0 := by omega
          simp [St.torn, this]
    · split
      · exact .inr (.inl rfl)
      · exact .inl rfl
  · left
    rw [h]

/-- A sector that begins as b and ends as a. -/
def mixS (c : Nat) (a b : List Int) : List Int := b.take c ++ a.drop c
/-- What is sure, and what is seen. -/
structure View (d : DS) (N : Nat) (S V : Nat → List Int) (W : Int) : Prop where
  fine : d.Fine W
  len : d.sure.length = N
  sure : ∀ i, i < N → (d.sure.getD i St.zero).bytes = S i
  seen : ∀ i, i < N → d.sec i = V i
theorem View.of {d : DS} {W : Int} (hf : d.Fine W) : View d d.sure.length (fun i => (d.sure.getD i St.zero).bytes) (fun i => d.sec i) W := ⟨hf, rfl, fun _ _ => rfl, fun _ _ => rfl⟩
theorem View.slen {d : DS} {N : Nat} {S V : Nat → List Int} {W : Int} (h : View d N S V W) {i : Nat} (hi : i < N) : (S i).length = 32 ∧ (∀ x ∈ S i, 0 ≤ x ∧ x ≤ 255) ∧ (V i).length = 32 ∧ ∀ x ∈ V i, 0 ≤ x ∧ x ≤ 255 := by
  have h1 := getD_ok h.fine.sure i
  rw [← h.sure i hi, ← h.seen i hi]
  exact ⟨h1.1, h1.2, DS.sec_len h.fine (by rw [h.len]; exact hi), DS.sec_bytes h.fine (by rw [h.len]; exact hi)⟩
theorem View.write {d : DS} {N : Nat} {S V : Nat → List Int} {W : Int} (h : View d N S V W) {a : Nat} (ha : a < N) {xs : List Int} (hx : xs.length = 32) (hb : ∀ x ∈ xs, 0 ≤ x ∧ x ≤ 255) :
    ((d.writeR a xs).2 = 10 ∧ (d.writeR a xs).1 = d) ∨ ((d.writeR a xs).2 = 0 ∧ View (d.writeR a xs).1 N S (upd V a xs) (W + 1)) := by
  have hh : d.has (a : Int) := ⟨by omega, by have := h.len; omega⟩
  by_cases h0 : d.fuse = 0
  · left
    unfold DS.writeR
    rw [if_neg (fun e => e ⟨hh, hx⟩), if_pos h0]
    exact ⟨rfl, rfl⟩
  · right
    have he : d.writeR a xs = (d.write a xs, 0) := by
      unfold DS.writeR
      rw [if_neg (fun e => e ⟨hh, hx⟩), if_neg h0]
    have hs := (DS.spend_fuse h.fine.fuse).2.2.1
    rw [he]
    refine ⟨rfl, h.fine.write hh hx hb, ?_, fun i hi => ?_, fun i hi => ?_⟩
    · show d.spend.1.sure.length = N
      rw [hs]; exact h.len
    · show (d.spend.1.sure.getD i St.zero).bytes = S i
      rw [hs]; exact h.sure i hi
    · have := h.seen i hi
      unfold DS.sec DS.is at this ⊢
      show ((getE (putE d.pend (a : Int) ⟨xs, d.writes + 1⟩) (i : Int)).getD (d.spend.1.sure.getD (i : Int).toNat St.zero)).bytes = _
      rw [getE_putE _ h.fine.keys, hs]
      unfold upd
      by_cases hia : i = a
      · subst hia; simp
      · rw [if_neg (by omega), if_neg hia]
        exact this
/-- n sectors written: so many first ones are. -/
theorem View.lay : ∀ (n : Nat) {d : DS} {N : Nat} {S V : Nat → List Int} {W : Int} (_ : View d N S V W) {a : Nat} (_ : a + n ≤ N) {s : List Int} (_ : s.length = 32 * n) (_ : ∀ x ∈ s, 0 ≤ x ∧ x ≤ 255),
    ∃ k, k ≤ n ∧ (((d.lay a n s).2 = 0 ∧ k = n) ∨ ((d.lay a n s).2 = 10 ∧ k < n)) ∧ View (d.lay a n s).1 N S (updN V a k s) (W + n)
  | 0, d, N, S, V, W, h, a, _, s, _, _ => ⟨0, Nat.le_refl _, .inl ⟨rfl, rfl⟩, ⟨h.fine.mono (by omega), h.len, h.sure, fun i hi => by show d.sec i = _; rw [h.seen i hi]; unfold updN; rw [if_neg (by omega)]⟩⟩
  | n + 1, d, N, S, V, W, h, a, ha, s, hs, hb => by
    rcases h.write (a := a) (by omega) (xs := s.take 32) (by rw [List.length_take]; omega) (fun x hx => hb x (List.mem_of_mem_take hx)) with ⟨h1, h2⟩ | ⟨h1, h2⟩
    · refine ⟨0, by omega, .inr ⟨?_, by omega⟩, ?_⟩
      · unfold DS.lay
        rw [if_neg (by rw [h1]; decide)]
        exact h1
      · have he : (d.lay a (n + 1) s).1 = d := by
          unfold DS.lay
          rw [if_neg (by rw [h1]; decide)]
          exact h2
        rw [he]
        exact ⟨h.fine.mono (by omega), h.len, h.sure, fun i hi => by rw [h.seen i hi]; unfold updN; rw [if_neg (by omega)]⟩
    · obtain ⟨k, hk, hc, hv⟩ := View.lay n h2 (a := a + 1) (by omega) (s := s.drop 32) (by rw [List.length_drop]; omega) (fun x hx => hb x (List.mem_of_mem_drop hx))
      have he : d.lay a (n + 1) s = DS.lay (d.writeR a (s.take 32)).1 (a + 1) n (s.drop 32) := by
        conv => lhs; unfold DS.lay
        rw [if_pos h1]
      rw [he]
      refine ⟨k + 1, by omega, ?_, hv.fine.mono (by push_cast; omega), hv.len, hv.sure, fun i hi => ?_⟩
      · rcases hc with ⟨hc, hkn⟩ | ⟨hc, hkn⟩
        · exact .inl ⟨hc, by omega⟩
        · exact .inr ⟨hc, by omega⟩
      · rw [hv.seen i hi]
        unfold updN upd
        by_cases hia : i = a
        · subst hia
          rw [if_neg (by omega), if_pos rfl, if_pos (by omega), Nat.sub_self, Nat.mul_zero, List.drop_zero]
        · by_cases h5 : a + 1 ≤ i ∧ i < a + 1 + k
          · rw [if_pos h5, if_pos (by omega), List.drop_drop, show 32 + 32 * (i - (a + 1)) = 32 * (i - a) by omega]
          · rw [if_neg h5, if_neg hia, if_neg (by omega)]
theorem View.flush {d : DS} {N : Nat} {S V : Nat → List Int} {W : Int} (h : View d N S V W) :
    (d.flushR.2 = 10 ∧ d.flushR.1 = d) ∨ (d.flushR.2 = 0 ∧ View d.flushR.1 N V V W ∧ d.flushR.1.pend = []) := by
  by_cases h0 : d.fuse = 0
  · left
    unfold DS.flushR
    rw [if_pos h0]
    exact ⟨rfl, rfl⟩
  · right
    have he : d.flushR = (d.flush, 0) := by
      unfold DS.flushR
      rw [if_neg h0]
    rw [he]
    have hsure : ∀ i, i < N → ((applyAll d.sure d.pend).getD i St.zero).bytes = V i := fun i hi => by
      rw [← h.seen i hi]
      unfold DS.sec DS.is
      simp only [Int.toNat_natCast, List.getD_eq_getElem?_getD]
      rw [applyAll_get d.pend h.fine.keys (fun p hp => (h.fine.pend p hp).2.1) d.sure i (by rw [h.len]; exact hi), Option.getD_some, List.getElem?_eq_getElem (by rw [h.len]; exact hi)]
      rfl
    refine ⟨rfl, ⟨h.fine.flush, ?_, hsure, fun i hi => ?_⟩, rfl⟩
    · show (applyAll d.sure d.pend).length = N
      rw [applyAll_length]; exact h.len
    · rw [← hsure i hi]
      unfold DS.sec DS.is DS.flush
      simp only [getE_nil, Option.getD_none, Int.toNat_natCast]
theorem View.crash {d : DS} {N : Nat} {S V : Nat → List Int} {W : Int} (h : View d N S V W) (keep torn cut : Int) :
    ∃ O, (∀ i, i < N → ∃ c, O i = mixS c (S i) (V i)) ∧ View (d.crash keep torn cut) N O O W := by
  refine ⟨fun i => (d.crash keep torn cut).sec i, fun i hi => ?_, h.fine.crash keep torn cut, (crash_len d keep torn cut).trans h.len, fun i hi => ?_, fun i hi => rfl⟩
  · have hl := h.slen hi
    have hsv := survives_at h.fine keep torn cut (i := i) (by rw [h.len]; exact hi)
    show ∃ c, ((d.crash keep torn cut).is i).bytes = _
    rw [h.sure i hi, show (d.is (i : Int)).bytes = V i from h.seen i hi] at hsv
    rcases hsv with h1 | h1 | ⟨_, _, _, h1⟩
    · exact ⟨0, by rw [h1]; simp [mixS]⟩
    · exact ⟨32, by rw [h1]; unfold mixS; rw [List.take_of_length_le (by omega), List.drop_eq_nil_of_le (by omega), List.append_nil]⟩
    · exact ⟨cut.toNat, h1⟩
  · unfold DS.sec
    rw [DS.is_sure (crash_pend _ _ _ _), Int.toNat_natCast]
theorem View.fuse {d : DS} {N : Nat} {S V : Nat → List Int} {W : Int} (h : View d N S V W) (n : Int) (hn : n ≤ 9223372036854775807) : View { d with fuse := max n (-1) } N S V W :=
  ⟨h.fine.setFuse n hn, h.len, h.sure, h.seen⟩
/-! ### Marks that are small -/
def SmS (s : List Int) (e q : Int) : Prop := Sm e ∧ Sm q ∧ s.drop 24 = markP e q
theorem SmS.epoch {s : List Int} {e q : Int} (h : SmS s e q) : epochP s = e := epoch_mark h.1 h.2.1 h.2.2
theorem SmS.sect {e q : Int} (he : Sm e) (hq : Sm q) (b : List Int) (k : Nat) : SmS (sectP (markP e q) (matterP e q b) k) e q := ⟨he, hq, by rw [sect_eq, List.drop_left' (data_len _ _ _ _)]⟩
theorem mix_cases {a b : List Int} {ea qa eb qb : Int} (ha : SmS a ea qa) (hb : SmS b eb qb) (hal : a.length = 32) (hbl : b.length = 32) (c : Nat) :
    (mixS c a b).length = 32 ∧ (SmS (mixS c a b) ea qa ∨ ((mixS c a b).take 24 = b.take 24 ∧ SmS (mixS c a b) eb qa) ∨ mixS c a b = b) := by
  have hlen : (mixS c a b).length = 32 := by unfold mixS; rw [List.length_append, List.length_take, List.length_drop, hal, hbl]; omega
  refine ⟨hlen, ?_⟩
  by_cases h1 : 32 ≤ c
  · right; right
    unfold mixS
    rw [List.take_of_length_le (by omega), List.drop_eq_nil_of_le (by omega), List.append_nil]
  · by_cases h2 : c ≤ 24
    · left
      refine ⟨ha.1, ha.2.1, ?_⟩
      rw [← ha.2.2]
      unfold mixS
      rw [List.drop_append, List.drop_eq_nil_of_le (by rw [List.length_take]; omega), List.nil_append, List.length_take, hbl, List.drop_drop, show c + (24 - min c 32) = 24 by omega]
    · have hm : (mixS c a b).drop 24 = (markP eb qb).take (c - 24) ++ (markP ea qa).drop (c - 24) := by
        unfold mixS
        rw [List.drop_append_of_le_length (by rw [List.length_take]; omega), List.drop_take, hb.2.2, ← ha.2.2, List.drop_drop, show 24 + (c - 24) = c by omega]
      have ht : (mixS c a b).take 24 = b.take 24 := by
        unfold mixS
        rw [List.take_append_of_le_length (by rw [List.length_take]; omega), List.take_take, show min 24 c = 24 by omega]
      rw [mark_small ha.1 ha.2.1, mark_small hb.1 hb.2.1] at hm
      rcases (show c - 24 = 1 ∨ c - 24 = 2 ∨ c - 24 = 3 ∨ c - 24 = 4 ∨ c - 24 = 5 ∨ c - 24 = 6 ∨ c - 24 = 7 by omega) with h | h | h | h | h | h | h
      all_goals rw [h] at hm
      · exact .inl ⟨ha.1, ha.2.1, by rw [hm, mark_small ha.1 ha.2.1]; rfl⟩
      · exact .inl ⟨ha.1, ha.2.1, by rw [hm, mark_small ha.1 ha.2.1]; rfl⟩
      · exact .inl ⟨ha.1, ha.2.1, by rw [hm, mark_small ha.1 ha.2.1]; rfl⟩
      all_goals exact .inr (.inl ⟨ht, hb.1, ha.2.1, by rw [hm, mark_small hb.1 ha.2.1]; rfl⟩)
/-- A record's sector over one of another epoch. -/
theorem mix_near {a : List Int} {ea qa e q : Int} (ha : SmS a ea qa) (hal : a.length = 32) (hne : ea ≠ e) (he : Sm e) (hq : Sm q) (b : List Int) (k c : Nat) : Near e (dataP e q b k) (mixS c a (sectP (markP e q) (matterP e q b) k)) := by
  have hs := SmS.sect he hq b k
  rcases (mix_cases ha hs hal (sectP_len (markP_len e q) _ _) c).2 with h | ⟨h1, h2⟩ | h
  · exact .inl (by rw [h.epoch]; exact hne)
  · exact .inr ⟨by rw [h1, sect_eq, List.take_left' (data_len _ _ _ _)], _, h2.2.1, h2.2.2⟩
  · rw [h]
    exact .inr ⟨by rw [sect_eq, List.take_left' (data_len _ _ _ _)], _, hq, hs.2.2⟩
theorem near_sect {e q : Int} (hq : Sm q) (b : List Int) (k : Nat) : Near e (dataP e q b k) (sectP (markP e q) (matterP e q b) k) :=
  .inr ⟨by rw [sect_eq, List.take_left' (data_len _ _ _ _)], q, hq, by rw [sect_eq, List.drop_left' (data_len _ _ _ _)]⟩
theorem mix_epoch {a b : List Int} {ea qa eb qb e : Int} (ha : SmS a ea qa) (hb : SmS b eb qb) (hal : a.length = 32) (hbl : b.length = 32) (h1 : ea ≠ e) (h2 : eb ≠ e) (c : Nat) : epochP (mixS c a b) ≠ e := by
  rcases (mix_cases ha hb hal hbl c).2 with h | ⟨_, h⟩ | h
  · rw [h.epoch]; exact h1
  · rw [h.epoch]; exact h2
  · rw [h, hb.epoch]; exact h2
theorem mix_same (a : List Int) (c : Nat) : mixS c a a = a := List.take_append_drop c a

end Go.Proofs.YtgmeahogdjhejaaDoor
