/- Tables: the plain law of TableBack: the bytes of a table that may be are read back; what is put in is found, taken away it is not. -/
import Derived.Test.YtoaieodcdbbndaaTabO
import Derived.Test.YtoaieodcdbbndaaTabWo
import Derived.Test.YtoaieodcdbbndaaTabH
namespace Go.Proofs.Ytoaieodcdbbndaa
set_option linter.unusedVariables false
set_option linter.unusedSimpArgs false
open Go.RowKit

def Rng (n : Int) : Prop := -9223372036854775808 ≤ n ∧ n ≤ 9223372036854775807
theorem num8_be8 {n : Int} (h : Rng n) : num8 (be8 n) = n := by
  unfold num8 be8
  simp only [List.foldl_cons, List.foldl_nil]
  rw [IntKind.wrap_i64]
  obtain ⟨h1, h2⟩ := h
  omega
theorem rdN_be8 {n : Int} (h : Rng n) (r : List Int) : rdN (some (be8 n ++ r)) = (n, some r) := by
  unfold rdN
  simp only
  rw [if_neg (by rw [List.length_append, be8_len]; omega), List.take_left' (be8_len n), List.drop_left' (be8_len n), num8_be8 h]
theorem rdW_be2 {w : List Int} (h : w.length ≤ 72) (r : List Int) : rdW 72 (some (be2 w.length ++ (w ++ r))) = (w, some r) := by
  unfold rdW be2
  have h0 : ((w.length : Int) / 256 % 256) * 256 + (w.length : Int) % 256 = (w.length : Int) := by omega
  simp only [List.cons_append, List.nil_append, List.length_cons, List.length_append, List.getD_cons_zero, List.getD_cons_succ, List.drop_succ_cons, List.drop_zero]
  rw [h0, if_neg (by omega), if_neg (by omega), Int.toNat_natCast, List.take_left, List.drop_left]
def Blk.Rng (b : Blk) : Prop := Proofs.Ytoaieodcdbbndaa.Rng b.id ∧ Proofs.Ytoaieodcdbbndaa.Rng b.gen ∧ Proofs.Ytoaieodcdbbndaa.Rng b.at_ ∧ Proofs.Ytoaieodcdbbndaa.Rng b.size ∧ Proofs.Ytoaieodcdbbndaa.Rng b.epoch ∧ b.wrap.length ≤ 72
theorem rdBlk_enc {b : Blk} (h : b.Rng) (r : List Int) : rdBlk (some (encBlk b ++ r)) = (b, some r) := by
  obtain ⟨h1, h2, h3, h4, h5, h6⟩ := h
  unfold rdBlk encBlk
  simp only [List.append_assoc, rdN_be8 h1, rdN_be8 h2, rdN_be8 h3, rdN_be8 h4, rdN_be8 h5, rdW_be2 h6]
theorem rdBlks_enc {bs : List Blk} (h : ∀ b ∈ bs, b.Rng) (r : List Int) : ∀ n, n ≤ bs.length → rdBlks n (some ((bs.map encBlk).flatten ++ r)) = (bs.take n, some (((bs.drop n).map encBlk).flatten ++ r))
  | 0, _ => rfl
  | n + 1, hn => by
    have ih := rdBlks_enc h r n (by omega)
    have hb := h bs[n] (List.getElem_mem (by omega))
    show (let a := rdBlks n _; let b := rdBlk a.2; (a.1 ++ [b.1], b.2)) = _
    rw [ih]
    simp only
    rw [List.drop_eq_getElem_cons (show n < bs.length by omega), List.map_cons, List.flatten_cons, List.append_assoc, rdBlk_enc hb, List.take_add_one, List.getElem?_eq_getElem (show n < bs.length by omega)]
    rfl
structure Tab.Rng (t : Tab) : Prop where
  epoch : Proofs.Ytoaieodcdbbndaa.Rng t.epoch
  old : Proofs.Ytoaieodcdbbndaa.Rng t.old
  phase : Proofs.Ytoaieodcdbbndaa.Rng t.phase
  mode : Proofs.Ytoaieodcdbbndaa.Rng t.mode
  next : Proofs.Ytoaieodcdbbndaa.Rng t.next
  gen : Proofs.Ytoaieodcdbbndaa.Rng t.gen
  len : t.bs.length ≤ 12
  bs : ∀ b ∈ t.bs, b.Rng
theorem decTab_enc {t : Tab} (h : t.Rng) : decTab (encTab t) = some t := by
  have hl : Proofs.Ytoaieodcdbbndaa.Rng (t.bs.length : Int) := by have := h.len; unfold Proofs.Ytoaieodcdbbndaa.Rng; omega
  have hb := rdBlks_enc h.bs [] t.bs.length (Nat.le_refl _)
  rw [List.append_nil, List.take_length, List.drop_length] at hb
  have hd : decTab (encTab t) = if (t.bs.length : Int) < 0 ∨ 12 < (t.bs.length : Int) then none else
      if (rdBlks (t.bs.length : Int).toNat (some (t.bs.map encBlk).flatten)).2 = some [] ∧ encTab ⟨t.epoch, t.old, t.phase, t.mode, t.next, t.gen, (rdBlks (t.bs.length : Int).toNat (some (t.bs.map encBlk).flatten)).1⟩ = encTab t then some ⟨t.epoch, t.old, t.phase, t.mode, t.next, t.gen, (rdBlks (t.bs.length : Int).toNat (some (t.bs.map encBlk).flatten)).1⟩ else none := by
    conv => lhs; unfold decTab
    have e : encTab t = be8 t.epoch ++ (be8 t.old ++ (be8 t.phase ++ (be8 t.mode ++ (be8 t.next ++ (be8 t.gen ++ (be8 t.bs.length ++ (t.bs.map encBlk).flatten)))))) := by
      unfold encTab encHead
      simp only [List.append_assoc]
    simp only [e, rdN_be8 h.epoch, rdN_be8 h.old, rdN_be8 h.phase, rdN_be8 h.mode, rdN_be8 h.next, rdN_be8 h.gen, rdN_be8 hl]
  rw [hd, if_neg (by have := h.len; omega), Int.toNat_natCast, hb]
  simp
theorem decR_enc {t : Tab} (h : t.Rng) : decR (encTab t) = (t, 0) := by unfold decR; rw [decTab_enc h]
theorem encTab_len {t : Tab} (h : ∀ b ∈ t.bs, b.wrap.length = 72) : (encTab t).length = 56 + t.bs.length * 114 := by
  unfold encTab encHead
  have h2 : ∀ (l : List Blk), (∀ b ∈ l, b.wrap.length = 72) → ((l.map encBlk).flatten).length = l.length * 114 := by
    intro l
    induction l with
    | nil => intro _; rfl
    | cons b l ih =>
      intro hl
      rw [List.map_cons, List.flatten_cons, List.length_append, encBlk_len, ih (fun c hc => hl c (List.mem_cons_of_mem _ hc)), hl b List.mem_cons_self, List.length_cons]
      omega
  rw [List.length_append, h2 t.bs h]
  simp only [List.length_append, be8_len]
theorem good_ids {t : Tab} {n : Int} (h : goodP t n) : ∀ (k : Nat) (b : Blk), t.bs[k]? = some b → 0 ≤ b.id
  | 0, b, hk => by have := h.1.2.2.2.2.2 b hk; omega
  | k + 1, b, hk => by
    have hl := (List.getElem?_eq_some_iff.1 hk).1
    have hc : t.bs[k]? = some t.bs[k] := List.getElem?_eq_getElem (by omega)
    have h1 := good_ids h k _ hc
    have h2 := (h.2.1 (k + 1) b hk).1 t.bs[k] (by omega) hc
    omega
theorem good_rng {t : Tab} {n : Int} (h : goodP t n) (hnum : ∀ b ∈ t.bs, b.Num) : t.Rng ∧ ∀ b ∈ t.bs, b.wrap.length = 72 := by
  obtain ⟨he, h1, h2, h3, h4, h0⟩ := h.1
  have hw : wrap64 (t.epoch - 1) = t.epoch - 1 := by rw [← IntWalk.i64_left, IntKind.wrap_i64]; omega
  unfold epochsP at he
  rw [hw] at he
  have ho : Rng t.old ∧ Rng t.phase ∧ Rng t.mode := by unfold Rng; omega
  refine ⟨⟨by unfold Proofs.Ytoaieodcdbbndaa.Rng; omega, ho.1, ho.2.1, ho.2.2, by unfold Proofs.Ytoaieodcdbbndaa.Rng; omega, by unfold Proofs.Ytoaieodcdbbndaa.Rng; omega, h4.2, fun b hb => ?_⟩, fun b hb => ?_⟩
  · obtain ⟨k, hk, rfl⟩ := List.mem_iff_getElem.1 hb
    have hk2 : t.bs[k]? = some t.bs[k] := List.getElem?_eq_getElem hk
    have hp := h.2.1 k _ hk2
    have hi := good_ids h k _ hk2
    have hn := hnum _ hb
    obtain ⟨_, a, b', c, d, e⟩ := hp
    unfold sizedP at c
    refine ⟨by unfold Proofs.Ytoaieodcdbbndaa.Rng; omega, by unfold Proofs.Ytoaieodcdbbndaa.Rng; omega, hn.1, hn.2, ?_, by omega⟩
    unfold Proofs.Ytoaieodcdbbndaa.Rng
    have h9 := ho.1
    unfold Proofs.Ytoaieodcdbbndaa.Rng at h9
    omega
  · obtain ⟨k, hk, rfl⟩ := List.mem_iff_getElem.1 hb
    exact (h.2.1 k _ (List.getElem?_eq_getElem hk)).2.2.2.2.1

/-! ### Put in, taken away -/
theorem withL_found (bs : List Blk) (x : Blk) : ∃ k : Nat, ∃ hk : k < (withL bs x).length, findP x.id (withL bs x) = (k : Int) ∧ (withL bs x)[k] = x := by
  unfold withL
  rcases idxF_cases (fun b => b.id == x.id) bs with hf | ⟨k, hf, hk⟩
  · have hfp : findP x.id bs = -1 := hf
    have hnone := idxF_spec_none hf
    have hm : insAt x.id bs ≤ bs.length := by
      unfold insAt
      rcases idxF_cases (fun b => decide (x.id < b.id)) bs with h | ⟨m, h, hm⟩
      · rw [h]; simp
      · rw [h, if_neg (by omega), Int.toNat_natCast]; omega
    rw [hfp, if_pos (by omega)]
    obtain ⟨m, hme⟩ : ∃ m, insAt x.id bs = m := ⟨_, rfl⟩
    rw [hme] at hm ⊢
    have hl : (bs.take m).length = m := by rw [List.length_take]; omega
    have hk : m < (bs.take m ++ x :: bs.drop m).length := by rw [List.length_append, hl, List.length_cons]; omega
    have hx : (bs.take m ++ x :: bs.drop m)[m] = x := by rw [List.getElem_append_right (by omega)]; simp [hl]
    refine ⟨m, hk, ?_, hx⟩
    refine idxF_hit hk (by rw [hx]; simp) (fun j hj => ?_)
    rw [List.getElem_append_left (by omega), List.getElem_take]
    exact hnone j (by omega)
  · have hfp : findP x.id bs = (k : Int) := hf
    obtain ⟨_, _, hlt⟩ := idxF_spec hf
    rw [hfp, if_neg (by omega), Int.toNat_natCast]
    have hk2 : k < (bs.set k x).length := by rw [List.length_set]; exact hk
    refine ⟨k, hk2, ?_, by simp⟩
    refine idxF_hit hk2 (by simp) (fun j hj => ?_)
    rw [List.getElem_set_ne (by omega)]
    exact hlt j hj
theorem outL_none (bs : List Blk) (id : Int) : findP id (outL bs [id]) = -1 := by
  refine idxF_none (fun j hj => ?_)
  have := List.mem_filter.1 (List.getElem_mem hj)
  have h2 := this.2
  simp at h2
  simpa using h2
theorem outL_with (bs : List Blk) (x : Blk) : outL (withL bs x) [x.id] = outL bs [x.id] := by
  unfold withL outL
  rcases idxF_cases (fun b => b.id == x.id) bs with hf | ⟨k, hf, hk⟩
  · have hfp : findP x.id bs = -1 := hf
    rw [hfp, if_pos (by omega), List.filter_append]
    rw [List.filter_cons_of_neg (by simp), ← List.filter_append, List.take_append_drop]
  · have hfp : findP x.id bs = (k : Int) := hf
    obtain ⟨_, he, _⟩ := idxF_spec hf
    rw [hfp, if_neg (by omega), Int.toNat_natCast, List.set_eq_take_append_cons_drop, if_pos hk, List.filter_append, List.filter_cons_of_neg (by simp)]
    have he2 : bs[k].id = x.id := by simpa using he
    conv => rhs; rw [← List.take_append_drop k bs, List.drop_eq_getElem_cons hk]
    rw [List.filter_append, List.filter_cons_of_neg (by simp [he2])]
end Go.Proofs.Ytoaieodcdbbndaa
