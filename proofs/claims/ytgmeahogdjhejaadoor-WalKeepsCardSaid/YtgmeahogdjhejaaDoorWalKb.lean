/- Journals: the plain law of WalKeeps: Checkpoint; the start. -/
import Derived.Test.YtgmeahogdjhejaaDoorWalKa
namespace Go.Proofs.YtgmeahogdjhejaaDoor
set_option linter.unusedVariables false
set_option linter.unusedSimpArgs false
open Go.RowKit Go.Shelf

theorem top_ge (d : DS) : ∀ n i, i < n → epochP (d.sec i) ≤ topP d n
  | 0, _, h => by omega
  | n + 1, i, h => by
    have ih := top_ge d n i
    unfold topP at ih ⊢
    rw [List.range_succ, List.foldl_append, List.foldl_cons, List.foldl_nil]
    by_cases hi : i = n
    · subst hi; omega
    · have := ih (by omega); omega
theorem top_at (d : DS) : ∀ n, topP d n = 0 ∨ ∃ i, i < n ∧ topP d n = epochP (d.sec i)
  | 0 => .inl rfl
  | n + 1 => by
    have ih := top_at d n
    unfold topP at ih ⊢
    rw [List.range_succ, List.foldl_append, List.foldl_cons, List.foldl_nil]
    obtain ⟨m, hm⟩ : ∃ m, List.foldl (fun m i => max m (epochP (d.sec i))) 0 (List.range n) = m := ⟨_, rfl⟩
    rw [hm] at ih ⊢
    by_cases h : m ≤ epochP (d.sec n)
    · exact .inr ⟨n, by omega, by omega⟩
    · rcases ih with h0 | ⟨i, hi, h1⟩
      · exact .inl (by omega)
      · exact .inr ⟨i, by omega, by omega⟩
theorem top_ge0 (d : DS) : ∀ n, 0 ≤ topP d n
  | 0 => Int.le_refl _
  | n + 1 => by
    have ih := top_ge0 d n
    unfold topP at ih ⊢
    rw [List.range_succ, List.foldl_append, List.foldl_cons, List.foldl_nil]
    omega
theorem sm_epoch {s : List Int} {a b c e : Nat} (h1 : SmS s a b) (h2 : SmS s c e) : a = c := by
  have h := h1.epoch.symm.trans h2.epoch
  omega
/-- What a crash leaves of the next checkpoint, written where none is. -/
theorem flight {S V : Nat → List Int} {j : JS} {e q0 fr p : Nat} {bs : List (List Int)} {c n E : Nat} (hC : Core S V e q0 fr p bs c) (hL : Live S V j e q0 fr p bs c n E) (hE : E ≤ 61) (heE : e ≤ E) (hl32 : (S (2 * (1 - p))).length = 32) :
    ∃ z w : Nat, SmS (S (2 * (1 - p))) z w ∧ z ≤ E ∧ ∀ k, mixS k (S (2 * (1 - p))) (cpS (max e z + 1) (q0 + bs.length) n) = cpS (max e z + 1) (q0 + bs.length) n ∨
      ∀ t, c ≤ t → t ≤ bs.length → Left e (max e z + 1) (q0 + t) (fr + t) (mixS k (S (2 * (1 - p))) (cpS (max e z + 1) (q0 + bs.length) n)) := by
  have hsq := hC.sq
  have hsf := hC.sf
  have hse := hC.se
  have hall := hL.all
  obtain ⟨hoth, _, z, w, hz, hzE, hw⟩ := hL.oth
  refine ⟨z, w, hz, hzE, fun k => ?_⟩
  rcases hL.mode with ⟨_, _, _, _, _, ea, qa, hlow, hlt, hqa⟩ | ⟨_, hc, _⟩
  · have hea := sm_epoch hz hlow
    subst hea
    rcases left_low hl32 hlow hlt hqa (E := max e z + 1) (qf := q0 + bs.length) (nf := n) (by omega) (by omega) (by omega) (by omega) k with h | h
    · exact .inl h
    · exact .inr fun t _ _ => h _ _
  · rcases hoth with ⟨hl, ea, qa, hlow, hlt, hqa⟩ | ⟨x, y, q1, n1, c0, hex, hx, hy, hq1, hn1, hne, hs⟩
    · have hea := sm_epoch hz hlow
      subst hea
      rcases left_low hl32 hlow hlt hqa (E := max e z + 1) (qf := q0 + bs.length) (nf := n) (by omega) (by omega) (by omega) (by omega) k with h | h
      · exact .inl h
      · exact .inr fun t _ _ => h _ _
    · have hxs : SmS (S (2 * (1 - p))) x y := by
        rw [hs]
        have hDl : (cpD x q1 n1).length = (cpD (x + 1) (q0 + bs.length) (fr + bs.length)).length := by rw [cpD_len, cpD_len]
        exact ⟨⟨by omega, by omega⟩, ⟨by omega, by omega⟩, List.drop_left' (by rw [mix_len hDl, cpD_len])⟩
      have hea := sm_epoch hz hxs
      subst hea
      have hmx : max e z = z := by omega
      rw [hmx, hs, ← hall]
      rcases left_high (e := e) (x := z) (y := y) (q1 := q1) (n1 := n1) (c0 := c0) (q2 := q0 + bs.length) (n2 := fr + bs.length) hex (by omega) hy hq1 hn1 hne (by omega) (by omega) k with h | h
      · exact .inl h
      · refine .inr fun t ht1 ht2 => ?_
        obtain rfl : t = bs.length := by omega
        exact h
/-- Checkpoint. -/
theorem K.checkpoint {i : Nat} {d : DS} {j : JS} {wr : List (List Int)} {sure : Nat} (h : K i d j wr sure) (hi : i < 60) :
    K (i + 1) (checkpointP d j (tellN wr.length)).1 (checkpointP d j (tellN wr.length)).2.1 wr (if (checkpointP d j (tellN wr.length)).2.2 = 0 then wr.length else sure) := by
  obtain ⟨S, V, W, e, q0, fr, p, bs, c, hv, hW, hC, he, hqb, hbl, hfl, hbs, hsu, hoth, hl⟩ := h.body
  have hwl := h.wl
  have hp1 := hC.p1
  have hsq := hC.sq
  have hsf := hC.sf
  obtain ⟨R, hR⟩ : ∃ R, checkpointP d j (tellN wr.length) = R := ⟨_, rfl⟩
  rw [hR]
  unfold checkpointP at hR
  by_cases hr : j.refused = true
  · rw [if_pos hr] at hR
    subst hR
    exact h.step hi (fun _ _ _ hv => hv)
  · rw [if_neg hr] at hR
    have hL := hl.resolve_left hr
    have hlen := fun i (hi : i < 60) => hv.slen hi
    obtain ⟨z, w, hz, hzE, hfly⟩ := flight hC hL (by omega) (by omega) (hlen _ (by omega)).1
    obtain ⟨n, hn⟩ : ∃ n, wr.length = n := ⟨_, rfl⟩
    have hall := hL.all
    rw [hn] at hwl hbl hfl hoth hfly hall hR ⊢
    have htop : topP d 54 = ((max e z : Nat) : Int) := by
      have h1 := top_ge d 54 (2 * p) (by omega)
      have h2 := top_ge d 54 (2 * (1 - p)) (by omega)
      rw [hv.seen _ (by omega)] at h1 h2
      have h3 : epochP (V (2 * p)) = (e : Int) := by rw [hC.cV]; exact (cpS_sm (by omega) (by omega) _).epoch
      have h4 : epochP (V (2 * (1 - p))) = (z : Int) := by rw [hL.still]; exact hz.epoch
      rw [h3] at h1
      rw [h4] at h2
      rcases top_at d 54 with h5 | ⟨k, hk, h5⟩
      · omega
      · rw [hv.seen k (by omega)] at h5
        by_cases hk2 : k = 2 * (1 - p)
        · subst hk2; omega
        · obtain ⟨_, ea, qa, h6, h7, _⟩ := hC.marks k (by omega) hk2
          rw [h6.epoch] at h5
          omega
    rw [h.slot, h.log, hL.place, hL.seq] at hR
    dsimp only at hR
    rw [show 2 * 2 + 50 = 54 from rfl, htop] at hR
    obtain ⟨E, hE⟩ : ∃ E, max e z + 1 = E := ⟨_, rfl⟩
    rw [hE] at hfly
    have hEe : e < E := by omega
    have hEi : E ≤ i + 1 + 1 := by omega
    rw [show ((max e z : Nat) : Int) + 1 = (E : Int) by omega] at hR
    have hrec : recErr 2 (E : Int) (tellN n).length = 0 := by
      unfold recErr
      rw [tell_len, if_neg (by omega), if_neg (by decide)]
    rw [hrec, if_neg (by decide), tell_len, show countP 2 = 1 from rfl, lay_cp] at hR
    obtain ⟨k, hk, hcode, hvk⟩ := hv.lay 1 (a := (1 - p) * 2) (by omega) (s := cpS E (q0 + bs.length) n) (cpS_len _ _ _) (cp_bytes (by omega))
    obtain ⟨r, hr9⟩ : ∃ r, d.lay ((1 - p) * 2) 1 (cpS E (q0 + bs.length) n) = r := ⟨_, rfl⟩
    rw [hr9] at hcode hvk hR
    obtain ⟨V', hV'⟩ : ∃ V', updN V ((1 - p) * 2) k (cpS E (q0 + bs.length) n) = V' := ⟨_, rfl⟩
    rw [hV'] at hvk
    have hout : ∀ t, t ≠ 2 * (1 - p) → V' t = V t := fun t ht => by
      rw [← hV']
      exact updN_out (by omega)
    rcases hcode with ⟨hc0, hk1⟩ | ⟨hc10, hk0⟩
    · subst hk1
      have hin : V' (2 * (1 - p)) = cpS E (q0 + bs.length) n := by
        have := updN_in (V := V) (a := (1 - p) * 2) (k := 1) (s := cpS E (q0 + bs.length) n) (i := 0) (by omega)
        rw [hV', Nat.add_zero, Nat.mul_zero, List.drop_zero, List.take_of_length_le (by rw [cpS_len]; omega), show (1 - p) * 2 = 2 * (1 - p) by omega] at this
        exact this
      rw [if_neg (by rw [hc0]; decide)] at hR
      have hcV : V' (2 * p) = cpS e q0 fr := by rw [hout _ (by omega)]; exact hC.cV
      rcases hvk.flush with ⟨h1, h2⟩ | ⟨h1, h2, _⟩
      · rw [if_pos (by rw [h1]; decide), h1, h2] at hR
        subst hR
        simp only
        rw [if_neg (by decide)]
        have hCf : Core S V' e q0 fr p bs c := ⟨hp1, hC.se, hsq, hsf, hC.cS, hcV, hC.cc, fun O hO => by
          have h3 := hC.log (fun t => if t = 2 * (1 - p) then S t else O t) (fun t ht => by
            by_cases h4 : t = 2 * (1 - p)
            · exact ⟨0, by rw [if_pos h4, mix_zero]⟩
            · obtain ⟨m, hm⟩ := hO t ht
              exact ⟨m, by rw [if_neg h4, hm, hout t h4]⟩)
          have h5 : ((List.range 50).flatMap fun t => (fun t => if t = 2 * (1 - p) then S t else O t) (4 + t)) = (List.range 50).flatMap fun t => O (4 + t) := flatMap_range_congr 50 (fun t ht => by simp only; rw [if_neg (by omega)])
          rw [h5] at h3
          exact h3, fun t ht hne => ⟨(hC.marks t ht hne).1, by rw [hout t hne]; exact (hC.marks t ht hne).2⟩⟩
        refine ⟨by omega, ?_, rfl, rfl, by omega, h.wb, S, V', _, e, q0, fr, p, bs, c, hvk, (by push_cast; omega), hCf, by omega, by omega, by omega, by omega, hbs, hsu, fun t => ?_, .inl rfl⟩
        · exact fits_ok may60 (e := e) (q := q0 + bs.length) hL.epoch rfl (by omega) (by omega) hp1 (by have := h.ok.used; rw [h.log] at this; exact this)
        · rw [hin, hn]
          rcases hfly t with h6 | h6
          · exact .inl ⟨E, q0 + bs.length, n, h6, hEe, hEi, by omega, by have := hC.cc; omega, Nat.le_refl _⟩
          · exact .inr fun t' h7 h8 => (h6 t' h7 h8).mono hEi
      · rw [if_neg (by rw [h1]; decide)] at hR
        subst hR
        simp only
        rw [if_pos trivial]
        have hlV : ∀ t, t < 60 → (V' t).length = 32 ∧ (V' t).length = 32 := fun t ht => ⟨(hvk.slen ht).2.2.1, (hvk.slen ht).2.2.1⟩
        have hoo : 2 * (1 - (1 - p)) = 2 * p := by omega
        have hT : Tail (E : Int) (((q0 + bs.length : Nat) : Int) + ([] : List (List Int)).length) V' V' 4 50 (endU 0 []) none := ⟨fun t _ ht => by
          obtain ⟨_, ea, qa, h6, h7, _⟩ := hC.marks (4 + t) (by omega) (by omega)
          rw [hout _ (by omega)]
          exact ⟨_, _, h6, by omega⟩, fun t _ _ => .inl rfl, fun b hb => by cases hb⟩
        have hlow : SmS (V' (2 * p)) e q0 := by rw [hcV]; exact cpS_sm (by omega) (by omega) _
        have hleft : ∀ q2 n2, Left E (i + 1 + 1) q2 n2 (V' (2 * p)) := fun q2 n2 => low_left (hlV _ (by omega)).1 hlow hEe (by omega) (by omega) q2 n2
        refine ⟨by omega, ?_, rfl, rfl, by omega, h.wb, V', V', _, E, q0 + bs.length, n, 1 - p, [], 0, h2, (by push_cast; omega), ⟨by omega, by omega, by simp; omega, by simp; omega, hin, hin, Nat.le_refl _, core_log (by omega) hlV (Nat.le_refl _) trivial (by show 0 ≤ 50; omega) hT, fun t ht hne => ?_⟩, by omega, by simp; omega, Nat.zero_le _, by omega, rfl, by omega, fun t => .inr fun t' _ _ => by rw [hoo, mix_same]; exact hleft _ _,
          .inr ⟨hL.refused, rfl, rfl, by simp, by simp [hn], rfl, by rw [hoo]; exact hleft _ _, .inl ⟨rfl, rfl, by show 0 ≤ 50; omega, trivial, hT, e, q0, by rw [hoo]; exact hlow, hEe, by omega⟩⟩⟩
        · exact fits_ok may60 (e := E) (q := q0 + bs.length) rfl rfl (by omega) (by omega) (by show 1 - p ≤ 1; omega) (Nat.zero_le _)
        · rw [hoo] at hne
          by_cases h6 : t = 2 * (1 - p)
          · subst h6
            rw [hin]
            exact ⟨⟨E, q0 + bs.length, cpS_sm (by omega) (by omega) _, Nat.le_refl _, by omega⟩, E, q0 + bs.length, cpS_sm (by omega) (by omega) _, Nat.le_refl _, by omega⟩
          · obtain ⟨_, ea, qa, h7, h8, h9⟩ := hC.marks t ht h6
            rw [hout t h6]
            exact ⟨⟨ea, qa, h7, by omega, h9⟩, ea, qa, h7, by omega, h9⟩
    · obtain rfl : k = 0 := by omega
      rw [if_pos (by rw [hc10]; decide), hc10] at hR
      subst hR
      simp only
      rw [if_neg (by decide)]
      have hVV : ∀ t, V' t = V t := fun t => by
        rw [← hV']
        exact updN_out (by omega)
      have hvv : View r.1 60 S V (W + ((1 : Nat) : Int)) := ⟨hvk.fine, hvk.len, hvk.sure, fun t ht => (hvk.seen t ht).trans (hVV t)⟩
      refine ⟨by omega, ?_, rfl, rfl, by omega, h.wb, S, V, _, e, q0, fr, p, bs, c, hvv, (by push_cast; omega), hC, by omega, by omega, by omega, by omega, hbs, hsu, hoth.mono (by omega) (by omega), .inl rfl⟩
      exact fits_ok may60 (e := e) (q := q0 + bs.length) hL.epoch rfl (by omega) (by omega) hp1 (by have := h.ok.used; rw [h.log] at this; exact this)
end Go.Proofs.YtgmeahogdjhejaaDoor
