/- Journals: the plain law of WalKeeps: Append. -/
import Derived.Test.YtgmeahogdjhejaaDoorWalCz
namespace Go.Proofs.YtgmeahogdjhejaaDoor
set_option linter.unusedVariables false
set_option linter.unusedSimpArgs false
open Go.RowKit Go.Shelf

theorem updN_in {V : Nat → List Int} {a k : Nat} {s : List Int} {i : Nat} (h : i < k) : updN V a k s (a + i) = (s.drop (32 * i)).take 32 := by
  unfold updN
  rw [if_pos (by omega), show a + i - a = i by omega]
theorem updN_out {V : Nat → List Int} {a k : Nat} {s : List Int} {i : Nat} (h : i < a ∨ a + k ≤ i) : updN V a k s i = V i := by
  unfold updN
  rw [if_neg (by omega)]
/-- Append. -/
theorem K.append {i : Nat} {d : DS} {j : JS} {wr : List (List Int)} {sure : Nat} (h : K i d j wr sure) (hi : i < 60) {b : List Int} (hb : Bytes b) (hbl : b.length ≤ 50) :
    K (i + 1) (appendP d j b).1 (appendP d j b).2.1 (if (appendP d j b).2.2 = 0 ∨ (appendP d j b).2.2 = 10 then wr ++ [b] else wr) sure := by
  obtain ⟨S, V, W, e, q0, fr, p, bs, c, hv, hW, hC, he, hqb, hblw, hfl, hbs, hsu, hoth, hl⟩ := h.body
  have hwl := h.wl
  have hp1 := hC.p1
  have hse := hC.se
  have hwb : ∀ x ∈ wr ++ [b], Bytes x ∧ x.length ≤ 50 := fun x hx => by
    rcases List.mem_append.1 hx with hx | hx
    · exact h.wb x hx
    · rw [List.mem_singleton.1 hx]; exact ⟨hb, hbl⟩
  have hbs2 : bs = ((wr ++ [b]).drop fr).take bs.length := by
    rw [List.drop_append_of_le_length hfl, List.take_append_of_le_length (by rw [List.length_drop]; omega)]
    exact hbs
  have hwl2 : (wr ++ [b]).length = wr.length + 1 := by simp
  unfold appendP
  by_cases hr : j.refused = true
  · rw [if_pos hr]
    simp only
    rw [if_pos (.inr trivial)]
    exact ⟨by omega, h.ok, h.slot, h.log, by omega, hwb, S, V, W, e, q0, fr, p, bs, c, hv, by omega, hC, by omega, by omega, by omega, by omega, hbs2, hsu, hoth.mono (by omega) (by omega), .inl hr⟩
  · rw [if_neg hr]
    by_cases hf : j.fresh = false
    · rw [if_pos hf]
      simp only
      rw [if_neg (by decide)]
      exact h.step hi (fun _ _ _ hv => hv)
    · rw [if_neg hf]
      have hL := hl.resolve_left hr
      have hsq := hC.sq
      rw [if_neg (by rw [hL.seq]; omega)]
      rcases hL.mode with ⟨hfr, hus, hu50, hlog, htail, ea, qa, hlow, hlt, hqa⟩ | ⟨hfr, _⟩
      · rw [h.log, h.slot, hus, hL.epoch, hL.seq]
        by_cases hfull : 50 - endU 0 bs < countP b.length
        · rw [if_pos hfull]
          simp only
          rw [if_neg (by decide)]
          exact h.step hi (fun _ _ _ hv => hv)
        · rw [if_neg hfull]
          have hlen := fun i (hi : i < 60) => hv.slen hi
          obtain ⟨u, hu⟩ : ∃ u, endU 0 bs = u := ⟨_, rfl⟩
          rw [hu] at hfull hu50 htail hus ⊢
          obtain ⟨n, hn⟩ : ∃ n, countP b.length = n := ⟨_, rfl⟩
          rw [hn] at hfull ⊢
          have hn1 : 1 ≤ n := by rw [← hn]; exact count_pos _
          have hqe : ((q0 + bs.length : Nat) : Int) + 1 = (q0 : Int) + bs.length + 1 := by omega
          rw [hqe]
          have hq1 : Sm ((q0 : Int) + bs.length + 1) := ⟨by omega, by omega⟩
          obtain ⟨s, hs⟩ : ∃ s, layP (e : Int) ((q0 : Int) + bs.length + 1) b = s := ⟨_, rfl⟩
          have hsl : s.length = 32 * n := by rw [← hs, layP_len, hn]
          have hsb : ∀ x ∈ s, 0 ≤ x ∧ x ≤ 255 := by rw [← hs]; exact lay_bytes hb
          have hsec : ∀ k, k < n → (s.drop (32 * k)).take 32 = sectP (markP (e : Int) ((q0 : Int) + bs.length + 1)) (matterP (e : Int) ((q0 : Int) + bs.length + 1) b) k := fun k hk => by rw [← hs]; exact lay_sector _ _ _ (by omega)
          rw [hs]
          obtain ⟨k, hk, hcode, hvk⟩ := hv.lay n (a := 2 * 2 + u) (by omega) hsl hsb
          obtain ⟨r, hr9⟩ : ∃ r, d.lay (2 * 2 + u) n s = r := ⟨_, rfl⟩
          rw [hr9] at hcode hvk ⊢
          obtain ⟨V', hV'⟩ : ∃ V', updN V (2 * 2 + u) k s = V' := ⟨_, rfl⟩
          rw [hV'] at hvk
          have hin : ∀ t, t < k → V' (4 + (u + t)) = sectP (markP (e : Int) ((q0 : Int) + bs.length + 1)) (matterP (e : Int) ((q0 : Int) + bs.length + 1) b) t := fun t ht => by
            rw [← hV', show 4 + (u + t) = 2 * 2 + u + t by omega, updN_in ht]
            exact hsec t (by omega)
          have hout : ∀ t, t < 4 + u ∨ 4 + u + k ≤ t → V' t = V t := fun t ht => by
            rw [← hV']
            exact updN_out (by omega)
          have hlV : ∀ i, i < 60 → (S i).length = 32 ∧ (V' i).length = 32 := fun i hi => ⟨(hlen i hi).1, (hvk.slen hi).2.2.1⟩
          have hVS : ∀ t, u ≤ t → t < 50 → V (4 + t) = S (4 + t) := fun t h1 h2 => (htail.now t h1 h2).resolve_right (fun ⟨b, hb, _⟩ => by cases hb)
          have hmarks : ∀ t, t < 60 → t ≠ 2 * (1 - p) → (∃ ea qa : Nat, SmS (S t) ea qa ∧ ea ≤ e ∧ qa < 64) ∧ ∃ ea qa : Nat, SmS (V' t) ea qa ∧ ea ≤ e ∧ qa < 64 := fun t ht hne => by
            refine ⟨(hC.marks t ht hne).1, ?_⟩
            by_cases h1 : t < 4 + u ∨ 4 + u + k ≤ t
            · rw [hout t h1]; exact (hC.marks t ht hne).2
            · have h2 := hin (t - (4 + u)) (by omega)
              rw [show 4 + (u + (t - (4 + u))) = t by omega] at h2
              rw [h2]
              have h3 := SmS.sect (e := (e : Int)) (q := (q0 : Int) + bs.length + 1) ⟨by omega, by omega⟩ hq1 b (t - (4 + u))
              rw [show (q0 : Int) + bs.length + 1 = ((q0 + bs.length + 1 : Nat) : Int) by omega] at h3 ⊢
              exact ⟨e, q0 + bs.length + 1, h3, Nat.le_refl _, by omega⟩
          have hlogV : LogR (e : Int) S V' 4 (q0 : Int) 0 bs c → True := fun _ => trivial
          have hcV : V' (2 * p) = cpS e q0 fr := by rw [hout _ (.inl (by omega))]; exact hC.cV
          have hoV : V' (2 * (1 - p)) = V (2 * (1 - p)) := hout _ (.inl (by omega))
          have hoth2 : OthOk S V' (i + 1 + 1) e q0 fr p bs.length c sure (wr ++ [b]).length := fun t => by
            rw [hoV]
            exact hoth.mono (by omega) (by omega) t
          rcases hcode with ⟨hc0, hkn⟩ | ⟨hc10, hkn⟩
          · subst hkn
            rw [if_neg (by rw [hc0]; decide)]
            simp only
            rw [if_pos (.inl trivial)]
            have hlow2 : SmS (S (2 * (1 - p))) ea qa := hlow
            have hleft : ∀ q2 n2, Left e (i + 1 + 1) q2 n2 (S (2 * (1 - p))) := fun q2 n2 => low_left (hlen _ (by omega)).1 hlow2 hlt hqa (by omega) q2 n2
            have hL2 : LogR (e : Int) S V' 4 (q0 : Int) 0 (bs ++ [b]) c := logR_snoc hb (by omega) bs (q0 : Int) 0 c hlog hC.cc (fun t h1 h2 => hout _ (.inl (by omega))) hq1 (fun t ht => by
              rw [hu]
              exact ⟨hin t (by omega), htail.old (u + t) (by omega) (by omega)⟩)
            have hend : endU 0 (bs ++ [b]) = u + k := by rw [endU_snoc, hu, hn]
            have hblen : (bs ++ [b]).length = bs.length + 1 := by simp
            have hT2 : Tail (e : Int) ((q0 : Int) + (bs ++ [b]).length) S V' 4 50 (endU 0 (bs ++ [b])) none := ⟨fun t h1 h2 => htail.old t (by omega) h2, fun t h1 h2 => .inl (by rw [hout _ (.inr (by omega))]; exact hVS t (by omega) h2), fun b hb => by cases hb⟩
            refine ⟨by omega, ?_, rfl, rfl, by omega, hwb, S, V', _, e, q0, fr, p, bs ++ [b], c, hvk, (by have h5 : (k : Int) ≤ 50 := (by omega); push_cast; omega), ⟨hp1, hse, by omega, by rw [hblen]; have := hL.all; omega, hC.cS, hcV, by rw [hblen]; have := hC.cc; omega, core_log hse hlV (by rw [hblen]; have := hC.cc; omega) hL2 (by omega) hT2, hmarks⟩, by omega, by omega, by rw [hblen, hwl2]; have := hL.all; omega, by omega, ?_, hsu, fun t => .inr fun t' _ _ => by rw [hoV, hL.still, mix_same]; exact hleft _ _,
              .inr ⟨hL.refused, rfl, hL.place, by rw [hblen]; show (q0 : Int) + bs.length + 1 = _; omega, by rw [hblen, hwl2]; have := hL.all; omega, by rw [hoV]; exact hL.still, hleft _ _, .inl ⟨hfr, by rw [hend], by omega, hL2, hT2, ea, qa, hlow2, hlt, hqa⟩⟩⟩
            · exact fits_ok may60 (e := e) (q := q0 + bs.length + 1) rfl (by show (q0 : Int) + bs.length + 1 = _; omega) (by omega) (by omega) h.ok.place (by show u + k ≤ 50; omega)
            · have h1 : bs = wr.drop fr := by
                rw [hbs]
                exact List.take_of_length_le (by rw [List.length_drop]; have := hL.all; omega)
              rw [List.drop_append_of_le_length hfl, ← h1, List.take_of_length_le (by simp)]
          · rw [if_pos (by rw [hc10]; decide), hc10]
            simp only
            rw [if_pos (.inr trivial)]
            have hlogB : LogR (e : Int) S V' 4 (q0 : Int) 0 bs c := by
              have hgen : ∀ (l : List (List Int)) (q : Int) (u' c' : Nat), LogR (e : Int) S V 4 q u' l c' → endU u' l ≤ u → LogR (e : Int) S V' 4 q u' l c' := fun l => by
                induction l with
                | nil => intro _ _ _ _ _; trivial
                | cons x l ih =>
                  intro q u' c' ⟨h1, h2, h3, h4, h5⟩ he'
                  have hge := endU_ge l (u' + countP x.length)
                  have he2 : endU (u' + countP x.length) l ≤ u := he'
                  exact ⟨h1, h2, h3, fun t ht => ⟨by rw [hout _ (.inl (by omega))]; exact (h4 t ht).1, (h4 t ht).2⟩, ih _ _ _ h5 he2⟩
              exact hgen bs (q0 : Int) 0 c hlog (by omega)
            have hT2 : Tail (e : Int) ((q0 : Int) + bs.length) S V' 4 50 (endU 0 bs) (some b) := by
              rw [hu]
              refine ⟨htail.old, fun t h1 h2 => ?_, fun b' hb' => ?_⟩
              · by_cases h3 : t < u + k
                · right
                  refine ⟨b, rfl, by omega, ?_⟩
                  have h4 := hin (t - u) (by omega)
                  rw [show u + (t - u) = t by omega] at h4
                  exact h4
                · left
                  rw [hout _ (.inr (by omega))]
                  exact hVS t h1 h2
              · cases hb'
                exact ⟨hb, by omega, hq1, u + k, by omega, by omega, by omega, by rw [hout _ (.inr (by omega))]; exact hVS (u + k) (by omega) (by omega)⟩
            exact ⟨by omega, fits_ok may60 (e := e) (q := q0 + bs.length) rfl rfl (by omega) (by omega) h.ok.place (by show u ≤ 50; omega), rfl, rfl, by omega, hwb, S, V', _, e, q0, fr, p, bs, c, hvk, (by have h5 : (n : Int) ≤ 50 := (by omega); push_cast; omega), ⟨hp1, hse, hsq, hC.sf, hC.cS, hcV, hC.cc, core_log hse hlV hC.cc hlogB (by omega) hT2, hmarks⟩, by omega, by omega, by omega, by omega, hbs2, hsu, hoth2, .inl rfl⟩
      · exact absurd hfr hf
end Go.Proofs.YtgmeahogdjhejaaDoor
