/- Journals: the plain law of WalKeeps: fuses, commits, records. -/
import Derived.Test.YtgmeahogdjhejaaDoorWalCy
namespace Go.Proofs.YtgmeahogdjhejaaDoor
set_option linter.unusedVariables false
set_option linter.unusedSimpArgs false
open Go.RowKit Go.Shelf

theorem OthOk.mono {S V : Nat → List Int} {E E' e q0 fr p len c sure n n' : Nat} (h : OthOk S V E e q0 fr p len c sure n) (hE : E ≤ E') (hn : n ≤ n') : OthOk S V E' e q0 fr p len c sure n' := fun k => by
  rcases h k with ⟨E1, qf, nf, h1, h2, h3, h4, h5, h6⟩ | h
  · exact .inl ⟨E1, qf, nf, h1, h2, by omega, by omega, h5, by omega⟩
  · exact .inr fun t ht1 ht2 => (h t ht1 ht2).mono hE
theorem Live.mono {S V : Nat → List Int} {j : JS} {e q0 fr p : Nat} {bs : List (List Int)} {c n E E' : Nat} (h : Live S V j e q0 fr p bs c n E) (hE : E ≤ E') : Live S V j e q0 fr p bs c n E' :=
  ⟨h.refused, h.epoch, h.place, h.seq, h.all, h.still, h.oth.mono hE, h.mode⟩
/-- Nothing is done, or nothing that shows. -/
theorem K.step {i : Nat} {d d' : DS} {j : JS} {wr : List (List Int)} {sure : Nat} (h : K i d j wr sure) (hi : i < 60) (hd : ∀ S V W, View d 60 S V W → View d' 60 S V W) : K (i + 1) d' j wr sure := by
  obtain ⟨S, V, W, e, q0, fr, p, bs, c, hv, hW, hC, he, hqb, hbl, hfl, hbs, hsu, hoth, hl⟩ := h.body
  have hwl := h.wl
  exact ⟨by omega, h.ok, h.slot, h.log, by omega, h.wb, S, V, W, e, q0, fr, p, bs, c, hd S V W hv, by omega, hC, by omega, by omega, hbl, hfl, hbs, hsu, hoth.mono (by omega) (Nat.le_refl _), hl.imp id (fun h => h.mono (by omega))⟩
theorem K.fuse {i : Nat} {d : DS} {j : JS} {wr : List (List Int)} {sure : Nat} (h : K i d j wr sure) (hi : i < 60) (n : Int) (hn : n ≤ 9223372036854775807) : K (i + 1) { d with fuse := max n (-1) } j wr sure :=
  h.step hi (fun _ _ _ hv => hv.fuse n hn)
theorem JS.Ok.refuse {j : JS} {N : Nat} (h : j.Ok N) (r : Bool) : JS.Ok { j with refused := r } N := ⟨h.may, h.epoch, h.seq, h.place, h.used⟩
theorem endU_snoc : ∀ (bs : List (List Int)) (b : List Int) (u : Nat), endU u (bs ++ [b]) = endU u bs + countP b.length
  | [], _, _ => rfl
  | x :: bs, b, u => endU_snoc bs b (u + countP x.length)
theorem endU_take : ∀ (bs : List (List Int)) (u t : Nat), endU u (bs.take t) ≤ endU u bs
  | [], u, t => by rw [List.take_nil]; exact Nat.le_refl _
  | b :: bs, u, 0 => endU_ge (b :: bs) u
  | b :: bs, u, t + 1 => by rw [List.take_succ_cons]; exact endU_take bs (u + countP b.length) t
theorem logR_flush {e : Int} {S V : Nat → List Int} {base : Nat} : ∀ (bs : List (List Int)) (q : Int) (u c : Nat), LogR e S V base q u bs c → LogR e V V base q u bs bs.length
  | [], _, _, _, _ => trivial
  | b :: bs, q, u, c, ⟨h1, h2, h3, h4, h5⟩ => ⟨h1, h2, h3, fun k hk => ⟨(h4 k hk).1, by rw [if_pos (by rw [List.length_cons]; omega)]; exact (h4 k hk).1⟩, logR_flush bs (q + 1) _ _ h5⟩
theorem logR_snoc {e : Int} {S V V' : Nat → List Int} {base : Nat} {b : List Int} (hb : Bytes b) (hl : b.length ≤ 65535) : ∀ (bs : List (List Int)) (q : Int) (u c : Nat), LogR e S V base q u bs c → c ≤ bs.length →
    (∀ k, u ≤ k → k < endU u bs → V' (base + k) = V (base + k)) → Sm (q + bs.length + 1) →
    (∀ k, k < countP b.length → V' (base + (endU u bs + k)) = sectP (markP e (q + bs.length + 1)) (matterP e (q + bs.length + 1) b) k ∧ ∃ ea qa, SmS (S (base + (endU u bs + k))) ea qa ∧ ea ≠ e) → LogR e S V' base q u (bs ++ [b]) c
  | [], q, u, c, _, hc, _, hq, hn => by
    simp only [List.length_nil, Int.natCast_zero, Int.add_zero] at hq hn
    obtain rfl : c = 0 := by simpa using hc
    exact ⟨hb, hl, hq, fun k hk => ⟨(hn k hk).1, by rw [if_neg (by omega)]; exact (hn k hk).2⟩, trivial⟩
  | x :: bs, q, u, c, ⟨h1, h2, h3, h4, h5⟩, hc, hV, hq, hn => by
    have hge := endU_ge bs (u + countP x.length)
    have he : endU u (x :: bs) = endU (u + countP x.length) bs := rfl
    have hqq : q + ((x :: bs).length : Nat) + 1 = q + 1 + (bs.length : Nat) + 1 := by rw [List.length_cons]; omega
    rw [hqq] at hq hn
    rw [he] at hV hn
    exact ⟨h1, h2, h3, fun k hk => ⟨by rw [hV (u + k) (by omega) (by omega)]; exact (h4 k hk).1, (h4 k hk).2⟩, logR_snoc hb hl bs (q + 1) _ (c - 1) h5 (by rw [List.length_cons] at hc; omega) (fun k hk1 hk2 => hV k (by omega) hk2) hq hn⟩
/-- What the log's outcomes are. -/
theorem core_log {S V : Nat → List Int} {e q0 : Nat} (he : e < 63) {bs : List (List Int)} {c : Nat} (hlen : ∀ i, i < 60 → (S i).length = 32 ∧ (V i).length = 32) (hc : c ≤ bs.length) (hL : LogR (e : Int) S V 4 (q0 : Int) 0 bs c) (hend : endU 0 bs ≤ 50)
    {part : Option (List Int)} (hT : Tail (e : Int) ((q0 : Int) + bs.length) S V 4 50 (endU 0 bs) part) (O : Nat → List Int) (hO : ∀ i, i < 60 → ∃ k, O i = mixS k (S i) (V i)) :
    ∃ t u, c ≤ t ∧ t ≤ bs.length ∧ u ≤ 50 ∧ scanP ((List.range 50).flatMap fun k => O (4 + k)) (e : Int) 50 (q0 : Int) 0 = (bs.take t, ((q0 + t : Nat) : Int), u) := by
  obtain ⟨t, h1, h2, h3⟩ := log_outcome (N := 60) ⟨by omega, by omega⟩ hlen hO (by omega) hc hL hend hT
  exact ⟨t, _, h1, h2, Nat.le_trans (endU_take bs 0 t) hend, h3⟩
theorem low_left {e E : Nat} {s : List Int} (hl : s.length = 32) {ea qa : Nat} (hs : SmS s ea qa) (h1 : ea < e) (h2 : qa < 64) (h3 : e ≤ E) (q2 n2 : Nat) : Left e E q2 n2 s := ⟨.inl ⟨hl, ea, qa, hs, h1, h2⟩, hl, ea, qa, hs, by omega, h2⟩
/-- Commit. -/
theorem K.commit {i : Nat} {d : DS} {j : JS} {wr : List (List Int)} {sure : Nat} (h : K i d j wr sure) (hi : i < 60) :
    K (i + 1) (commitP d j).1 (commitP d j).2.1 wr (if (commitP d j).2.2 = 0 then wr.length else sure) := by
  unfold commitP
  by_cases hr : j.refused = true
  · rw [if_pos hr]
    exact h.step hi (fun _ _ _ hv => hv)
  · rw [if_neg hr]
    by_cases hf : j.fresh = false
    · rw [if_pos hf]
      exact h.step hi (fun _ _ _ hv => hv)
    · rw [if_neg hf]
      obtain ⟨S, V, W, e, q0, fr, p, bs, c, hv, hW, hC, he, hqb, hbl, hfl, hbs, hsu, hoth, hl⟩ := h.body
      have hwl := h.wl
      have hp1 := hC.p1
      rcases hv.flush with ⟨h1, h2⟩ | ⟨h1, h2, _⟩
      · simp only [h1, h2]
        rw [if_neg (by decide)]
        exact ⟨by omega, h.ok.refuse _, h.slot, h.log, by omega, h.wb, S, V, W, e, q0, fr, p, bs, c, hv, by omega, hC, by omega, by omega, hbl, hfl, hbs, hsu, hoth.mono (by omega) (Nat.le_refl _), .inl rfl⟩
      · simp only [h1]
        rw [if_pos trivial]
        have hL := hl.resolve_left hr
        rcases hL.mode with ⟨hfr, hus, hu50, hlog, htail, ea, qa, hlow, hlt, hqa⟩ | ⟨hfr, _⟩
        · have hlen := fun i (hi : i < 60) => hv.slen hi
          have hlV : ∀ i, i < 60 → (V i).length = 32 ∧ (V i).length = 32 := fun i hi => ⟨(hlen i hi).2.2.1, (hlen i hi).2.2.1⟩
          have hVS : ∀ k, endU 0 bs ≤ k → k < 50 → V (4 + k) = S (4 + k) := fun k h1 h2 => (htail.now k h1 h2).resolve_right (fun ⟨b, hb, _⟩ => by cases hb)
          have hT2 : Tail (e : Int) ((q0 : Int) + bs.length) V V 4 50 (endU 0 bs) none := ⟨fun k h1 h2 => by rw [hVS k h1 h2]; exact htail.old k h1 h2, fun k _ _ => .inl rfl, fun b hb => by cases hb⟩
          have hL2 := logR_flush bs (q0 : Int) 0 c hlog
          have hlow2 : SmS (V (2 * (1 - p))) ea qa := by rw [hL.still]; exact hlow
          have hleft : ∀ q2 n2, Left e (i + 1 + 1) q2 n2 (V (2 * (1 - p))) := fun q2 n2 => low_left (hlen _ (by omega)).2.2.1 hlow2 hlt hqa (by omega) q2 n2
          refine ⟨by omega, h.ok.refuse _, h.slot, h.log, by omega, h.wb, V, V, W, e, q0, fr, p, bs, bs.length, h2, by omega, ⟨hp1, hC.se, hC.sq, hC.sf, hC.cV, hC.cV, Nat.le_refl _, core_log hC.se hlV (Nat.le_refl _) hL2 hu50 hT2, fun k hk hne => ⟨(hC.marks k hk hne).2, (hC.marks k hk hne).2⟩⟩, by omega, by omega, hbl, hfl, hbs, by rw [hL.all]; exact Nat.le_refl _,
            fun k => .inr fun t _ _ => by rw [mix_same]; exact hleft _ _, .inr ⟨rfl, hL.epoch, hL.place, hL.seq, hL.all, rfl, hleft _ _, .inl ⟨hfr, hus, hu50, hL2, hT2, ea, qa, hlow2, hlt, hqa⟩⟩⟩
        · exact absurd hfr hf
end Go.Proofs.YtgmeahogdjhejaaDoor
