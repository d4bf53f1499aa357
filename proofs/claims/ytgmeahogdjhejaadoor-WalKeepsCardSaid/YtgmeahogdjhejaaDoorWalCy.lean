/- Journals: the plain law of WalKeeps: what holds of a journal, its disk, and the records that were written. Crashes. -/
import Derived.Test.YtgmeahogdjhejaaDoorWalCx
namespace Go.Proofs.YtgmeahogdjhejaaDoor
set_option linter.unusedVariables false
set_option linter.unusedSimpArgs false
open Go.RowKit Go.Shelf

structure Core (S V : Nat → List Int) (e q0 fr p : Nat) (bs : List (List Int)) (c : Nat) : Prop where
  p1 : p ≤ 1
  se : e < 63
  sq : q0 + bs.length < 64
  sf : fr + bs.length < 64
  cS : S (2 * p) = cpS e q0 fr
  cV : V (2 * p) = cpS e q0 fr
  cc : c ≤ bs.length
  log : ∀ O : Nat → List Int, (∀ i, i < 60 → ∃ k, O i = mixS k (S i) (V i)) → ∃ t u, c ≤ t ∧ t ≤ bs.length ∧ u ≤ 50 ∧ scanP ((List.range 50).flatMap fun k => O (4 + k)) (e : Int) 50 (q0 : Int) 0 = (bs.take t, ((q0 + t : Nat) : Int), u)
  marks : ∀ i, i < 60 → i ≠ 2 * (1 - p) → (∃ ea qa : Nat, SmS (S i) ea qa ∧ ea ≤ e ∧ qa < 64) ∧ ∃ ea qa : Nat, SmS (V i) ea qa ∧ ea ≤ e ∧ qa < 64
/-- Whatever a crash leaves in the place that has no checkpoint. -/
def OthOk (S V : Nat → List Int) (E e q0 fr p len c sure n : Nat) : Prop :=
  ∀ k, (∃ E' qf nf : Nat, mixS k (S (2 * (1 - p))) (V (2 * (1 - p))) = cpS E' qf nf ∧ e < E' ∧ E' ≤ E ∧ qf < E ∧ sure ≤ nf ∧ nf ≤ n) ∨
    ∀ t, c ≤ t → t ≤ len → Left e E (q0 + t) (fr + t) (mixS k (S (2 * (1 - p))) (V (2 * (1 - p))))
/-- A journal that may be written to. -/
structure Live (S V : Nat → List Int) (j : JS) (e q0 fr p : Nat) (bs : List (List Int)) (c n E : Nat) : Prop where
  refused : j.refused = false
  epoch : j.epoch = (e : Int)
  place : j.place = p
  seq : j.seq = ((q0 + bs.length : Nat) : Int)
  all : fr + bs.length = n
  still : V (2 * (1 - p)) = S (2 * (1 - p))
  oth : Left e E (q0 + bs.length) (fr + bs.length) (S (2 * (1 - p)))
  mode : (j.fresh = true ∧ j.used = endU 0 bs ∧ endU 0 bs ≤ 50 ∧ LogR (e : Int) S V 4 (q0 : Int) 0 bs c ∧ Tail (e : Int) ((q0 : Int) + bs.length) S V 4 50 (endU 0 bs) none ∧ ∃ ea qa : Nat, SmS (S (2 * (1 - p))) ea qa ∧ ea < e ∧ qa < 64) ∨
    (j.fresh = false ∧ c = bs.length ∧ ∀ i, i < 60 → V i = S i)
structure K (i : Nat) (d : DS) (j : JS) (wr : List (List Int)) (sure : Nat) : Prop where
  i60 : i ≤ 60
  ok : j.Ok 60
  slot : j.slot = 2
  log : j.log = 50
  wl : wr.length ≤ i
  wb : ∀ b ∈ wr, Bytes b ∧ b.length ≤ 50
  body : ∃ S V W e q0 fr p bs c, View d 60 S V W ∧ W ≤ 6000 + 3000 * (i : Int) ∧ Core S V e q0 fr p bs c ∧ e ≤ i + 1 ∧ q0 + bs.length ≤ i ∧ bs.length ≤ wr.length - fr ∧ fr ≤ wr.length ∧ bs = (wr.drop fr).take bs.length ∧ sure ≤ fr + c ∧
    OthOk S V (i + 1) e q0 fr p bs.length c sure wr.length ∧ (j.refused = true ∨ Live S V j e q0 fr p bs c wr.length (i + 1))
theorem View.between {d : DS} {N : Nat} {S V : Nat → List Int} {W : Int} (h : View d N S V W) {a n : Nat} (ha : a + n ≤ N) : d.between a n = (List.range n).flatMap fun k => V (a + k) :=
  flatMap_range_congr n (fun i hi => h.seen _ (by omega))
theorem best_main {d : DS} {p : Nat} (hp : p ≤ 1) {r : Rec} (h1 : liftP (d.between (2 * p) 2) = some r) (h2 : ∀ r', liftP (d.between (2 * (1 - p)) 2) = some r' → r'.epoch < r.epoch) : bestP d 2 = some (r, p) := by
  rcases (show p = 0 ∨ p = 1 by omega) with rfl | rfl
  · have h1' : liftP (d.between 0 2) = some r := h1
    have h2' : ∀ r', liftP (d.between 2 2) = some r' → r'.epoch < r.epoch := h2
    unfold bestP
    rw [h1']
    cases hb : liftP (d.between 2 2) with
    | none => rfl
    | some b =>
      simp only
      rw [if_neg (by have := h2' b hb; omega)]
  · have h1' : liftP (d.between 2 2) = some r := h1
    have h2' : ∀ r', liftP (d.between 0 2) = some r' → r'.epoch < r.epoch := h2
    unfold bestP
    rw [h1']
    cases hb : liftP (d.between 0 2) with
    | none => rfl
    | some b =>
      simp only
      rw [if_pos (h2' b hb)]
theorem lift_cp {e q n : Nat} (he : e < 256) (hq : q < 256) {f : Nat → List Int} (h0 : f 0 = cpS e q n) : liftP ((List.range 2).flatMap f) = some ⟨(e : Int), (q : Int), tellN n, 1⟩ := by
  obtain ⟨rest, hrest⟩ := flat_first (f := f) (m := 2) (by omega)
  have h1 := lift_lay (e := (e : Int)) (q := (q : Int)) (b := tellN n) ⟨by omega, by omega⟩ ⟨by omega, by omega⟩ (by rw [tell_len]; omega) rest
  rw [lay_cp, tell_len, show countP 2 = 1 from rfl] at h1
  rw [hrest, h0]
  exact h1
theorem open_main {d : DS} {p : Nat} {e q n : Nat} (hbest : bestP d 2 = some (⟨(e : Int), (q : Int), tellN n, 1⟩, p)) {xs : List (List Int)} {sq : Int} {u : Nat} (hs : scanP (d.between 4 50) (e : Int) 50 (q : Int) 0 = (xs, sq, u)) :
    openP d 2 50 = some (⟨2, 50, (e : Int), sq, p, u, false, false⟩, tellN n, xs) := by
  unfold openP
  rw [hbest]
  simp only
  rw [show 2 * 2 = 4 from rfl, hs]
theorem mix_small {a b : List Int} {ea qa eb qb e : Nat} (ha : SmS a ea qa) (hb : SmS b eb qb) (hal : a.length = 32) (hbl : b.length = 32) (h1 : ea ≤ e) (h2 : eb ≤ e) (h3 : qa < 64) (h4 : qb < 64) (c : Nat) : ∃ ez qz : Nat, SmS (mixS c a b) ez qz ∧ ez ≤ e ∧ qz < 64 := by
  rcases (mix_cases ha hb hal hbl c).2 with h | ⟨_, h⟩ | h
  · exact ⟨ea, qa, h, h1, h3⟩
  · exact ⟨eb, qa, h, h2, h3⟩
  · rw [h]; exact ⟨eb, qb, hb, h2, h4⟩
theorem fits_ok {N : Nat} {j : JS} (hm : mayP N j.slot j.log) {e q : Nat} (he : j.epoch = (e : Int)) (hq : j.seq = (q : Int)) (hes : e < 256) (hqs : q < 256) (hp : j.place ≤ 1) (hu : j.used ≤ j.log) : j.Ok N :=
  ⟨hm, by rw [he]; exact ⟨by omega, by omega⟩, by rw [hq]; exact ⟨by omega, by omega⟩, hp, hu⟩
theorem Left.mono {e E E' q2 n2 : Nat} {s : List Int} (h : Left e E q2 n2 s) (hE : E ≤ E') : Left e E' q2 n2 s := by
  obtain ⟨h1, h2, z, w, h3, h4, h5⟩ := h
  exact ⟨h1, h2, z, w, h3, by omega, h5⟩
theorem may60 : mayP 60 ((2 : Nat) : Int) ((50 : Nat) : Int) := ag_may
/-- Behind a crash: what is found, and what holds then. -/
theorem K.crash {i : Nat} {d : DS} {j : JS} {wr : List (List Int)} {sure : Nat} (h : K i d j wr sure) (hi : i < 60) (keep torn cut : Int) :
    ∃ j' fr t, openP (d.crash keep torn cut) 2 50 = some (j', tellN fr, (wr.drop fr).take t) ∧ fr < 64 ∧ sure ≤ fr + t ∧ fr + t ≤ wr.length ∧ K (i + 1) (d.crash keep torn cut) j' (wr.take (fr + t)) (fr + t) := by
  obtain ⟨S, V, W, e, q0, fr, p, bs, c, hv, hW, hC, he, hqb, hbl, hfl, hbs, hsu, hoth, _⟩ := h.body
  have hlen := fun i (hi : i < 60) => hv.slen hi
  obtain ⟨O, hO, hvO⟩ := hv.crash keep torn cut
  obtain ⟨d', hd'⟩ : ∃ d', d.crash keep torn cut = d' := ⟨_, rfl⟩
  rw [hd'] at hvO ⊢
  have hp1 := hC.p1
  have hse := hC.se
  have hOl : ∀ i, i < 60 → (O i).length = 32 := fun i hi => (hvO.slen hi).1
  have hmk : ∀ i, i < 60 → i ≠ 2 * (1 - p) → ∃ ea qa : Nat, SmS (O i) ea qa ∧ ea ≤ e ∧ qa < 64 := fun i hi hne => by
    obtain ⟨⟨ea, qa, h1, h2, h3⟩, eb, qb, h4, h5, h6⟩ := hC.marks i hi hne
    obtain ⟨n, hn⟩ := hO i hi
    rw [hn]
    exact mix_small h1 h4 (hlen i hi).1 (hlen i hi).2.2.1 h2 h5 h3 h6 n
  have hcp : O (2 * p) = cpS e q0 fr := by
    obtain ⟨n, hn⟩ := hO (2 * p) (by omega)
    rw [hn, hC.cS, hC.cV, mix_same]
  obtain ⟨n, hn⟩ := hO (2 * (1 - p)) (by omega)
  have hq0 : q0 < 64 := by have := hC.sq; omega
  have hmain : liftP (d'.between (2 * p) 2) = some ⟨(e : Int), (q0 : Int), tellN fr, 1⟩ := by
    rw [hvO.between (by omega)]
    exact lift_cp (by omega) (by omega) (f := fun k => O (2 * p + k)) hcp
  have hob : d'.between (2 * (1 - p)) 2 = (List.range 2).flatMap fun k => O (2 * (1 - p) + k) := hvO.between (by omega)
  rcases hoth n with ⟨E', qf, nf, hcf, hlt, hE, hqf, hsn, hnn⟩ | hleft
  · -- the other checkpoint has come off
    have hwl := h.wl
    have hi60 := h.i60
    have hqf6 : qf < 64 := by omega
    have hnew : liftP (d'.between (2 * (1 - p)) 2) = some ⟨(E' : Int), (qf : Int), tellN nf, 1⟩ := by
      rw [hob]
      exact lift_cp (by omega) (by omega) (f := fun k => O (2 * (1 - p) + k)) (hn.trans hcf)
    have hbest : bestP d' 2 = some (⟨(E' : Int), (qf : Int), tellN nf, 1⟩, 1 - p) := best_main (by omega) hnew (fun r' hr' => by
      rw [show 2 * (1 - (1 - p)) = 2 * p by omega, hmain] at hr'
      cases hr'
      show (e : Int) < (E' : Int)
      omega)
    have hlog4 : ∀ O' : Nat → List Int, (∀ i, i < 60 → ∃ k, O' i = mixS k (O i) (O i)) → scanP ((List.range 50).flatMap fun k => O' (4 + k)) (E' : Int) 50 (qf : Int) 0 = ([], (qf : Int), 0) := fun O' hO' => by
      refine scan_end (fun r hr hh => ?_)
      obtain ⟨rest, hrest⟩ := flat_first (f := fun k => O' (4 + k)) (m := 50) (by omega)
      obtain ⟨n', hn'⟩ := hO' 4 (by omega)
      rw [mix_same] at hn'
      rw [Nat.mul_zero, List.drop_zero, hrest] at hr
      have h1 := (lift_first (s := O' (4 + 0)) (by show (O' 4).length = 32; rw [hn']; exact hOl 4 (by omega)) hr).1
      obtain ⟨ea, qa, hs, hle, _⟩ := hmk 4 (by omega) (by omega)
      have h2 : epochP (O' (4 + 0)) = (ea : Int) := by
        show epochP (O' 4) = _
        rw [hn']; exact hs.epoch
      have h3 := hh.1
      omega
    have hO0 := hlog4 O (fun i hi => ⟨0, (mix_same _ _).symm⟩)
    refine ⟨⟨2, 50, (E' : Int), (qf : Int), 1 - p, 0, false, false⟩, nf, 0, ?_, by omega, by omega, by omega, ?_⟩
    · rw [List.take_zero]
      refine open_main hbest (xs := []) (sq := (qf : Int)) (u := 0) ?_
      rw [hvO.between (by omega)]
      exact hO0
    · have hso : O (2 * (1 - p)) = cpS E' qf nf := hn.trans hcf
      have hoo : 2 * (1 - (1 - p)) = 2 * p := by omega
      refine ⟨by omega, fits_ok may60 (e := E') (q := qf) rfl rfl (by omega) (by omega) (by show 1 - p ≤ 1; omega) (Nat.zero_le _), rfl, rfl, by rw [List.length_take]; omega, fun b hb => h.wb b (List.mem_of_mem_take hb), ?_⟩
      have hleft : Left E' (i + 1 + 1) (qf + 0) (nf + 0) (O (2 * p)) := by
        rw [hcp]
        exact ⟨.inl ⟨cpS_len _ _ _, e, q0, cpS_sm (by omega) (by omega) _, hlt, hq0⟩, cpS_len _ _ _, e, q0, cpS_sm (by omega) (by omega) _, by omega, hq0⟩
      refine ⟨O, O, W, E', qf, nf, 1 - p, [], 0, hvO, by omega, ⟨by omega, by omega, by simpa using hqf6, by simp; omega, hso, hso, Nat.le_refl _, fun O' hO' => ⟨0, 0, Nat.le_refl _, Nat.le_refl _, by omega, by rw [hlog4 O' hO']; rfl⟩, fun k hk hne => ?_⟩, by omega, by show qf + 0 ≤ i + 1; omega, Nat.zero_le _, by rw [List.length_take]; omega, rfl, by omega, fun k => .inr fun t ht1 ht2 => ?_, .inr ⟨rfl, rfl, rfl, rfl, by rw [List.length_take]; show nf + 0 = _; omega, rfl, ?_, .inr ⟨rfl, rfl, fun _ _ => rfl⟩⟩⟩
      · by_cases hk2 : k = 2 * (1 - p)
        · subst hk2
          rw [hso]
          exact ⟨⟨E', qf, cpS_sm (by omega) (by omega) _, Nat.le_refl _, hqf6⟩, E', qf, cpS_sm (by omega) (by omega) _, Nat.le_refl _, hqf6⟩
        · obtain ⟨ea, qa, h1, h2, h3⟩ := hmk k hk hk2
          exact ⟨⟨ea, qa, h1, by omega, h3⟩, ea, qa, h1, by omega, h3⟩
      · obtain rfl : t = 0 := by simpa using ht2
        rw [mix_same, hoo]
        exact hleft
      · rw [hoo]
        exact hleft
  · -- the checkpoint is the one that there was
    obtain ⟨t, u, hct, htl, hu, hsc⟩ := hC.log O hO
    have hlf := hleft t hct htl
    rw [← hn] at hlf
    have hsf := hC.sf
    have hsq := hC.sq
    have hi60 := h.i60
    have hbest : bestP d' 2 = some (⟨(e : Int), (q0 : Int), tellN fr, 1⟩, p) := best_main hp1 hmain (fun r' hr' => by
      rw [hob] at hr'
      obtain ⟨rest, hrest⟩ := flat_first (f := fun k => O (2 * (1 - p) + k)) (m := 2) (by omega)
      rw [hrest] at hr'
      exact oth_lift (q2 := q0 + t) (n2 := fr + t) (by omega) (by omega) hlf.1 hr')
    have hbt : bs.take t = (wr.drop fr).take t := by
      rw [hbs, List.take_take]
      congr 1
      omega
    have hlt : (bs.take t).length = t := by rw [List.length_take]; omega
    have hwt : (wr.take (fr + t)).length = fr + t := by rw [List.length_take]; omega
    refine ⟨⟨2, 50, (e : Int), ((q0 + t : Nat) : Int), p, u, false, false⟩, fr, t, ?_, by omega, by omega, by omega, ?_⟩
    · rw [← hbt]
      refine open_main hbest ?_
      rw [hvO.between (by omega)]
      exact hsc
    · refine ⟨by omega, fits_ok may60 (e := e) (q := q0 + t) rfl rfl (by omega) (by omega) hp1 hu, rfl, rfl, by rw [hwt]; have := h.wl; omega, fun b hb => h.wb b (List.mem_of_mem_take hb), ?_⟩
      have hl2 := hlf.mono (E' := i + 1 + 1) (by omega)
      refine ⟨O, O, W, e, q0, fr, p, bs.take t, t, hvO, by omega, ⟨hp1, hse, by rw [hlt]; omega, by rw [hlt]; omega, hcp, hcp, by rw [hlt]; exact Nat.le_refl _, fun O' hO' => ⟨t, u, Nat.le_refl _, by rw [hlt]; exact Nat.le_refl _, hu, ?_⟩, fun k hk hne => ⟨hmk k hk hne, hmk k hk hne⟩⟩, by omega, by rw [hlt]; omega, by rw [hlt, hwt]; omega, by rw [hwt]; omega, ?_, Nat.le_refl _, fun k => .inr fun t' ht1 ht2 => ?_,
        .inr ⟨rfl, rfl, rfl, by rw [hlt], by rw [hlt, hwt], rfl, by rw [hlt]; exact hl2, .inr ⟨rfl, by rw [hlt], fun _ _ => rfl⟩⟩⟩
      · have h1 : ∀ k, k < 50 → O' (4 + k) = O (4 + k) := fun k hk => by
          obtain ⟨n', hn'⟩ := hO' (4 + k) (by omega)
          rw [hn', mix_same]
        rw [flatMap_range_congr 50 h1, hsc, List.take_take, Nat.min_self]
      · rw [hlt, hbt, List.drop_take, show fr + t - fr = t by omega, List.take_take, Nat.min_self]
      · rw [hlt] at ht2
        obtain rfl : t' = t := by omega
        rw [mix_same]
        exact hl2
end Go.Proofs.YtgmeahogdjhejaaDoor
