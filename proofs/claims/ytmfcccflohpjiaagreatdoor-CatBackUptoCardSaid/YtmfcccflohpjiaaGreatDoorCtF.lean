/- Catalogues: CatEncodes and CatDecodes walked. -/
import Derived.Test.YtmfcccflohpjiaaGreatDoorCtE
namespace Go.Proofs.YtmfcccflohpjiaaGreatDoor
set_option linter.unusedVariables false
set_option linter.unusedSimpArgs false
open Go.RowKit

def EncK (out : List Int) (F : Int) (w : World) (e : Ending) (w' : World) : Prop := ∃ v, e = .returned (.tuple #[v, .int .i64 F]) ∧ RdS (encInt .u8) 1 w' v out ∧ Ext0 w w'
theorem enc_both (l : List Ent) (hn : l.length ≤ 100000) (hp : PathOk l) : ∃ out F,
    (∀ W v, Pth.ML W → RdS eCells 6 W v l → Calls Tryz.prog 7 #[v] W (EncK out F W)) ∧ (∀ W v, RdS eCells 6 W v l → Calls Tryz.prog 9 #[v] W (EncK out F W)) := by
  by_cases h : CatGood l
  · refine ⟨encCat l, 0, fun W v hm hr => (encode_any v l W hr hn hp hm).mono ?_, fun W v hr => (refEncodeC_any v l W hr hn hp).mono ?_⟩ <;>
    · rintro e w' ⟨⟨_, v2, rfl, h2⟩ | ⟨hb, _⟩, hE⟩
      · exact ⟨v2, rfl, h2, hE⟩
      · exact (hb h).elim
  · refine ⟨[], 3, fun W v hm hr => (encode_any v l W hr hn hp hm).mono ?_, fun W v hr => (refEncodeC_any v l W hr hn hp).mono ?_⟩ <;>
    · rintro e w' ⟨⟨hg, _⟩ | ⟨_, rfl⟩, hE⟩
      · exact (h hg).elim
      · exact ⟨_, rfl, RdS.nil _ _ _, hE⟩
theorem good_both (l : List Ent) (hn : l.length ≤ 100000) (hp : PathOk l) : ∃ q : Bool, (q = true ↔ CatGood l) ∧
    (∀ W v, Pth.ML W → RdS eCells 6 W v l → Calls Tryz.prog 11 #[v] W fun e w' => e = .returned (.bool q) ∧ Ext0 W w') ∧ (∀ W v, RdS eCells 6 W v l → Calls Tryz.prog 12 #[v] W fun e w' => e = .returned (.bool q) ∧ Ext0 W w') := by
  obtain ⟨q, hq⟩ : ∃ q : Bool, q = true ↔ CatGood l := by
    by_cases h : CatGood l
    · exact ⟨true, by simp [h]⟩
    · exact ⟨false, by simp [h]⟩
  refine ⟨q, hq, fun W v hm hr => (catGood_any v l W hr hn hp hm).mono ?_, fun W v hr => (refGoodC_any v l W hr hn hp).mono ?_⟩
  · rintro e w' ⟨⟨q2, rfl, h2⟩, hE⟩
    have : q2 = q := Bool.eq_iff_iff.2 (h2.out.trans ((catGood_iff l).trans hq.symm))
    exact ⟨by rw [this], hE⟩
  · rintro e w' ⟨⟨q2, rfl, h2⟩, hE⟩
    have : q2 = q := Bool.eq_iff_iff.2 (h2.out.trans hq.symm)
    exact ⟨by rw [this], hE⟩
def DecK (es : List Ent) (F : Int) (w : World) (e : Ending) (w' : World) : Prop := ∃ v, e = .returned (.tuple #[v, .int .i64 F]) ∧ RdS eCells 6 w' v es ∧ Ext0 w w'
theorem dec_both (xs : List Int) (hx : ∀ x ∈ xs, 0 ≤ x ∧ x ≤ 255) (hl : xs.length ≤ 1000000) : ∃ es F, es.length ≤ 12 ∧
    (∀ W v, Pth.ML W → RdS (encInt .u8) 1 W v xs → Calls Tryz.prog 13 #[v] W (DecK es F W)) ∧ (∀ W v, RdS (encInt .u8) 1 W v xs → Calls Tryz.prog 14 #[v] W (DecK es F W)) := by
  by_cases h : ∃ es, DecOk xs es
  · obtain ⟨es, h⟩ := h
    refine ⟨es, 0, by obtain ⟨_, _, _, _, _, _, hg, _⟩ := h; exact hg.1, fun W v hm hr => (decodeC_any v xs W hr hx hl hm).mono ?_, fun W v hr => (refDecodeC_any v xs W hr hx hl).mono ?_⟩ <;>
    · rintro e w' ⟨⟨fs, v2, h1, rfl, h2⟩ | ⟨hb, _⟩, hE⟩
      · exact ⟨v2, rfl, (h1.uniq h) ▸ h2, hE⟩
      · exact (hb _ h).elim
  · refine ⟨[], 12, by simp, fun W v hm hr => (decodeC_any v xs W hr hx hl hm).mono ?_, fun W v hr => (refDecodeC_any v xs W hr hx hl).mono ?_⟩ <;>
    · rintro e w' ⟨⟨fs, v2, h1, _⟩ | ⟨_, rfl⟩, hE⟩
      · exact (h ⟨fs, h1⟩).elim
      · exact ⟨_, rfl, RdS.nil _ _ _, hE⟩
theorem same_self {W : World} {v u : Value} {es : List Ent} (hn : es.length ≤ 100000) (h : RdS eCells 6 W v es) (h2 : RdS eCells 6 W u es) : Calls Tryz.prog 15 #[v, u] W fun e w' => e = .returned (.bool true) ∧ Ext0 W w' := by
  refine (sameC_any v u _ _ W h h2 hn hn).mono ?_
  rintro e w' ⟨⟨q, rfl, hq⟩, hE2⟩
  exact ⟨by rw [hq.2 rfl], hE2⟩
set_option maxRecDepth 100000 in
set_option maxHeartbeats 4000000 in
theorem encodes_walk (v : Value) (xs : List Ent) (w0 : World) (hr : RdS eCells 6 w0 v xs) (hok : ∀ x ∈ xs, EntOk x) (hm : Pth.ML w0) : Calls Tryz.prog 3 #[v] w0 fun e w' => e = .returned (.bool true) ∧ Ext0 w0 w' := by
  have hfew := fun {W : World} (h : Ext0 w0 W) => fewE_any v xs W (hr.keep h)
  have hl : (xs.take 40).length ≤ 40 := by rw [List.length_take]; omega
  have hp : PathOk (xs.take 40) := ok_path (fun x hx => hok x (List.mem_of_mem_take hx))
  generalize xs.take 40 = l at hfew hl hp
  obtain ⟨out, F, henc, hrenc⟩ := enc_both l (by omega) hp
  obtain ⟨q, _, hgood, hrgood⟩ := good_both l (by omega) hp
  have HM := Lib.hid hm
  clear hr hok hp hl hm
  have H : SH (fun _ => False) w0 w0 [] := SH.nil _ _
  go_enter Tryz.func3, Tryz.ntmps3
  go_wp2_with (first
    | (go_at_call 8; refine (hfew H.ext).mono ?_; rintro e w9 ⟨⟨vf, rfl, hf⟩, hw9⟩; replace hw9 := hw9.symm; subst hw9)
    | (go_at_call 7; refine (henc _ _ (HM.out.ext H.ext) hf).mono ?_; rintro e w1 ⟨v1, rfl, hv1, hE⟩; replace H := H.calls hE; clear hE hf)
    | (go_at_call 9; refine (hrenc _ _ hf).mono ?_; rintro e w2 ⟨v2, rfl, hv2, hE⟩; replace H := H.calls hE; replace hv1 := hv1.keep hE; clear hE hf)
    | (go_at_call 10; refine (awakeC_any _ (HM.out.ext H.ext)).mono ?_; rintro e w3 ⟨rfl, hE⟩; replace H := H.calls hE; have hcv1 := run_string (src := 23) (dst := 9) (hv1.keep hE) Tryz.underlying23 Tryz.underlying5 Tryz.underlying9; have hcv2 := run_string (src := 23) (dst := 9) (hv2.keep hE) Tryz.underlying23 Tryz.underlying5 Tryz.underlying9; clear hE hv1 hv2)
    | (go_at_call 11; refine (hgood _ _ (HM.out.ext H.ext) hf).mono ?_; rintro e w4 ⟨rfl, hE⟩; replace H := H.calls hE; clear hE hf)
    | (go_at_call 12; refine (hrgood _ _ hf).mono ?_; rintro e w5 ⟨rfl, hE⟩; replace H := H.calls hE; clear hE hf))
  go_ret
  exact ⟨by simp, H.ext⟩
set_option maxRecDepth 100000 in
set_option maxHeartbeats 4000000 in
theorem decodes_walk (v : Value) (xs : List Int) (w0 : World) (hr : RdS (encInt .u8) 1 w0 v xs) (hxb : ∀ x ∈ xs, 0 ≤ x ∧ x ≤ 255) (hm : Pth.ML w0) : Calls Tryz.prog 4 #[v] w0 fun e w' => e = .returned (.bool true) ∧ Ext0 w0 w' := by
  obtain ⟨A, cap, rfl, hcap⟩ := hr.len
  have H : SH (fun _ => False) w0 w0 [] := SH.nil _ _
  have HM := Lib.hid hm
  obtain ⟨n, hn⟩ : ∃ n, xs.length = n := ⟨_, rfl⟩
  rw [hn] at hr hcap ⊢
  have tail : ∀ (u : Value) (ys : List Int), RdS (encInt .u8) 1 w0 u ys → (∀ x ∈ ys, 0 ≤ x ∧ x ≤ 255) → ys.length ≤ 3000 →
      ∃ es F, es.length ≤ 12 ∧ (∀ W, Ext0 w0 W → Calls Tryz.prog 13 #[u] W (DecK es F W)) ∧ (∀ W, Ext0 w0 W → Calls Tryz.prog 14 #[u] W (DecK es F W)) := by
    intro u ys hu hyb hyl
    obtain ⟨es, F, h1, h2, h3⟩ := dec_both ys hyb (by omega)
    exact ⟨es, F, h1, fun W hE => h2 W u (HM.out.ext hE) (hu.keep hE), fun W hE => h3 W u (hu.keep hE)⟩
  clear hm
  by_cases h3 : 3000 < n
  · have h3i : (3000 : Int) < (n : Int) := by omega
    have h3c : (3000 : Int) ≤ (cap : Int) := by omega
    obtain ⟨bb, off, rfl, _⟩ := byte_cell hr (j := 0) (by omega)
    have hu := sub_rd hr 0 3000 (by omega) (by omega)
    rw [Nat.add_zero, Nat.sub_zero] at hu
    obtain ⟨es, F, hel, hd, hrd⟩ := tail _ _ hu (fun x hx => hxb x (List.mem_of_mem_drop (List.mem_of_mem_take hx))) (by simp; omega)
    clear tail hu hr hxb hn
    go_enter Tryz.func4, Tryz.ntmps4
    go_wp2_with (first | (go_at_call 13; refine (hd _ H.ext).mono ?_; rintro e w1 ⟨v1, rfl, hv1, hE⟩; replace H := H.calls hE; clear hE) | (go_at_call 14; refine (hrd _ H.ext).mono ?_; rintro e w2 ⟨v2, rfl, hv2, hE⟩; replace H := H.calls hE; replace hv1 := hv1.keep hE; clear hE) | (go_at_call 10; refine (awakeC_any _ (HM.out.ext H.ext)).mono ?_; rintro e w3 ⟨rfl, hE⟩; replace H := H.calls hE; replace hv1 := hv1.keep hE; replace hv2 := hv2.keep hE; clear hE) | (go_at_call 15; refine (same_self (by omega) hv1 hv2).mono ?_; rintro e w4 ⟨rfl, hE⟩; replace H := H.calls hE; clear hE))
    go_ret
    exact ⟨by simp, H.ext⟩
  · have h3i : ¬ (3000 : Int) < (n : Int) := by omega
    obtain ⟨es, F, hel, hd, hrd⟩ := tail _ _ hr hxb (by omega)
    clear tail hr hxb hn
    go_enter Tryz.func4, Tryz.ntmps4
    go_wp2_with (first | (go_at_call 13; refine (hd _ H.ext).mono ?_; rintro e w1 ⟨v1, rfl, hv1, hE⟩; replace H := H.calls hE; clear hE) | (go_at_call 14; refine (hrd _ H.ext).mono ?_; rintro e w2 ⟨v2, rfl, hv2, hE⟩; replace H := H.calls hE; replace hv1 := hv1.keep hE; clear hE) | (go_at_call 10; refine (awakeC_any _ (HM.out.ext H.ext)).mono ?_; rintro e w3 ⟨rfl, hE⟩; replace H := H.calls hE; replace hv1 := hv1.keep hE; replace hv2 := hv2.keep hE; clear hE) | (go_at_call 15; refine (same_self (by omega) hv1 hv2).mono ?_; rintro e w4 ⟨rfl, hE⟩; replace H := H.calls hE; clear hE))
    go_ret
    exact ⟨by simp, H.ext⟩
end Go.Proofs.YtmfcccflohpjiaaGreatDoor
