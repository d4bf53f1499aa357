/- What was put down is taken up: Text, End, New; bytes.Equal. -/
import Derived.Test.YtmfcccflohpjiaaGreatDoorCatF
namespace Go.Proofs.YtmfcccflohpjiaaGreatDoor
set_option linter.unusedVariables false
set_option linter.unusedSimpArgs false
open Go.RowKit

theorem lose_any {r : Nat} {rd : Rd} {w : World} (h : (RdrA r rd).says w) : Ext (fun i => i = r) w (w.setCell ⟨r, 1, none⟩ (.bool true)) ∧ (RdrA r none).says (w.setCell ⟨r, 1, none⟩ (.bool true)) := by
  obtain ⟨l, q, _, hb, hl, hw⟩ := h
  have H : SH (fun i => i = r) w w [pt r (.cells (rdC l q) 76 (0, 0))] :=
    ⟨Ext.refl _ _, fun X hX => by rw [List.mem_singleton.1 hX]; exact hw, fun X hX i hi => by rw [List.mem_singleton.1 hX] at hi; cases hi; exact blk_lt' hw, fun X hX i hi => by rw [List.mem_singleton.1 hX] at hi; exact .inl hi, List.pairwise_singleton _ _⟩
  have H5 := H.setCell (off := 1) 0 (.bool true) rfl
  exact ⟨H5.ext, l, true, rfl, hb, hl, H5.get 0 rfl⟩
theorem lost_cell {r : Nat} {rd : Rd} {w : World} (h : (RdrA r rd).says w) : ∃ u, w.cell? ⟨r, 1, none⟩ = some u ∧ w.frozen? ⟨r, 1, none⟩ = false := by
  obtain ⟨l, q, _, _, _, hw⟩ := h
  exact ⟨.bool q, cell_of_row w r 1 _ _ _ hw, frozen_of_row w r 1 _ _ hw⟩
set_option maxRecDepth 100000 in
set_option maxHeartbeats 1000000 in
theorem rdText_any {r : Nat} {rd : Rd} {w : World} (h : (RdrA r rd).says w) (most : Nat) (hm : most ≤ 1000) :
    Calls Tryz.prog 37 #[.pointer (some ⟨r, 0, none⟩), .int .i64 (most : Int)] w fun e w' => e = .returned (.string (strOfNums (rdW most rd).1)) ∧ Ext (fun i => i = r) w w' ∧ (RdrA r (rdW most rd).2).says w' := by
  have hn := next_any h 2 (by omega)
  by_cases hA : ∃ a b l2, rd = some (a :: b :: l2)
  · obtain ⟨a, b, l2, rfl⟩ := hA
    have hbb := RdrA.bytes h _ rfl
    have ha := hbb.1 a (by simp)
    have hb := hbb.1 b (by simp)
    have hv := fun {W : World} => value_any [a, b] (by simp) (by intro x hx; simp at hx; rcases hx with rfl | rfl <;> assumption) W
    have hnum : num8 [a, b] = a * 256 + b := by
      show IntKind.i64.wrap ((0 * 256 + a) * 256 + b) = _
      rw [IntKind.wrap_i64]; omega
    rw [hnum] at hv
    have h1 : nxS (some (a :: b :: l2)) 2 = [a, b] := by simp [nxS]
    have h2 : nxB (some (a :: b :: l2)) 2 = true := by simp [nxB]
    have h3 : nx (some (a :: b :: l2)) 2 = some l2 := by simp [nx]
    have hw : rdW (most : Int) (some (a :: b :: l2)) = if a * 256 + b > most ∨ (l2.length : Int) < a * 256 + b then ([], none) else (l2.take (a * 256 + b).toNat, some (l2.drop (a * 256 + b).toNat)) := by
      simp only [rdW]
      rw [if_neg (by simp)]
      simp
    rw [h1, h2, h3] at hn
    rw [hw]
    obtain ⟨v, hvn⟩ : ∃ v : Nat, a * 256 + b = (v : Int) := ⟨(a * 256 + b).toNat, by omega⟩
    rw [hvn] at hv ⊢
    rw [Int.toNat_natCast]
    generalize strOfNums [a, b] = s at hn hv
    clear h1 h2 h3 hw hnum h hbb
    by_cases hB : (v : Int) > most
    · rw [if_pos (.inl hB), show strOfNums [] = ⟨#[]⟩ from rfl]
      clear hvn ha hb
      go_enter Tryz.func37, Tryz.ntmps37
      go_wp2_with (first
        | (go_at_call 56; refine hn.mono ?_; rintro e w2 ⟨rfl, h1, h2⟩; obtain ⟨fu, hc1, hf1⟩ := lost_cell h2; have HH := Lib.hid (And.intro h1 h2); clear h1 h2)
        | (go_at_call 57; refine hv.mono ?_; rintro e w3 ⟨rfl, rfl⟩))
      go_ret
      have h9 := lose_any HH.out.2
      exact ⟨rfl, HH.out.1.trans' h9.1, h9.2⟩
    · have hn2 := fun {W : World} (h : (RdrA r (some l2)).says W) => next_any h v (by omega)
      have hres : (if (v : Int) > most ∨ (l2.length : Int) < v then (([] : List Int), (none : Rd)) else (l2.take v, some (l2.drop v))) = (nxS (some l2) v, nx (some l2) v) := by
        simp only [nxS, nx]
        by_cases hC : l2.length < v
        · rw [if_pos (.inr (by omega)), if_pos hC, if_pos hC]
        · rw [if_neg (by omega), if_neg hC, if_neg hC]
      rw [hres]
      dsimp only
      generalize strOfNums (nxS (some l2) v) = s2 at hn2 ⊢
      generalize nxB (some l2) v = q2 at hn2
      generalize nx (some l2) v = rd2 at hn2 ⊢
      clear hres hvn ha hb
      go_enter Tryz.func37, Tryz.ntmps37
      go_wp2_with (first
        | (go_at_call_of 56 (Value.int IntKind.i64 2); refine hn.mono ?_; rintro e w2 ⟨rfl, h1, h2⟩)
        | (go_at_call 57; refine hv.mono ?_; rintro e w3 ⟨rfl, rfl⟩)
        | (go_at_call 56; refine (hn2 h2).mono ?_; rintro e w4 ⟨rfl, h3, h4⟩))
      go_ret
      exact ⟨rfl, h1.trans' h3, h4⟩
  · have h1 : nxB rd 2 = false ∧ nxS rd 2 = [] ∧ nx rd 2 = none ∧ rdW most rd = ([], none) := by
      cases rd with
      | none => exact ⟨rfl, rfl, rfl, rfl⟩
      | some l =>
        have : l.length < 2 := by
          match l, hA with
          | [], _ => simp
          | [x], _ => simp
          | a :: b :: l2, hA => exact absurd ⟨a, b, l2, rfl⟩ hA
        simp [nxB, nxS, nx, rdW, this]
    rw [h1.1, h1.2.1, h1.2.2.1] at hn
    rw [h1.2.2.2]
    rw [show strOfNums [] = ⟨#[]⟩ from rfl] at hn ⊢
    clear h1 h hA
    go_enter Tryz.func37, Tryz.ntmps37
    go_wp2_with (first
      | (go_at_call 56; refine hn.mono ?_; rintro e w2 ⟨rfl, h1, h2⟩))
    go_ret
    exact ⟨rfl, h1, h2⟩
theorem strOfNums_nil : strOfNums [] = ⟨#[]⟩ := rfl
theorem rdEnd_any {r : Nat} {rd : Rd} {w : World} (h : (RdrA r rd).says w) :
    Calls Tryz.prog 38 #[.pointer (some ⟨r, 0, none⟩)] w fun e w' => e = .returned (.bool (decide (rd = some []))) ∧ w' = w := by
  obtain ⟨l, q, rfl, hb, hl, hw⟩ := h
  have hc0 : w.cell? ⟨r, 0, none⟩ = some (.string (strOfNums l)) := cell_of_row w r 0 _ _ _ hw
  have hc1 : w.cell? ⟨r, 1, none⟩ = some (.bool q) := cell_of_row w r 1 _ _ _ hw
  have hsz := strOfNums_size l
  cases q
  · by_cases he : l = []
    · subst he
      have hd : decide (absR [] false = some []) = true := rfl
      rw [hd]
      rw [strOfNums_nil] at hc0
      clear hw hd
      go_enter Tryz.func38, Tryz.ntmps38
      go_wp2
      go_ret
      exact ⟨rfl, rfl⟩
    · have hd : decide (absR l false = some []) = false := by simp [absR, he]
      rw [hd]
      have hne : ((strOfNums l).toList == []) = false := by
        have : (strOfNums l).toList ≠ [] := fun h0 => he (by
          have h1 := ByteArray.toList_eq (strOfNums l)
          rw [h0] at h1
          simpa [strOfNums] using h1.symm)
        simpa using this
      generalize strOfNums l = s at *
      clear hw hd
      go_enter Tryz.func38, Tryz.ntmps38
      go_wp2
      go_ret
      exact ⟨rfl, rfl⟩
  · have hd : decide (absR l true = some []) = false := by simp [absR]
    rw [hd]
    generalize strOfNums l = s at *
    clear hw hd
    go_enter Tryz.func38, Tryz.ntmps38
    go_wp2
    go_ret
    exact ⟨rfl, rfl⟩
theorem str_inj {a b : List Int} (ha : ∀ x ∈ a, 0 ≤ x ∧ x ≤ 255) (hb : ∀ x ∈ b, 0 ≤ x ∧ x ≤ 255) (h : (strOfNums a).toList = (strOfNums b).toList) : a = b := by
  rw [ByteArray.toList_eq, ByteArray.toList_eq] at h
  have h1 : a.map (fun n => UInt8.ofNat n.toNat) = b.map (fun n => UInt8.ofNat n.toNat) := by simpa [strOfNums] using h
  apply List.ext_getElem
  · simpa using congrArg List.length h1
  · intro i hi hj
    have h2 : (a.map (fun n => UInt8.ofNat n.toNat))[i]'(by simpa using hi) = (b.map (fun n => UInt8.ofNat n.toNat))[i]'(by simpa using hj) := by simp only [h1]
    simp only [List.getElem_map] at h2
    have h3 := ha a[i] (List.getElem_mem hi)
    have h4 := hb b[i] (List.getElem_mem hj)
    have h5 := congrArg UInt8.toNat h2
    simp only [UInt8.toNat_ofNat'] at h5
    omega
theorem bytesEqual_any (v u : Value) (a b : List Int) (w : World) (hv : RdS (encInt .u8) 1 w v a) (hu : RdS (encInt .u8) 1 w u b) (ha : ∀ x ∈ a, 0 ≤ x ∧ x ≤ 255) (hb : ∀ x ∈ b, 0 ≤ x ∧ x ≤ 255) :
    Calls Tryz.prog 39 #[v, u] w fun e w' => e = .returned (.bool (decide (a = b))) ∧ w' = w := by
  have h1 := run_string (src := 23) (dst := 9) hv Tryz.underlying23 Tryz.underlying5 Tryz.underlying9
  have h2 := run_string (src := 23) (dst := 9) hu Tryz.underlying23 Tryz.underlying5 Tryz.underlying9
  have hd : ((strOfNums a).toList == (strOfNums b).toList) = decide (a = b) := by
    by_cases he : a = b
    · subst he; simp
    · have : (strOfNums a).toList ≠ (strOfNums b).toList := fun h => he (str_inj ha hb h)
      simp [he, this]
  rw [← hd]
  generalize strOfNums a = s1 at *
  generalize strOfNums b = s2 at *
  clear hd hv hu ha hb
  go_enter Tryz.func39, Tryz.ntmps39
  go_wp2
  go_ret
  exact ⟨rfl, rfl⟩
def GivesRdr (w : World) (a : List Int) (e : Ending) (w' : World) : Prop := ∃ r, e = .returned (.pointer (some ⟨r, 0, none⟩)) ∧ SH (fun _ => False) w w' [RdrA r (some a)]
theorem rdNew_any (v : Value) (a : List Int) (w : World) (hv : RdS (encInt .u8) 1 w v a) (ha : ∀ x ∈ a, 0 ≤ x ∧ x ≤ 255) (hl : a.length ≤ 1000000000) :
    Calls Tryz.prog 35 #[v] w (GivesRdr w a) := by
  have h1 := run_string (src := 23) (dst := 9) hv Tryz.underlying23 Tryz.underlying5 Tryz.underlying9
  have H : SH (fun _ => False) w w [] := SH.nil _ _
  obtain ⟨s, hs⟩ : ∃ s, strOfNums a = s := ⟨_, rfl⟩
  rw [hs] at h1
  have HS := Lib.hid hs
  clear hs hv
  go_enter Tryz.func35, Tryz.ntmps35
  go_wp2_with (first | (refine L_box rfl rfl H rfl rfl ?_; clear H; intro g w H; (try simp only [Act.eval, Array.getD_eq_getD_getElem?, List.getElem?_toArray, List.getElem?_cons_succ, List.getElem?_cons_zero, Option.getD_some, Value.cells] at H); (try simp only [Act.put, List.setIfInBounds_toArray, List.set_cons_succ, List.set_cons_zero, List.getElem_toArray, List.getElem_cons_succ, List.getElem_cons_zero])))
  rename World => w1
  have hb := H.at_ 0 rfl
  have H2 := H.upd 0 rfl (A' := RdrA g (some a)) (Ext.refl _ _) ⟨a, false, rfl, ha, hl, by unfold rdC; rw [HS.out]; exact hb⟩ (fun i hi => ⟨.inl hi, by cases hi; exact blk_lt' hb⟩)
  simp only [List.set_cons_zero] at H2
  go_ret
  exact ⟨g, rfl, H2⟩
end Go.Proofs.YtmfcccflohpjiaaGreatDoor
