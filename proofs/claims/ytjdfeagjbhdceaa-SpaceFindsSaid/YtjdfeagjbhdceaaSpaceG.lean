/- Spans: the document's taken, Good, Free walked. -/
import Derived.Test.YtjdfeagjbhdceaaSpaceF
import Derived.Test.YtjdfeagjbhdceaaMake
namespace Go.Proofs.Ytjdfeagjbhdceaa
set_option linter.unusedVariables false
set_option linter.unusedSimpArgs false
open Go.RowKit Go.Shelf

def bools (f : Int → Bool) (n : Nat) : Array Value := ((List.range n).map fun (i : Nat) => Value.bool (f (i : Int))).toArray
theorem bools_size (f : Int → Bool) (n : Nat) : (bools f n).size = n := by simp [bools]
theorem bools_at (f : Int → Bool) (n i : Nat) (h : i < n) : (bools f n)[i]? = some (.bool (f i)) := by simp [bools, h]
theorem bools_set (f : Int → Bool) (n i : Nat) : (bools f n).setIfInBounds i (.bool true) = bools (fun k => f k || (k == (i : Int))) n := by
  apply Array.ext_getElem?
  intro j
  by_cases hj : j < n
  · rw [bools_at _ _ _ hj, Array.getElem?_setIfInBounds]
    by_cases hij : i = j
    · subst hij
      simp [bools_size, hj]
    · rw [if_neg hij, bools_at _ _ _ hj]
      have : ((j : Int) == (i : Int)) = false := by simp; omega
      rw [this, Bool.or_false]
  · rw [Array.getElem?_eq_none (by simp [bools_size]; omega), Array.getElem?_eq_none (by simp [bools_size]; omega)]
theorem bools_made (n : Nat) : madeCells #[.bool false] n = bools (fun _ => false) n := by
  apply Array.ext_getElem?
  intro j
  simp only [madeCells, bools]
  by_cases hj : j < n <;> simp [hj, Nat.mod_one]

theorem bools_congr {f g : Int → Bool} {n : Nat} (h : ∀ i : Int, 0 ≤ i → i < n → f i = g i) : bools f n = bools g n := by
  unfold bools
  congr 1
  apply List.map_congr_left
  intro i hi
  rw [h i (by omega) (by have := List.mem_range.1 hi; omega)]
theorem occ_snoc (l : List Sp) (s : Sp) (k : Int) : occ (l ++ [s]) k = (occ l k || (decide (s.at_ ≤ k) && decide (k < s.at_ + s.len))) := by simp [occ]
def TkRel (xs : List Sp) (t : Int) (n g : Nat) (w0 : World) (vi : Value) (wr : World) : Prop :=
  ∃ k : Nat, vi = .int .i64 (k : Int) ∧ k ≤ xs.length ∧ Hid (GoodS (xs.take k) t) ∧ SH (fun _ => False) w0 wr [pt g (.cells (bools (occ (xs.take k)) n) 4 (0, 0))]
/-- The inner loop. -/
def TiRel (oc : Int → Bool) (s : Sp) (n g p : Nat) (w0 : World) (vk : Value) (wr : World) : Prop :=
  ∃ j : Nat, vk = .int .i64 (j : Int) ∧ s.at_ ≤ (j : Int) ∧ (j : Int) ≤ s.at_ + s.len ∧ Hid (∀ i : Int, s.at_ ≤ i → i < (j : Int) → oc i = false) ∧
    SH (fun _ => False) w0 wr [pt p (.cells #[.int .i64 s.at_, .int .i64 s.len] 34 (0, 0)), pt g (.cells (bools (fun i => oc i || (decide (s.at_ ≤ i) && decide (i < (j : Int)))) n) 4 (0, 0))]
theorem info4 : (Try.prog.info? 4).map (fun i => (i.zero, i.size, i.bytes)) = some (some (.bool false), 1, 1) := by kernel_rfl

/-- What taken hands back. -/
def TakenAt (v : Value) (b : Bool) (xs : List Sp) (t : Int) (w' : World) : Prop :=
  b = goodB xs t ∧ ((b = false ∧ v = .slice none 0 0) ∨ (b = true ∧ ∃ g, v = .slice (some ⟨g, 0, none⟩) t.toNat t.toNat ∧ w'.heap[g]? = some (.cells (bools (occ xs) t.toNat) 4 (0, 0))))

def TakenE (xs : List Sp) (t : Int) (e : Ending) (w' : World) : Prop := ∃ v b, e = .returned (.tuple #[v, .bool b]) ∧ TakenAt v b xs t w'
set_option maxRecDepth 100000 in
set_option maxHeartbeats 8000000 in
theorem taken_any (sv : Value) (xs : List Sp) (t : Int) (w0 : World) (hlen : xs.length ≤ 1000) (hr : RdS Sp.cells 2 w0 sv xs) (ht0 : 0 ≤ t) (ht : t ≤ 4096) (hsm : Small xs) :
    Calls Try.prog 46 #[sv, .int .i64 t] w0 fun e w' => TakenE xs t e w' ∧ Ext0 w0 w' := by
  obtain ⟨i0, hi, hz0, hz1, hz2⟩ := info_parts info4
  have H : SH (fun _ => False) w0 w0 [] := SH.nil _ _
  obtain ⟨A, cap, rfl, hcap⟩ := hr.len
  obtain ⟨n, hn⟩ : ∃ n : Nat, t.toNat = n := ⟨_, rfl⟩
  obtain rfl : t = (n : Int) := by omega
  have HSM := Lib.hid hsm
  clear hsm hcap
  go_enter Try.func46, Try.ntmps46
  go_wp2_with (refine L_make (n := n) rfl rfl H Try.underlying61 hi hz0 rfl rfl (by rw [hz2]; omega) (by simp [maxLen]; omega) ?_; clear H; intro g w H; simp only [hz1, Nat.mul_one, Value.cells] at H; rw [bools_made] at H; (try simp only [Act.put, List.setIfInBounds_toArray, List.set_cons_succ, List.set_cons_zero, List.getElem_toArray, List.getElem_cons_succ, List.getElem_cons_zero]))
  go_loopw [7, 8, 9] (fun vi _ _ wr => TkRel xs n n g w0 vi wr) (fun vi _ _ _ => xs.length - (intOf vi).toNat)
  case atStart => exact ⟨0, rfl, Nat.zero_le _, Lib.hid ⟨by simp, List.Pairwise.nil⟩, H⟩
  case round =>
    clear H
    obtain ⟨k, rfl, hk, HG, H⟩ := hrel
    by_cases hkn : k < xs.length
    · have hki : (k : Int) < (xs.length : Int) := by omega
      obtain ⟨b, off, cs, T, fr, rfl, hb, hcs⟩ := hr.cell hkn
      have htk : xs.take (k + 1) = xs.take k ++ [xs[k]] := by rw [List.take_add_one, List.getElem?_eq_getElem hkn]; rfl
      obtain ⟨m1, m2, m3, m4⟩ := HSM.out xs[k] (List.getElem_mem hkn)
      have hmem : xs[k] ∈ xs := List.getElem_mem hkn
      generalize xs[k] = s at hcs htk m1 m2 m3 m4 hmem
      have hcs2 : ∀ j, j < 2 → cs[off + k * 2 + j]? = [Value.int .i64 s.at_, .int .i64 s.len][j]? := hcs
      have HS := Lib.hid (And.intro htk hmem)
      clear hcs htk hmem
      by_cases hc : s.len < 1 ∨ s.at_ < 0 ∨ (n : Int) ≤ s.at_ ∨ (n : Int) - s.at_ < s.len
      · have HB : Hid (goodB xs n = false) := Lib.hid (by
          rw [goodB, decide_eq_false_iff_not]
          intro hg
          have := hg.1 s HS.out.2
          omega)
        by_cases h1 : s.len < 1
        · clear hc
          go_wp2_with (refine L_loadmidr (ty := 34) (b := b) (off := off + k * 2) rfl rfl H rfl hb (fun e => e) Try.underlying34 rfl info34 [.int .i64 s.at_, .int .i64 s.len] rfl hcs2 ?_; (try simp only [Act.put, List.setIfInBounds_toArray, List.set_cons_succ, List.set_cons_zero, List.getElem_toArray, List.getElem_cons_succ, List.getElem_cons_zero]))
          go_ret2
          exact ⟨⟨.slice none 0 0, false, rfl, HB.out.symm, .inl ⟨rfl, rfl⟩⟩, (H.alloc _).ext⟩
        · by_cases h2 : s.at_ < 0
          · clear hc
            go_wp2_with (refine L_loadmidr (ty := 34) (b := b) (off := off + k * 2) rfl rfl H rfl hb (fun e => e) Try.underlying34 rfl info34 [.int .i64 s.at_, .int .i64 s.len] rfl hcs2 ?_; (try simp only [Act.put, List.setIfInBounds_toArray, List.set_cons_succ, List.set_cons_zero, List.getElem_toArray, List.getElem_cons_succ, List.getElem_cons_zero]))
            go_ret2
            exact ⟨⟨.slice none 0 0, false, rfl, HB.out.symm, .inl ⟨rfl, rfl⟩⟩, (H.alloc _).ext⟩
          · by_cases h3 : (n : Int) ≤ s.at_
            · clear hc
              go_wp2_with (refine L_loadmidr (ty := 34) (b := b) (off := off + k * 2) rfl rfl H rfl hb (fun e => e) Try.underlying34 rfl info34 [.int .i64 s.at_, .int .i64 s.len] rfl hcs2 ?_; (try simp only [Act.put, List.setIfInBounds_toArray, List.set_cons_succ, List.set_cons_zero, List.getElem_toArray, List.getElem_cons_succ, List.getElem_cons_zero]))
              go_ret2
              exact ⟨⟨.slice none 0 0, false, rfl, HB.out.symm, .inl ⟨rfl, rfl⟩⟩, (H.alloc _).ext⟩
            · have h4 : (n : Int) - s.at_ < s.len := by omega
              clear hc
              go_wp2_with (refine L_loadmidr (ty := 34) (b := b) (off := off + k * 2) rfl rfl H rfl hb (fun e => e) Try.underlying34 rfl info34 [.int .i64 s.at_, .int .i64 s.len] rfl hcs2 ?_; (try simp only [Act.put, List.setIfInBounds_toArray, List.set_cons_succ, List.set_cons_zero, List.getElem_toArray, List.getElem_cons_succ, List.getElem_cons_zero]))
              go_ret2
              exact ⟨⟨.slice none 0 0, false, rfl, HB.out.symm, .inl ⟨rfl, rfl⟩⟩, (H.alloc _).ext⟩
      · have h1 : ¬ s.len < 1 := by omega
        have h2 : ¬ s.at_ < 0 := by omega
        have h3 : ¬ (n : Int) ≤ s.at_ := by omega
        have h4 : ¬ (n : Int) - s.at_ < s.len := by omega
        clear hc
        go_wp2_with (refine L_loadmidr (ty := 34) (b := b) (off := off + k * 2) rfl rfl H rfl hb (fun e => e) Try.underlying34 rfl info34 [.int .i64 s.at_, .int .i64 s.len] rfl hcs2 ?_; (try simp only [Act.put, List.setIfInBounds_toArray, List.set_cons_succ, List.set_cons_zero, List.getElem_toArray, List.getElem_cons_succ, List.getElem_cons_zero]))
        replace H := H.alloc (.cells #[.int .i64 s.at_, .int .i64 s.len] 34)
        generalize wr.heap.size = p at H ⊢
        generalize wr.alloc (.cells #[.int .i64 s.at_, .int .i64 s.len] 34) = wa at H ⊢
        obtain ⟨oc, hoc⟩ : ∃ oc, occ (xs.take k) = oc := ⟨_, rfl⟩
        rw [hoc] at H
        have HO := Lib.hid hoc
        clear hoc
        go_loopw [9] (fun vk wr2 => TiRel oc s n g p w0 vk wr2) (fun vk _ => (s.at_ + s.len - intOf vk).toNat)
        case atStart =>
          refine ⟨s.at_.toNat, by congr 1; omega, by omega, by omega, Lib.hid (fun i a b => by omega), ?_⟩
          rw [bools_congr (g := oc) (fun i _ _ => by rw [show (decide (s.at_ ≤ i) && decide (i < ((s.at_.toNat : Nat) : Int))) = false by simp; omega, Bool.or_false])]
          exact H
        case round =>
          clear H
          obtain ⟨j, rfl, hj1, hj2, HF, H⟩ := hrel
          have hb0 := H.at_ 0 rfl
          have hb1 := H.at_ 1 rfl
          have hc0 := cell_of_row _ p 0 _ _ _ hb0
          have hc1 := cell_of_row _ p 1 _ _ _ hb0
          by_cases hjn : (j : Int) < s.at_ + s.len
          · have hjn' : j < n := by omega
            have hcg := cell_of_row _ g j _ _ _ hb1
            rw [bools_at _ _ _ hjn', show (decide (s.at_ ≤ (j : Int)) && decide ((j : Int) < (j : Int))) = false by simp, Bool.or_false] at hcg
            have hfg := frozen_of_row _ g j _ _ hb1
            have hjk : (j : Int) < (n : Int) := by omega
            clear hb0 hb1
            cases hq : oc j
            · rw [hq] at hcg
              have HQ := Lib.hid hq
              clear hq
              go_wp2
              replace H := H.setCell (off := j) 1 (.bool true) rfl
              simp only [List.set_cons_succ, List.set_cons_zero, bools_set] at H
              go_roundw
              case rel =>
                refine ⟨j + 1, by go_num, by omega, by omega, Lib.hid (fun i a b => ?_), ?_⟩
                · by_cases hij : i = (j : Int)
                  · rw [hij]; exact HQ.out
                  · exact HF.out i a (by omega)
                · rw [bools_congr (g := fun i => oc i || (decide (s.at_ ≤ i) && decide (i < (j : Int))) || (i == (j : Int))) (fun i _ _ => ?_)]
                  · exact H
                  · by_cases hij : i = (j : Int)
                    · subst hij
                      simp [hj1]
                      exact .inr (by omega)
                    · rw [show (i == (j : Int)) = false by simpa using hij, Bool.or_false]
                      congr 2
                      simp only [decide_eq_decide]
                      omega
              case measure => simp [intOf]; omega
            · rw [hq] at hcg
              have HB : Hid (goodB xs n = false) := Lib.hid (by
                rw [goodB, decide_eq_false_iff_not]
                intro hg
                rw [← HO.out] at hq
                simp only [occ, List.any_eq_true, Bool.and_eq_true, decide_eq_true_eq] at hq
                obtain ⟨a, ha, ha1, ha2⟩ := hq
                have hsub := hg.2.sublist (List.take_sublist (k + 1) xs)
                rw [HS.out.1] at hsub
                have := (List.pairwise_append.1 hsub).2.2 a ha s (List.mem_singleton.2 rfl)
                omega)
              clear hq
              go_wp2
              go_ret2
              exact ⟨⟨.slice none 0 0, false, rfl, HB.out.symm, .inl ⟨rfl, rfl⟩⟩, H.ext⟩
          · clear hb0 hb1
            have hje : (j : Int) = s.at_ + s.len := by omega
            have HJ := Lib.hid hje
            clear hje
            go_wp2
            go_roundw
            case rel =>
              refine ⟨k + 1, by go_num, hkn, Lib.hid ?_, ?_⟩
              · rw [HS.out.1]
                refine ⟨fun x hx => ?_, List.pairwise_append.2 ⟨HG.out.2, List.pairwise_singleton _ _, fun a ha b' hb' => ?_⟩⟩
                · rcases List.mem_append.1 hx with hx | hx
                  · exact HG.out.1 x hx
                  · rw [List.mem_singleton.1 hx]; omega
                · rw [List.mem_singleton.1 hb']
                  refine Decidable.byContradiction fun hn => ?_
                  have ha1 := HG.out.1 a ha
                  have hx := HF.out (max a.at_ s.at_) (by omega) (by rw [HJ.out]; omega)
                  rw [← HO.out, Bool.eq_false_iff] at hx
                  refine hx ?_
                  simp only [occ, List.any_eq_true, Bool.and_eq_true, decide_eq_true_eq]
                  exact ⟨a, ha, by omega, by omega⟩
              · have H2 := H.drop (List.sublist_cons_self _ _)
                rw [HS.out.1]
                rw [bools_congr (g := fun i => oc i || (decide (s.at_ ≤ i) && decide (i < (j : Int)))) (fun i _ _ => by rw [occ_snoc, HO.out, HJ.out])]
                exact H2
            case measure => simp [intOf]; omega
    · obtain rfl : k = xs.length := by omega
      go_wp2
      go_ret2
      rw [List.take_length] at HG H
      exact ⟨⟨.slice (some ⟨g, 0, none⟩) n n, true, rfl, (show true = goodB xs n from (decide_eq_true HG.out).symm), .inr ⟨rfl, g, by simp, by simpa using H.at_ 0 rfl⟩⟩, H.ext⟩
end Go.Proofs.Ytjdfeagjbhdceaa
