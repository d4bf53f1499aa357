/- What chapter 17 proves of the document's taken, Good, Same, for chapter 20. (Printed by gentabw.py.) -/
import Derived.Test.YtoaieodcdbbndaaSpaceD
import Derived.Test.YtoaieodcdbbndaaMake
import Derived.Laws.OwnMore
namespace Go.Proofs.Ytoaieodcdbbndaa
set_option linter.unusedVariables false
set_option linter.unusedSimpArgs false
open Go.RowKit
theorem oneSpan {w : World} {g : Nat} {T : TypeId} {fr : Nat × Nat} {s : Sp} (hg : w.heap[g]? = some (.cells #[.int .i64 s.at_, .int .i64 s.len] T fr)) : RdS Sp.cells 2 w (.slice (some ⟨g, 0, none⟩) 1 1) [s] :=
  ⟨_, 1, rfl, Nat.le_refl _, .inr ⟨g, 0, _, T, fr, rfl, hg, fun j hj i hi => by
    obtain rfl : j = 0 := by simp at hj; omega
    match i, hi with
    | 0, _ => rfl
    | 1, _ => rfl⟩⟩

/-- A load of an element of a slice of spans. -/
theorem L_loadSp {P : Program} {ops : Array Oper} {Q : Exit → Act → World → Prop} {a : Act} {w : World} {rest : List Oper} {o : Oper} (hgd : o.guard = none) {ty : TypeId} {x : Operand} (ho : o.op = .load ty x) {b off n cap : Nat} {xs : List Sp} (hr : RdS Sp.cells 2 w (.slice (some ⟨b, off, none⟩) n cap) xs) {j : Nat} (hj : j < xs.length)
    (hx : a.eval x = .pointer (some ⟨b, off + j * 2, none⟩)) {s : Sp} (hs : xs[j] = s) {d : TypeDesc} (hu : P.underlying ty = some d) (hd : d.isRow = true) (hi : (P.info? ty).map (·.size) = some 2) (k : wpList P ops Q rest (a.put o.dst (.agg #[.int .i64 s.at_, .int .i64 s.len])) w) : wpList P ops Q (o :: rest) a w := by
  obtain ⟨b', off', cs, T, fr, he, hb, hcs⟩ := hr.cell hj
  cases he
  rw [hs] at hcs
  refine wpList_load_mid hgd ty x ho b (off + j * 2) hx s.cells d (fun i u hu' => ?_) hu hd hi k
  rw [cell_of_row w b _ cs T fr hb, hcs i (by have := (List.getElem?_eq_some_iff.1 hu').1; rw [Sp.clen] at this; exact this)]
  exact hu'



def bools (f : Int → Bool) (n : Nat) : Array Value := ((List.range n).map fun (i : Nat) => Value.bool (f (i : Int))).toArray
theorem bools_size (f : Int → Bool) (n : Nat) : (bools f n).size = n := by simp [bools]
theorem bools_at (f : Int → Bool) (n i : Nat) (h : i < n) : (bools f n)[i]? = some (.bool (f i)) := by simp [bools, h]
theorem bools_set (f : Int → Bool) (n i : Nat) : (bools f n).setIfInBounds i (.bool true) = bools (fun k => f k || (k == (i : Int))) n := by
  apply Array.ext_getElem?
  intro j
  by_cases hj : j < n
  · rw [bools_at _ _ _ hj, Array.getElem?_setIfInBounds]
    by_cases hij : i = j
    · subst hij
      simp [bools_size, hj]
    · rw [if_neg hij, bools_at _ _ _ hj]
      have : ((j : Int) == (i : Int)) = false := by simp; omega
      rw [this, Bool.or_false]
  · rw [Array.getElem?_eq_none (by simp [bools_size]; omega), Array.getElem?_eq_none (by simp [bools_size]; omega)]
theorem bools_made (n : Nat) : madeCells #[.bool false] n = bools (fun _ => false) n := by
  apply Array.ext_getElem?
  intro j
  simp only [madeCells, bools]
  by_cases hj : j < n <;> simp [hj, Nat.mod_one]

theorem bools_congr {f g : Int → Bool} {n : Nat} (h : ∀ i : Int, 0 ≤ i → i < n → f i = g i) : bools f n = bools g n := by
  unfold bools
  congr 1
  apply List.map_congr_left
  intro i hi
  rw [h i (by omega) (by have := List.mem_range.1 hi; omega)]
theorem occ_snoc (l : List Sp) (s : Sp) (k : Int) : occ (l ++ [s]) k = (occ l k || (decide (s.at_ ≤ k) && decide (k < s.at_ + s.len))) := by simp [occ]
def TkRel (xs : List Sp) (t : Int) (n g : Nat) (w0 : World) (vi : Value) (wr : World) : Prop :=
  ∃ k : Nat, vi = .int .i64 (k : Int) ∧ k ≤ xs.length ∧ Hid (GoodS (xs.take k) t) ∧ SH (fun _ => False) w0 wr [pt g (.cells (bools (occ (xs.take k)) n) 4 (0, 0))]
/-- The inner loop. -/
def TiRel (oc : Int → Bool) (s : Sp) (n g p : Nat) (w0 : World) (vk : Value) (wr : World) : Prop :=
  ∃ j : Nat, vk = .int .i64 (j : Int) ∧ s.at_ ≤ (j : Int) ∧ (j : Int) ≤ s.at_ + s.len ∧ Hid (∀ i : Int, s.at_ ≤ i → i < (j : Int) → oc i = false) ∧
    SH (fun _ => False) w0 wr [pt p (.cells #[.int .i64 s.at_, .int .i64 s.len] 57 (0, 0)), pt g (.cells (bools (fun i => oc i || (decide (s.at_ ≤ i) && decide (i < (j : Int)))) n) 4 (0, 0))]
theorem info4 : (Try.prog.info? 4).map (fun i => (i.zero, i.size, i.bytes)) = some (some (.bool false), 1, 1) := by kernel_rfl

/-- What taken hands back. -/
def TakenAt (v : Value) (b : Bool) (xs : List Sp) (t : Int) (w' : World) : Prop :=
  b = goodB xs t ∧ ((b = false ∧ v = .slice none 0 0) ∨ (b = true ∧ ∃ g, v = .slice (some ⟨g, 0, none⟩) t.toNat t.toNat ∧ w'.heap[g]? = some (.cells (bools (occ xs) t.toNat) 4 (0, 0))))

def TakenE (xs : List Sp) (t : Int) (e : Ending) (w' : World) : Prop := ∃ v b, e = .returned (.tuple #[v, .bool b]) ∧ TakenAt v b xs t w'
set_option maxRecDepth 100000 in
set_option maxHeartbeats 8000000 in
theorem taken_any (sv : Value) (xs : List Sp) (t : Int) (w0 : World) (hlen : xs.length ≤ 1000) (hr : RdS Sp.cells 2 w0 sv xs) (ht0 : 0 ≤ t) (ht : t ≤ 4096) (hsm : Small xs) :
    Calls Try.prog 58 #[sv, .int .i64 t] w0 fun e w' => TakenE xs t e w' ∧ Ext0 w0 w' := by
  obtain ⟨i0, hi, hz0, hz1, hz2⟩ := info_parts info4
  have H : SH (fun _ => False) w0 w0 [] := SH.nil _ _
  obtain ⟨A, cap, rfl, hcap⟩ := hr.len
  obtain ⟨n, hn⟩ : ∃ n : Nat, t.toNat = n := ⟨_, rfl⟩
  obtain rfl : t = (n : Int) := by omega
  have HSM := Lib.hid hsm
  clear hsm hcap
  go_enter Try.func58, Try.ntmps58
  go_wp2_with (refine L_make (n := n) rfl rfl H Try.underlying79 hi hz0 rfl rfl (by rw [hz2]; omega) (by simp [maxLen]; omega) ?_; clear H; intro g w H; simp only [hz1, Nat.mul_one, Value.cells] at H; rw [bools_made] at H; (try simp only [Act.put, List.setIfInBounds_toArray, List.set_cons_succ, List.set_cons_zero, List.getElem_toArray, List.getElem_cons_succ, List.getElem_cons_zero]))
  go_loopw [7, 8, 9] (fun vi _ _ wr => TkRel xs n n g w0 vi wr) (fun vi _ _ _ => xs.length - (intOf vi).toNat)
  case atStart => exact ⟨0, rfl, Nat.zero_le _, Lib.hid ⟨by simp, List.Pairwise.nil⟩, H⟩
  case round =>
    clear H
    obtain ⟨k, rfl, hk, HG, H⟩ := hrel
    by_cases hkn : k < xs.length
    · have hki : (k : Int) < (xs.length : Int) := by omega
      obtain ⟨b, off, cs, T, fr, rfl, hb, hcs⟩ := hr.cell hkn
      have htk : xs.take (k + 1) = xs.take k ++ [xs[k]] := by rw [List.take_add_one, List.getElem?_eq_getElem hkn]; rfl
      obtain ⟨m1, m2, m3, m4⟩ := HSM.out xs[k] (List.getElem_mem hkn)
      have hmem : xs[k] ∈ xs := List.getElem_mem hkn
      generalize xs[k] = s at hcs htk m1 m2 m3 m4 hmem
      have hcs2 : ∀ j, j < 2 → cs[off + k * 2 + j]? = [Value.int .i64 s.at_, .int .i64 s.len][j]? := hcs
      have HS := Lib.hid (And.intro htk hmem)
      clear hcs htk hmem
      by_cases hc : s.len < 1 ∨ s.at_ < 0 ∨ (n : Int) ≤ s.at_ ∨ (n : Int) - s.at_ < s.len
      · have HB : Hid (goodB xs n = false) := Lib.hid (by
          rw [goodB, decide_eq_false_iff_not]
          intro hg
          have := hg.1 s HS.out.2
          omega)
        by_cases h1 : s.len < 1
        · clear hc
          go_wp2_with (refine L_loadmidr (ty := 57) (b := b) (off := off + k * 2) rfl rfl H rfl hb (fun e => e) Try.underlying57 rfl info57 [.int .i64 s.at_, .int .i64 s.len] rfl hcs2 ?_; (try simp only [Act.put, List.setIfInBounds_toArray, List.set_cons_succ, List.set_cons_zero, List.getElem_toArray, List.getElem_cons_succ, List.getElem_cons_zero]))
          go_ret2
          exact ⟨⟨.slice none 0 0, false, rfl, HB.out.symm, .inl ⟨rfl, rfl⟩⟩, (H.alloc _).ext⟩
        · by_cases h2 : s.at_ < 0
          · clear hc
            go_wp2_with (refine L_loadmidr (ty := 57) (b := b) (off := off + k * 2) rfl rfl H rfl hb (fun e => e) Try.underlying57 rfl info57 [.int .i64 s.at_, .int .i64 s.len] rfl hcs2 ?_; (try simp only [Act.put, List.setIfInBounds_toArray, List.set_cons_succ, List.set_cons_zero, List.getElem_toArray, List.getElem_cons_succ, List.getElem_cons_zero]))
            go_ret2
            exact ⟨⟨.slice none 0 0, false, rfl, HB.out.symm, .inl ⟨rfl, rfl⟩⟩, (H.alloc _).ext⟩
          · by_cases h3 : (n : Int) ≤ s.at_
            · clear hc
              go_wp2_with (refine L_loadmidr (ty := 57) (b := b) (off := off + k * 2) rfl rfl H rfl hb (fun e => e) Try.underlying57 rfl info57 [.int .i64 s.at_, .int .i64 s.len] rfl hcs2 ?_; (try simp only [Act.put, List.setIfInBounds_toArray, List.set_cons_succ, List.set_cons_zero, List.getElem_toArray, List.getElem_cons_succ, List.getElem_cons_zero]))
              go_ret2
              exact ⟨⟨.slice none 0 0, false, rfl, HB.out.symm, .inl ⟨rfl, rfl⟩⟩, (H.alloc _).ext⟩
            · have h4 : (n : Int) - s.at_ < s.len := by omega
              clear hc
              go_wp2_with (refine L_loadmidr (ty := 57) (b := b) (off := off + k * 2) rfl rfl H rfl hb (fun e => e) Try.underlying57 rfl info57 [.int .i64 s.at_, .int .i64 s.len] rfl hcs2 ?_; (try simp only [Act.put, List.setIfInBounds_toArray, List.set_cons_succ, List.set_cons_zero, List.getElem_toArray, List.getElem_cons_succ, List.getElem_cons_zero]))
              go_ret2
              exact ⟨⟨.slice none 0 0, false, rfl, HB.out.symm, .inl ⟨rfl, rfl⟩⟩, (H.alloc _).ext⟩
      · have h1 : ¬ s.len < 1 := by omega
        have h2 : ¬ s.at_ < 0 := by omega
        have h3 : ¬ (n : Int) ≤ s.at_ := by omega
        have h4 : ¬ (n : Int) - s.at_ < s.len := by omega
        clear hc
        go_wp2_with (refine L_loadmidr (ty := 57) (b := b) (off := off + k * 2) rfl rfl H rfl hb (fun e => e) Try.underlying57 rfl info57 [.int .i64 s.at_, .int .i64 s.len] rfl hcs2 ?_; (try simp only [Act.put, List.setIfInBounds_toArray, List.set_cons_succ, List.set_cons_zero, List.getElem_toArray, List.getElem_cons_succ, List.getElem_cons_zero]))
        replace H := H.alloc (.cells #[.int .i64 s.at_, .int .i64 s.len] 57)
        generalize wr.heap.size = p at H ⊢
        generalize wr.alloc (.cells #[.int .i64 s.at_, .int .i64 s.len] 57) = wa at H ⊢
        obtain ⟨oc, hoc⟩ : ∃ oc, occ (xs.take k) = oc := ⟨_, rfl⟩
        rw [hoc] at H
        have HO := Lib.hid hoc
        clear hoc
        go_loopw [9] (fun vk wr2 => TiRel oc s n g p w0 vk wr2) (fun vk _ => (s.at_ + s.len - intOf vk).toNat)
        case atStart =>
          refine ⟨s.at_.toNat, by congr 1; omega, by omega, by omega, Lib.hid (fun i a b => by omega), ?_⟩
          rw [bools_congr (g := oc) (fun i _ _ => by rw [show (decide (s.at_ ≤ i) && decide (i < ((s.at_.toNat : Nat) : Int))) = false by simp; omega, Bool.or_false])]
          exact H
        case round =>
          clear H
          obtain ⟨j, rfl, hj1, hj2, HF, H⟩ := hrel
          have hb0 := H.at_ 0 rfl
          have hb1 := H.at_ 1 rfl
          have hc0 := cell_of_row _ p 0 _ _ _ hb0
          have hc1 := cell_of_row _ p 1 _ _ _ hb0
          by_cases hjn : (j : Int) < s.at_ + s.len
          · have hjn' : j < n := by omega
            have hcg := cell_of_row _ g j _ _ _ hb1
            rw [bools_at _ _ _ hjn', show (decide (s.at_ ≤ (j : Int)) && decide ((j : Int) < (j : Int))) = false by simp, Bool.or_false] at hcg
            have hfg := frozen_of_row _ g j _ _ hb1
            have hjk : (j : Int) < (n : Int) := by omega
            clear hb0 hb1
            cases hq : oc j
            · rw [hq] at hcg
              have HQ := Lib.hid hq
              clear hq
              go_wp2
              replace H := H.setCell (off := j) 1 (.bool true) rfl
              simp only [List.set_cons_succ, List.set_cons_zero, bools_set] at H
              go_roundw
              case rel =>
                refine ⟨j + 1, by go_num, by omega, by omega, Lib.hid (fun i a b => ?_), ?_⟩
                · by_cases hij : i = (j : Int)
                  · rw [hij]; exact HQ.out
                  · exact HF.out i a (by omega)
                · rw [bools_congr (g := fun i => oc i || (decide (s.at_ ≤ i) && decide (i < (j : Int))) || (i == (j : Int))) (fun i _ _ => ?_)]
                  · exact H
                  · by_cases hij : i = (j : Int)
                    · subst hij
                      simp [hj1]
                      exact .inr (by omega)
                    · rw [show (i == (j : Int)) = false by simpa using hij, Bool.or_false]
                      congr 2
                      simp only [decide_eq_decide]
                      omega
              case measure => simp [intOf]; omega
            · rw [hq] at hcg
              have HB : Hid (goodB xs n = false) := Lib.hid (by
                rw [goodB, decide_eq_false_iff_not]
                intro hg
                rw [← HO.out] at hq
                simp only [occ, List.any_eq_true, Bool.and_eq_true, decide_eq_true_eq] at hq
                obtain ⟨a, ha, ha1, ha2⟩ := hq
                have hsub := hg.2.sublist (List.take_sublist (k + 1) xs)
                rw [HS.out.1] at hsub
                have := (List.pairwise_append.1 hsub).2.2 a ha s (List.mem_singleton.2 rfl)
                omega)
              clear hq
              go_wp2
              go_ret2
              exact ⟨⟨.slice none 0 0, false, rfl, HB.out.symm, .inl ⟨rfl, rfl⟩⟩, H.ext⟩
          · clear hb0 hb1
            have hje : (j : Int) = s.at_ + s.len := by omega
            have HJ := Lib.hid hje
            clear hje
            go_wp2
            go_roundw
            case rel =>
              refine ⟨k + 1, by go_num, hkn, Lib.hid ?_, ?_⟩
              · rw [HS.out.1]
                refine ⟨fun x hx => ?_, List.pairwise_append.2 ⟨HG.out.2, List.pairwise_singleton _ _, fun a ha b' hb' => ?_⟩⟩
                · rcases List.mem_append.1 hx with hx | hx
                  · exact HG.out.1 x hx
                  · rw [List.mem_singleton.1 hx]; omega
                · rw [List.mem_singleton.1 hb']
                  refine Decidable.byContradiction fun hn => ?_
                  have ha1 := HG.out.1 a ha
                  have hx := HF.out (max a.at_ s.at_) (by omega) (by rw [HJ.out]; omega)
                  rw [← HO.out, Bool.eq_false_iff] at hx
                  refine hx ?_
                  simp only [occ, List.any_eq_true, Bool.and_eq_true, decide_eq_true_eq]
                  exact ⟨a, ha, by omega, by omega⟩
              · have H2 := H.drop (List.sublist_cons_self _ _)
                rw [HS.out.1]
                rw [bools_congr (g := fun i => oc i || (decide (s.at_ ≤ i) && decide (i < (j : Int)))) (fun i _ _ => by rw [occ_snoc, HO.out, HJ.out])]
                exact H2
            case measure => simp [intOf]; omega
    · obtain rfl : k = xs.length := by omega
      go_wp2
      go_ret2
      rw [List.take_length] at HG H
      exact ⟨⟨.slice (some ⟨g, 0, none⟩) n n, true, rfl, (show true = goodB xs n from (decide_eq_true HG.out).symm), .inr ⟨rfl, g, by simp, by simpa using H.at_ 0 rfl⟩⟩, H.ext⟩

theorem R_loadSp {P : Program} {a : Act} {w : World} {o : Oper} {ty : TypeId} {x : Operand} (ho : o.op = .load ty x) {b off n cap : Nat} {xs : List Sp} (hr : RdS Sp.cells 2 w (.slice (some ⟨b, off, none⟩) n cap) xs) {j : Nat} (hj : j < xs.length)
    (hx : a.eval x = .pointer (some ⟨b, off + j * 2, none⟩)) {s : Sp} (hs : xs[j] = s) {d : TypeDesc} (hu : P.underlying ty = some d) (hd : d.isRow = true) (hi : (P.info? ty).map (·.size) = some 2) : (execOp a.eval o).run P w = .ok (.value (.agg #[.int .i64 s.at_, .int .i64 s.len])) w := by
  obtain ⟨b', off', cs, T, fr, he, hb, hcs⟩ := hr.cell hj
  cases he
  rw [hs] at hcs
  exact R_loadmid ho hx hb hu hd hi s.cells rfl hcs


def SaRel (ys : List Sp) (xs : List Sp) (w0 : World) (vi : Value) (wr : World) : Prop :=
  ∃ k : Nat, vi = .int .i64 (k : Int) ∧ k ≤ xs.length ∧ Aside (xs.take k = ys.take k) ∧ SH (fun _ => False) w0 wr []

theorem Sp.ext {x y : Sp} (h1 : x.at_ = y.at_) (h2 : x.len = y.len) : x = y := by cases x; cases y; simp_all

set_option maxRecDepth 100000 in
set_option maxHeartbeats 1000000 in
theorem same_any (va vb : Value) (xs ys : List Sp) (w0 : World) (ha : RdS Sp.cells 2 w0 va xs) (hb : RdS Sp.cells 2 w0 vb ys) (hn : xs.length ≤ 100000) (hn2 : ys.length ≤ 100000) :
    Calls Try.prog 12 #[va, vb] w0 fun e w' => (∃ q : Bool, e = .returned (.bool q) ∧ (q = true ↔ xs = ys)) ∧ Ext0 w0 w' := by
  obtain ⟨A, ca, rfl, hca⟩ := ha.len
  obtain ⟨B, cb, rfl, hcb⟩ := hb.len
  have H : SH (fun _ => False) w0 w0 [] := SH.nil _ _
  by_cases hl : xs.length = ys.length
  · have hl' : ((xs.length : Int) != (ys.length : Int)) = false := by simp [hl]
    go_enter Try.func12, Try.ntmps12
    go_wp2
    go_loopw [5] (fun vi wr => SaRel ys xs w0 vi wr) (fun vi _ => xs.length - (intOf vi).toNat)
    case atStart => exact ⟨0, rfl, Nat.zero_le _, (show Aside _ from rfl), H⟩
    case round =>
      clear H
      obtain ⟨k, rfl, hk, HA, H⟩ := hrel
      by_cases hkn : k < xs.length
      · have hki : (k : Int) < (xs.length : Int) := by omega
        have hkn2 : k < ys.length := by omega
        obtain ⟨b1, o1, _, _, _, rfl, _, _⟩ := ha.cell hkn
        obtain ⟨b2, o2, _, _, _, rfl, _, _⟩ := hb.cell hkn2
        have hxk := List.take_add_one (l := xs) (i := k)
        have hyk := List.take_add_one (l := ys) (i := k)
        rw [List.getElem?_eq_getElem hkn] at hxk
        rw [List.getElem?_eq_getElem hkn2] at hyk
        obtain ⟨x, hx⟩ : ∃ x, xs[k] = x := ⟨_, rfl⟩
        obtain ⟨y, hy⟩ : ∃ y, ys[k] = y := ⟨_, rfl⟩
        have HX := Lib.hid (show xs.take (k + 1) = xs.take k ++ [x] ∧ ys.take (k + 1) = ys.take k ++ [y] ∧ xs[k] = x ∧ ys[k] = y from ⟨by rw [hxk, hx]; rfl, by rw [hyk, hy]; rfl, hx, hy⟩)
        clear hxk hyk hx hy
        by_cases hss : x.at_ = y.at_ ∧ x.len = y.len
        · go_wp2_with fail
          refine D_start H (by kernel_rfl) (fun hS => ?_)
          try simp only [Act.put, List.setIfInBounds_toArray, List.set_cons_succ, List.set_cons_zero]
          refine D_take 0 (v := ?_) rfl (by kernel_rfl) (by kernel_rfl) (by kernel_rfl) (fun _ _ _ h => h) rfl (by rfl) (fun W hS => ?_) hS ?_
          rotate_left; (focus (first | (go_simp; done) | (go_simp; with_reducible rfl) | (go_simp; rfl))); all_goals skip; (try simp only [List.set_cons_succ, List.set_cons_zero])
          refine D_take 1 (v := ?_) rfl (by kernel_rfl) (by kernel_rfl) (by kernel_rfl) (fun _ _ _ h => h) rfl (by rfl) (fun W hS => ?_) hS ?_
          rotate_left; (focus (first | (go_simp; done) | (go_simp; with_reducible rfl) | (go_simp; rfl))); all_goals skip; (try simp only [List.set_cons_succ, List.set_cons_zero])
          refine D_take 2 (v := ?_) rfl (by kernel_rfl) (by kernel_rfl) (by kernel_rfl) (fun _ _ _ h => h) rfl (by rfl) (fun W hS => ?_) hS ?_
          rotate_left; (focus (first | (go_simp; done) | (go_simp; with_reducible rfl) | (go_simp; rfl))); all_goals skip; (try simp only [List.set_cons_succ, List.set_cons_zero])
          refine D_take 3 (v := (.agg #[.int .i64 x.at_, .int .i64 x.len])) rfl (by kernel_rfl) (by kernel_rfl) (by kernel_rfl) (fun _ _ _ h => h) rfl (by rfl) (fun W hS => R_loadSp (ty := 57) (x := .tmp 19) rfl (ha.keep hS.ext) hkn rfl HX.out.2.2.1 Try.underlying57 rfl info57) hS ?_; (try simp only [List.set_cons_succ, List.set_cons_zero])
          refine D_take 4 (v := ?_) rfl (by kernel_rfl) (by kernel_rfl) (by kernel_rfl) (fun _ _ _ h => h) rfl (by rfl) (fun W hS => ?_) hS ?_
          rotate_left; (focus (first | (go_simp; done) | (go_simp; with_reducible rfl) | (go_simp; rfl))); all_goals skip; (try simp only [List.set_cons_succ, List.set_cons_zero])
          refine D_take 5 (v := ?_) rfl (by kernel_rfl) (by kernel_rfl) (by kernel_rfl) (fun _ _ _ h => h) rfl (by rfl) (fun W hS => ?_) hS ?_
          rotate_left; (focus (first | (go_simp; done) | (go_simp; with_reducible rfl) | (go_simp; rfl))); all_goals skip; (try simp only [List.set_cons_succ, List.set_cons_zero])
          refine D_take 6 (v := ?_) rfl (by kernel_rfl) (by kernel_rfl) (by kernel_rfl) (fun _ _ _ h => h) rfl (by rfl) (fun W hS => ?_) hS ?_
          rotate_left; (focus (first | (go_simp; done) | (go_simp; with_reducible rfl) | (go_simp; rfl))); all_goals skip; (try simp only [List.set_cons_succ, List.set_cons_zero])
          refine D_take 7 (v := (.agg #[.int .i64 y.at_, .int .i64 y.len])) rfl (by kernel_rfl) (by kernel_rfl) (by kernel_rfl) (fun _ _ _ h => h) rfl (by rfl) (fun W hS => R_loadSp (ty := 57) (x := .tmp 23) rfl (hb.keep hS.ext) hkn2 rfl HX.out.2.2.2 Try.underlying57 rfl info57) hS ?_; (try simp only [List.set_cons_succ, List.set_cons_zero])
          refine D_take 8 (v := (.bool false)) rfl (by kernel_rfl) (by kernel_rfl) (by kernel_rfl) (fun _ _ _ h => h) rfl (by rfl) (fun W hS => by first | (go_simp; done) | (rw [hss.1, hss.2]; go_simp; done)) hS ?_; (try simp only [List.set_cons_succ, List.set_cons_zero])
          refine wpAnyH_done (by kernel_rfl) ?_ _
          replace H := H.drew
          go_wp2_with fail
          go_roundw
          case rel =>
            refine ⟨k + 1, by go_num, by omega, ?_, H⟩
            show xs.take (k + 1) = ys.take (k + 1)
            rw [HX.out.1, HX.out.2.1, Sp.ext hss.1 hss.2, HA.out]
          case measure => simp [intOf]; omega
        · go_wp2_with fail
          refine D_start H (by kernel_rfl) (fun hS => ?_)
          try simp only [Act.put, List.setIfInBounds_toArray, List.set_cons_succ, List.set_cons_zero]
          refine D_take 0 (v := ?_) rfl (by kernel_rfl) (by kernel_rfl) (by kernel_rfl) (fun _ _ _ h => h) rfl (by rfl) (fun W hS => ?_) hS ?_
          rotate_left; (focus (first | (go_simp; done) | (go_simp; with_reducible rfl) | (go_simp; rfl))); all_goals skip; (try simp only [List.set_cons_succ, List.set_cons_zero])
          refine D_take 1 (v := ?_) rfl (by kernel_rfl) (by kernel_rfl) (by kernel_rfl) (fun _ _ _ h => h) rfl (by rfl) (fun W hS => ?_) hS ?_
          rotate_left; (focus (first | (go_simp; done) | (go_simp; with_reducible rfl) | (go_simp; rfl))); all_goals skip; (try simp only [List.set_cons_succ, List.set_cons_zero])
          refine D_take 2 (v := ?_) rfl (by kernel_rfl) (by kernel_rfl) (by kernel_rfl) (fun _ _ _ h => h) rfl (by rfl) (fun W hS => ?_) hS ?_
          rotate_left; (focus (first | (go_simp; done) | (go_simp; with_reducible rfl) | (go_simp; rfl))); all_goals skip; (try simp only [List.set_cons_succ, List.set_cons_zero])
          refine D_take 3 (v := (.agg #[.int .i64 x.at_, .int .i64 x.len])) rfl (by kernel_rfl) (by kernel_rfl) (by kernel_rfl) (fun _ _ _ h => h) rfl (by rfl) (fun W hS => R_loadSp (ty := 57) (x := .tmp 19) rfl (ha.keep hS.ext) hkn rfl HX.out.2.2.1 Try.underlying57 rfl info57) hS ?_; (try simp only [List.set_cons_succ, List.set_cons_zero])
          refine D_take 4 (v := ?_) rfl (by kernel_rfl) (by kernel_rfl) (by kernel_rfl) (fun _ _ _ h => h) rfl (by rfl) (fun W hS => ?_) hS ?_
          rotate_left; (focus (first | (go_simp; done) | (go_simp; with_reducible rfl) | (go_simp; rfl))); all_goals skip; (try simp only [List.set_cons_succ, List.set_cons_zero])
          refine D_take 5 (v := ?_) rfl (by kernel_rfl) (by kernel_rfl) (by kernel_rfl) (fun _ _ _ h => h) rfl (by rfl) (fun W hS => ?_) hS ?_
          rotate_left; (focus (first | (go_simp; done) | (go_simp; with_reducible rfl) | (go_simp; rfl))); all_goals skip; (try simp only [List.set_cons_succ, List.set_cons_zero])
          refine D_take 6 (v := ?_) rfl (by kernel_rfl) (by kernel_rfl) (by kernel_rfl) (fun _ _ _ h => h) rfl (by rfl) (fun W hS => ?_) hS ?_
          rotate_left; (focus (first | (go_simp; done) | (go_simp; with_reducible rfl) | (go_simp; rfl))); all_goals skip; (try simp only [List.set_cons_succ, List.set_cons_zero])
          refine D_take 7 (v := (.agg #[.int .i64 y.at_, .int .i64 y.len])) rfl (by kernel_rfl) (by kernel_rfl) (by kernel_rfl) (fun _ _ _ h => h) rfl (by rfl) (fun W hS => R_loadSp (ty := 57) (x := .tmp 23) rfl (hb.keep hS.ext) hkn2 rfl HX.out.2.2.2 Try.underlying57 rfl info57) hS ?_; (try simp only [List.set_cons_succ, List.set_cons_zero])
          refine D_take 8 (v := (.bool true)) rfl (by kernel_rfl) (by kernel_rfl) (by kernel_rfl) (fun _ _ _ h => h) rfl (by rfl) (fun W hS => by first | (go_simp; done) | (go_simp; exact fun h1 h2 => hss ⟨h1, h2⟩)) hS ?_; (try simp only [List.set_cons_succ, List.set_cons_zero])
          refine wpAnyH_done (by kernel_rfl) ?_ _
          replace H := H.drew
          go_wp2_with fail
          go_ret
          refine ⟨⟨false, rfl, ?_⟩, H.ext⟩
          simp only [Bool.false_eq_true, false_iff]
          intro e
          subst e
          have h1 := HX.out.2.2.1
          rw [HX.out.2.2.2] at h1
          exact hss ⟨by rw [h1], by rw [h1]⟩
      · obtain rfl : k = xs.length := by omega
        go_wp2
        go_ret
        refine ⟨⟨true, rfl, ?_⟩, H.ext⟩
        have h1 := HA.out
        rw [List.take_length, hl, List.take_length] at h1
        simp [h1]
  · have hl' : ((xs.length : Int) != (ys.length : Int)) = true := by simp; omega
    go_enter Try.func12, Try.ntmps12
    go_wp2
    go_ret
    refine ⟨⟨false, rfl, ?_⟩, H.ext⟩
    simp only [Bool.false_eq_true, false_iff]
    intro e
    exact hl (by rw [e])


set_option maxHeartbeats 1000000 in
theorem refGood_any (sv : Value) (xs : List Sp) (t : Int) (w0 : World) (hlen : xs.length ≤ 1000) (hr : RdS Sp.cells 2 w0 sv xs) (ht0 : 0 ≤ t) (ht : t ≤ 4096) (hsm : Small xs) :
    Calls Try.prog 32 #[sv, .int .i64 t] w0 fun e w' => e = .returned (.bool (goodB xs t)) ∧ Ext0 w0 w' := by
  have htk := taken_any sv xs t w0 hlen hr ht0 ht hsm
  obtain ⟨q, hq⟩ : ∃ q, goodB xs t = q := ⟨_, rfl⟩
  rw [hq]
  have HQ := Lib.hid hq
  clear hq
  go_enter Try.func32, Try.ntmps32
  go_wp2_with (go_at_call 58; refine htk.mono ?_; rintro e w ⟨⟨v, b, rfl, hb, _⟩, hE⟩)
  go_ret
  exact ⟨by rw [← HQ.out, ← hb]; rfl, hE⟩


end Go.Proofs.Ytoaieodcdbbndaa
