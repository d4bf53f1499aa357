/- Spans: the plain law. No walk. -/
import Derived.Test.YtmfcccflohpjiaaGreatDoorSpaceA
namespace Go.Proofs.YtmfcccflohpjiaaGreatDoor
set_option linter.unusedVariables false
set_option linter.unusedSimpArgs false

def occ (xs : List Sp) (k : Int) : Bool := xs.any fun s => decide (s.at_ ≤ k) && decide (k < s.at_ + s.len)
def GoodS (xs : List Sp) (t : Int) : Prop := (∀ s ∈ xs, 1 ≤ s.len ∧ 0 ≤ s.at_ ∧ s.at_ + s.len ≤ t) ∧ xs.Pairwise (fun a b => a.at_ + a.len ≤ b.at_ ∨ b.at_ + b.len ≤ a.at_)
instance (xs : List Sp) (t : Int) : Decidable (GoodS xs t) := by unfold GoodS; infer_instance
def goodB (xs : List Sp) (t : Int) : Bool := decide (GoodS xs t)

theorem GoodS.perm {xs ys : List Sp} {t : Int} (h : GoodS xs t) (p : xs.Perm ys) : GoodS ys t :=
  ⟨fun s hs => h.1 s (p.symm.subset hs), (p.pairwise_iff (fun {a b} h => h.symm)).1 h.2⟩
theorem goodB_perm {xs ys : List Sp} (t : Int) (p : xs.Perm ys) : goodB xs t = goodB ys t := by
  unfold goodB
  exact decide_eq_decide.2 ⟨fun h => h.perm p, fun h => h.perm p.symm⟩
theorem occ_perm {xs ys : List Sp} (p : xs.Perm ys) : occ xs = occ ys := by
  funext k
  unfold occ
  exact p.any_eq

/-- As the program asks, in order. -/
def goodGo (t : Int) : Int → List Sp → Bool
  | _, [] => true
  | e, s :: r => if s.len < 1 ∨ s.at_ < e ∨ t < s.at_ ∨ t - s.at_ < s.len then false else goodGo t (s.at_ + s.len) r
theorem goodGo_iff (t : Int) : ∀ (ys : List Sp) (e : Int), ys.Pairwise (fun a b => a.at_ ≤ b.at_) → (goodGo t e ys = true ↔ (∀ s ∈ ys, 1 ≤ s.len ∧ e ≤ s.at_ ∧ s.at_ + s.len ≤ t) ∧ ys.Pairwise (fun a b => a.at_ + a.len ≤ b.at_ ∨ b.at_ + b.len ≤ a.at_))
  | [], e, _ => by simp [goodGo]
  | s :: r, e, hs => by
    obtain ⟨h1, h2⟩ := List.pairwise_cons.1 hs
    unfold goodGo
    split
    · rename_i h
      refine ⟨fun h => (by cases h), fun ⟨ha, _⟩ => ?_⟩
      have := ha s (List.mem_cons_self)
      omega
    · rename_i h
      rw [goodGo_iff t r _ h2]
      refine ⟨fun ⟨ha, hp⟩ => ⟨?_, List.pairwise_cons.2 ⟨fun b hb => .inl (ha b hb).2.1, hp⟩⟩, fun ⟨ha, hp⟩ => ?_⟩
      · intro x hx
        rcases List.mem_cons.1 hx with rfl | hx
        · omega
        · have := ha x hx; omega
      · obtain ⟨q1, q2⟩ := List.pairwise_cons.1 hp
        refine ⟨fun x hx => ?_, q2⟩
        have h3 := ha x (List.mem_cons_of_mem _ hx)
        have h4 := h1 x hx
        have h5 := q1 x hx
        omega
theorem goodGo_good {ys : List Sp} {t : Int} (hs : ys.Pairwise (fun a b => a.at_ ≤ b.at_)) : goodGo t 0 ys = goodB ys t := by
  rw [Bool.eq_iff_iff, goodGo_iff t ys 0 hs]
  exact (decide_eq_true_iff (p := GoodS ys t)).symm

/-- One sector more, looked at. -/
def step (oc : Int → Bool) (out : List Sp) (i : Int) : List Sp :=
  if oc i then out else match out.getLast? with
    | some l => if l.at_ + l.len = i then out.dropLast ++ [⟨l.at_, l.len + 1⟩] else out ++ [⟨i, 1⟩]
    | none => out ++ [⟨i, 1⟩]
def run (oc : Int → Bool) : Nat → Int → List Sp → List Sp
  | 0, _, out => out
  | n + 1, e, out => run oc n (e + 1) (step oc out e)
theorem run_add (oc : Int → Bool) : ∀ (m n : Nat) (e : Int) (out : List Sp), run oc (m + n) e out = run oc n (e + m) (run oc m e out)
  | 0, n, e, out => by simp [run]
  | m + 1, n, e, out => by
    rw [show m + 1 + n = (m + n) + 1 by omega, run, run, run_add oc m n]
    congr 1
    omega
theorem run_succ (oc : Int → Bool) (n : Nat) (out : List Sp) : run oc (n + 1) 0 out = step oc (run oc n 0 out) n := by
  rw [run_add oc n 1]
  simp [run]
theorem taken_run (oc : Int → Bool) : ∀ (m : Nat) (e : Int) (out : List Sp), (∀ k, e ≤ k → k < e + m → oc k = true) → run oc m e out = out
  | 0, _, _, _ => rfl
  | m + 1, e, out, h => by
    rw [run, show step oc out e = out by unfold step; rw [if_pos (h e (by omega) (by omega))]]
    exact taken_run oc m (e + 1) out (fun k h1 h2 => h k (by omega) (by omega))
theorem grow_run (oc : Int → Bool) : ∀ (m : Nat) (e j : Int) (out : List Sp), (∀ k, e + j ≤ k → k < e + j + m → oc k = false) → run oc m (e + j) (out ++ [⟨e, j⟩]) = out ++ [⟨e, j + m⟩]
  | 0, e, j, out, _ => by simp [run]
  | m + 1, e, j, out, h => by
    have hst : step oc (out ++ [⟨e, j⟩]) (e + j) = out ++ [⟨e, j + 1⟩] := by
      unfold step
      rw [if_neg (by rw [h (e + j) (by omega) (by omega)]; simp)]
      simp
    rw [run, hst, show e + j + 1 = e + (j + 1) by omega, grow_run oc m e (j + 1) out (fun k h1 h2 => h k (by omega) (by omega))]
    congr 3
    omega
theorem free_run (oc : Int → Bool) (m : Nat) (e : Int) (out : List Sp) (h : ∀ k, e ≤ k → k < e + m → oc k = false) (hl : ∀ l, out.getLast? = some l → l.at_ + l.len < e) : run oc m e out = out ++ (if (0 : Int) < m then [⟨e, m⟩] else []) := by
  cases m with
  | zero => simp [run]
  | succ m =>
    have hst : step oc out e = out ++ [⟨e, 1⟩] := by
      unfold step
      rw [if_neg (by rw [h e (by omega) (by omega)]; simp)]
      cases ho : out.getLast? with
      | none => rfl
      | some l =>
        have := hl l ho
        simp only
        rw [if_neg (by omega)]
    rw [run, hst, grow_run oc m e 1 out (fun k h1 h2 => h k (by omega) (by omega)), if_pos (by omega)]
    congr 3
    omega

/-- As the program goes. -/
def holesGo : Int → List Sp → List Sp
  | _, [] => []
  | e, s :: r => (if e < s.at_ then [⟨e, s.at_ - e⟩] else []) ++ holesGo (s.at_ + s.len) r
theorem holes_run (t : Int) : ∀ (r : List Sp) (e : Int) (oc : Int → Bool) (out : List Sp), e ≤ t → goodGo t e r = true → (∀ k, e ≤ k → oc k = occ r k) → (∀ s ∈ r, e ≤ s.at_) → (∀ l, out.getLast? = some l → l.at_ + l.len < e) → r.Pairwise (fun a b => a.at_ ≤ b.at_) →
    run oc (t - e).toNat e out = out ++ holesGo e (r ++ [⟨t, 0⟩])
  | [], e, oc, out, he, _, hoc, _, hl, _ => by
    rw [free_run oc _ e out (fun k h1 h2 => by rw [hoc k h1]; rfl) hl]
    simp only [List.nil_append, holesGo, List.append_nil]
    by_cases h : e < t
    · rw [if_pos h, if_pos (by omega)]
      congr 3
      omega
    · rw [if_neg h, if_neg (by omega)]
  | s :: r, e, oc, out, he, hg, hoc, hge, hl, hs => by
    obtain ⟨hs1, hs2⟩ := List.pairwise_cons.1 hs
    have hg2 := (goodGo_iff t (s :: r) e hs).1 hg
    have h1 := hg2.1 s List.mem_cons_self
    unfold goodGo at hg
    rw [if_neg (by omega)] at hg
    have hr := ((goodGo_iff t r _ hs2).1 hg).1
    have hocf : ∀ k, e ≤ k → k < s.at_ → oc k = false := fun k ha hb => by
      rw [hoc k ha, Bool.eq_false_iff]
      intro hx
      simp only [occ, List.any_eq_true, Bool.and_eq_true, decide_eq_true_eq] at hx
      obtain ⟨x, hx, hx1, hx2⟩ := hx
      rcases List.mem_cons.1 hx with rfl | hx
      · omega
      · have := hr x hx; omega
    rw [show (t - e).toNat = (s.at_ - e).toNat + (s.len.toNat + (t - (s.at_ + s.len)).toNat) by omega, run_add, run_add,
      free_run oc (s.at_ - e).toNat e out (fun k ha hb => hocf k ha (by omega)) hl,
      show e + ((s.at_ - e).toNat : Int) = s.at_ by omega,
      taken_run oc s.len.toNat s.at_ _ (fun k ha hb => by
        rw [hoc k (by omega)]
        simp only [occ, List.any_eq_true, Bool.and_eq_true, decide_eq_true_eq]
        exact ⟨s, List.mem_cons_self, ha, by omega⟩),
      show s.at_ + (s.len.toNat : Int) = s.at_ + s.len by omega]
    rw [holes_run t r (s.at_ + s.len) oc _ (by omega) hg ?_ (fun x hx => (hr x hx).2.1) ?_ hs2]
    · rw [List.cons_append, holesGo, List.append_assoc]
      congr 2
      by_cases h : e < s.at_
      · rw [if_pos h, if_pos (by omega)]
        congr 2
        omega
      · rw [if_neg h, if_neg (by omega)]
    · intro k hk
      rw [hoc k (by omega)]
      simp only [occ, List.any_cons]
      rw [show (decide (s.at_ ≤ k) && decide (k < s.at_ + s.len)) = false by simp; omega, Bool.false_or]
    · intro l hl2
      by_cases h : (0 : Int) < ((s.at_ - e).toNat : Int)
      · rw [if_pos h] at hl2
        simp at hl2
        subst hl2
        show e + _ < _
        simp only
        omega
      · rw [if_neg h, List.append_nil] at hl2
        have := hl l hl2
        omega

/-- What spans leave free. -/
def holesL (xs : List Sp) (t : Int) : List Sp := if goodB xs t then run (occ xs) t.toNat 0 [] else []
theorem holesL_perm {xs ys : List Sp} (t : Int) (p : xs.Perm ys) : holesL xs t = holesL ys t := by
  unfold holesL; rw [goodB_perm t p, occ_perm p]
theorem holesL_go {xs ys : List Sp} {t : Int} (ht : 0 ≤ t) (p : ys.Perm xs) (hs : ys.Pairwise (fun a b => a.at_ ≤ b.at_)) (hg : goodB xs t = true) : holesL xs t = holesGo 0 (ys ++ [⟨t, 0⟩]) := by
  rw [← holesL_perm t p]
  have hg2 : goodB ys t = true := by rw [goodB_perm t p]; exact hg
  unfold holesL
  rw [if_pos hg2]
  have hg3 : goodGo t 0 ys = true := by rw [goodGo_good hs]; exact hg2
  have := holes_run t ys 0 (occ ys) [] ht hg3 (fun _ _ => rfl) (fun s h => ((goodGo_iff t ys 0 hs).1 hg3).1 s h |>.2.1) (by simp) hs
  rwa [Int.sub_zero, List.nil_append] at this

/-- How many, of the first n. -/
def cnt (p : Int → Bool) : Nat → Int
  | 0 => 0
  | n + 1 => cnt p n + (if p n then 1 else 0)
def freeL (xs : List Sp) (t : Int) : Int := if goodB xs t then cnt (fun k => !occ xs k) t.toNat else 0
def sumLen (out : List Sp) : Int := (out.map (·.len)).sum
theorem sumLen_append (a b : List Sp) : sumLen (a ++ b) = sumLen a + sumLen b := by simp [sumLen]
theorem sumLen_step (oc : Int → Bool) (out : List Sp) (i : Int) : sumLen (step oc out i) = sumLen out + (if oc i then 0 else 1) := by
  unfold step
  cases h : oc i with
  | true => simp
  | false =>
    simp only [Bool.false_eq_true, if_false]
    cases ho : out.getLast? with
    | none => simp [sumLen_append, sumLen]
    | some l =>
      have hd : out = out.dropLast ++ [l] := by
        have hne : out ≠ [] := by intro e; subst e; simp at ho
        rw [List.getLast?_eq_some_getLast hne] at ho
        have := List.dropLast_concat_getLast hne
        rw [Option.some.inj ho] at this
        exact this.symm
      simp only
      split
      · rw [sumLen_append]
        conv => rhs; rw [hd, sumLen_append]
        simp [sumLen]; omega
      · rw [sumLen_append]; simp [sumLen]
theorem sumLen_run (oc : Int → Bool) : ∀ n : Nat, sumLen (run oc n 0 []) = cnt (fun k => !oc k) n
  | 0 => rfl
  | n + 1 => by
    rw [run_succ, sumLen_step, sumLen_run oc n, cnt]
    cases oc n <;> simp
theorem free_sum (xs : List Sp) (t : Int) : sumLen (holesL xs t) = freeL xs t := by
  unfold holesL freeL
  split
  · exact sumLen_run _ _
  · rfl
theorem cnt_range (p : Int → Bool) : ∀ n : Nat, 0 ≤ cnt p n ∧ cnt p n ≤ n
  | 0 => by simp [cnt]
  | n + 1 => by
    have := cnt_range p n
    rw [cnt]
    split <;> omega
/-- An interval of free ones taken. -/
theorem cnt_take {f g : Int → Bool} {a m : Int} (hg : ∀ k, g k = (f k && !(decide (a ≤ k) && decide (k < a + m)))) (hf : ∀ k, a ≤ k → k < a + m → f k = true) (ha : 0 ≤ a) (hm : 0 ≤ m) :
    ∀ n : Nat, cnt f n = cnt g n + max 0 (min (n - a) m)
  | 0 => by simp [cnt]; omega
  | n + 1 => by
    have ih := cnt_take hg hf ha hm n
    rw [cnt, cnt, ih, hg n]
    by_cases h : a ≤ (n : Int) ∧ (n : Int) < a + m
    · rw [hf n h.1 h.2]
      simp [h.1, h.2]
      omega
    · rw [show (decide (a ≤ (n : Int)) && decide ((n : Int) < a + m)) = false by simp; omega]
      simp only [Bool.not_false, Bool.and_true]
      omega

/-- A hole is free. -/
def HoleOk (oc : Int → Bool) (e : Int) (h : Sp) : Prop := 1 ≤ h.len ∧ 0 ≤ h.at_ ∧ h.at_ + h.len ≤ e ∧ ∀ k, h.at_ ≤ k → k < h.at_ + h.len → oc k = false
theorem holeOk_step {oc : Int → Bool} {out : List Sp} {i : Int} (hi : 0 ≤ i) (h : ∀ x ∈ out, HoleOk oc i x) : ∀ x ∈ step oc out i, HoleOk oc (i + 1) x := by
  have hm : ∀ x ∈ out, HoleOk oc (i + 1) x := fun x hx => ⟨(h x hx).1, (h x hx).2.1, by have := (h x hx).2.2.1; omega, (h x hx).2.2.2⟩
  intro x hx
  unfold step at hx
  cases hc : oc i with
  | true => rw [hc] at hx; exact hm x (by simpa using hx)
  | false =>
    have hone : HoleOk oc (i + 1) ⟨i, 1⟩ := by
      refine ⟨Int.le_refl _, hi, Int.le_refl _, fun k h1 h2 => ?_⟩
      simp only at h1 h2
      have : k = i := by omega
      rw [this]; exact hc
    rw [hc] at hx
    simp only [Bool.false_eq_true, if_false] at hx
    cases ho : out.getLast? with
    | none =>
      rw [ho] at hx
      simp only [List.mem_append, List.mem_singleton] at hx
      rcases hx with hx | rfl
      · exact hm x hx
      · exact hone
    | some l =>
      rw [ho] at hx
      simp only at hx
      split at hx
      · rename_i hli
        simp only [List.mem_append, List.mem_singleton] at hx
        rcases hx with hx | rfl
        · exact hm x (List.dropLast_subset _ hx)
        · obtain ⟨q1, q2, q3, q4⟩ := h l (List.mem_of_getLast? ho)
          refine ⟨by simp only; omega, q2, by simp only; omega, fun k h1 h2 => ?_⟩
          simp only at h1 h2
          by_cases hk : k < l.at_ + l.len
          · exact q4 k h1 hk
          · have : k = i := by omega
            rw [this]; exact hc
      · simp only [List.mem_append, List.mem_singleton] at hx
        rcases hx with hx | rfl
        · exact hm x hx
        · exact hone
theorem holeOk_run (oc : Int → Bool) : ∀ n : Nat, ∀ x ∈ run oc n 0 [], HoleOk oc n x
  | 0 => by simp [run]
  | n + 1 => by
    rw [run_succ]
    exact holeOk_step (by omega) (holeOk_run oc n)

/-- Where so many are free, one behind the other. -/
def findL (hs : List Sp) (n : Int) : Int × Bool := match hs.find? (fun h => decide (1 ≤ n) && decide (n ≤ h.len)) with
  | some h => (h.at_, true)
  | none => (0, false)

/-- What is found may be taken. -/
theorem takes {xs : List Sp} {t m at_ : Int} (ht : 0 ≤ t) (hf : findL (holesL xs t) m = (at_, true)) : 0 < m ∧ GoodS (xs ++ [⟨at_, m⟩]) t ∧ freeL (xs ++ [⟨at_, m⟩]) t = freeL xs t - m := by
  unfold findL at hf
  cases hh : (holesL xs t).find? (fun h => decide (1 ≤ m) && decide (m ≤ h.len)) with
  | none => rw [hh] at hf; simp at hf
  | some h =>
    rw [hh] at hf
    simp only [Prod.mk.injEq, and_true] at hf
    have hp := List.find?_some hh
    have hmem := List.mem_of_find?_eq_some hh
    simp only [Bool.and_eq_true, decide_eq_true_eq] at hp
    unfold holesL at hmem
    split at hmem
    · rename_i hg
      have hG : GoodS xs t := of_decide_eq_true hg
      obtain ⟨q1, q2, q3, q4⟩ := holeOk_run _ _ h hmem
      subst hf
      have hGm : GoodS (xs ++ [⟨h.at_, m⟩]) t := by
        refine ⟨fun s hs => ?_, List.pairwise_append.2 ⟨hG.2, List.pairwise_singleton _ _, fun a ha b hb => ?_⟩⟩
        · rcases List.mem_append.1 hs with hs | hs
          · exact hG.1 s hs
          · rw [List.mem_singleton.1 hs]; simp only; omega
        · rw [List.mem_singleton.1 hb]
          simp only
          refine Decidable.byContradiction fun hn => ?_
          have ha1 := hG.1 a ha
          have hk := q4 (max a.at_ h.at_) (by omega) (by omega)
          rw [Bool.eq_false_iff] at hk
          refine hk ?_
          simp only [occ, List.any_eq_true, Bool.and_eq_true, decide_eq_true_eq]
          exact ⟨a, ha, by omega, by omega⟩
      refine ⟨by omega, hGm, ?_⟩
      unfold freeL
      rw [if_pos hg, if_pos (show goodB _ t = true from decide_eq_true hGm)]
      have hc := cnt_take (f := fun k => !occ xs k) (g := fun k => !occ (xs ++ [⟨h.at_, m⟩]) k) (a := h.at_) (m := m) (fun k => by simp [occ]) (fun k h1 h2 => by show (!occ xs k) = true; rw [q4 k h1 (by omega)]; rfl) q2 (by omega) t.toNat
      rw [hc]
      omega
    · simp at hmem

/-- One span less. -/
theorem less {s : Sp} {r : List Sp} {t : Int} (ht : 0 ≤ t) (hg : GoodS (s :: r) t) : GoodS r t ∧ freeL r t = freeL (s :: r) t + s.len := by
  obtain ⟨h1, h2⟩ := List.pairwise_cons.1 hg.2
  have hr : GoodS r t := ⟨fun x hx => hg.1 x (List.mem_cons_of_mem _ hx), h2⟩
  have hs := hg.1 s List.mem_cons_self
  refine ⟨hr, ?_⟩
  unfold freeL
  rw [if_pos (show goodB _ t = true from decide_eq_true hr), if_pos (show goodB _ t = true from decide_eq_true hg)]
  rw [cnt_take (f := fun k => !occ r k) (g := fun k => !occ (s :: r) k) (a := s.at_) (m := s.len) (fun k => by show (!occ (s :: r) k) = (!occ r k && _); simp only [occ, List.any_cons, Bool.not_or]; rw [Bool.and_comm]) (fun k ha hb => ?_) hs.2.1 (by omega) t.toNat]
  · omega
  · suffices hz : occ r k = false by simp [hz]
    rw [Bool.eq_false_iff]
    intro hx
    simp only [occ, List.any_eq_true, Bool.and_eq_true, decide_eq_true_eq] at hx
    obtain ⟨x, hx, hx1, hx2⟩ := hx
    have := h1 x hx
    omega
end Go.Proofs.YtmfcccflohpjiaaGreatDoor
