/- Tables: Same; small functions: Need, Size, within, epochs, sized. -/
import Derived.Test.YtoaieodcdbbndaaTabD
namespace Go.Proofs.Ytoaieodcdbbndaa
set_option linter.unusedVariables false
set_option linter.unusedSimpArgs false
open Go.RowKit

theorem D_two {P : Program} {md : Region.Mode} {ops : Array Oper} {Q : Exit → Act → World → Prop} {S : World → Prop} {a : Act} {w : World} {listed : Array Bool} {fuel : Nat} (i j : Nat) {oi oj : Oper} (hi : ops[i]? = some oi) (hj : ops[j]? = some oj) (hr : Region.ready md ops listed = [i, j]) (hwi : Region.wanted oi (yielded ops a.tmps) = true) (hwj : Region.wanted oj (yielded ops a.tmps) = true)
    (h1 : oi.wp P a w (fun a' w' => S w' ∧ wpAnyH P md ops Q S fuel (listed.setIfInBounds i true) a' w') Q) (h2 : oj.wp P a w (fun a' w' => S w' ∧ wpAnyH P md ops Q S fuel (listed.setIfInBounds j true) a' w') Q) : wpAnyH P md ops Q S (fuel + 1) listed a w := by
  refine wpAnyH_all hr (by simp) fun k hk => ?_
  rcases List.mem_cons.1 hk with rfl | hk
  · unfold wpOp
    rw [hi]
    simp only [hwi, if_true]
    exact .inl h1
  · obtain rfl := List.mem_singleton.1 hk
    unfold wpOp
    rw [hj]
    simp only [hwj, if_true]
    exact .inl h2
theorem info7row (t : Tab) (bv : Value) : (#[Value.int .i64 t.epoch, .int .i64 t.old, .int .i64 t.phase, .int .i64 t.mode, .int .i64 t.next, .int .i64 t.gen, bv] : Array Value).size = 7 := rfl
set_option maxRecDepth 100000 in
set_option maxHeartbeats 1000000 in
theorem refSame_any (t u : Tab) (bv cv : Value) (ps qs : List BV) (w0 : World) (hps : ps.map (·.2) = t.bs) (hb : BsR w0 bv ps) (hn : ps.length ≤ 1000) (hf : ∀ b ∈ t.bs, b.Fit)
    (hqs : qs.map (·.2) = u.bs) (hc : BsR w0 cv qs) (hm : qs.length ≤ 1000) (hg : ∀ b ∈ u.bs, b.Fit) (he : encTab t = encTab u) :
    Calls Try.prog 21 #[tabV t bv, tabV u cv] w0 fun e w' => e = .returned (.bool true) ∧ Ext0 w0 w' := by
  have H : SH (fun _ => False) w0 w0 [] := SH.nil _ _
  have hc1 := fun {W : World} (h : Ext0 w0 W) => refEncode_any t bv ps W hps (hb.keep h) hn hf
  have hc2 := fun {W : World} (h : Ext0 w0 W) => refEncode_any u cv qs W hqs (hc.keep h) hm hg
  rw [← he] at hc2
  generalize encTab t = out at *
  obtain ⟨st, hst⟩ : ∃ st, strOfNums out = st := ⟨_, rfl⟩
  have HST := Lib.hid hst
  clear hst he hb hc hps hqs
  obtain ⟨a1, a2, a3, a4, a5, a6, abs⟩ := t
  obtain ⟨b1, b2, b3, b4, b5, b6, bbs⟩ := u
  simp only [tabV] at hc1 hc2 ⊢
  go_enter Try.func21, Try.ntmps21
  go_wp2_with (first | (refine L_box rfl rfl H rfl rfl ?_; clear H; intro g w H; (try simp only [Act.eval, Array.getD_eq_getD_getElem?, List.getElem?_toArray, List.getElem?_cons_succ, List.getElem?_cons_zero, Option.getD_some, Value.cells] at H); (try simp only [Act.put, List.setIfInBounds_toArray, List.set_cons_succ, List.set_cons_zero, List.getElem_toArray, List.getElem_cons_succ, List.getElem_cons_zero])))
  refine D_start H (by kernel_rfl) (fun hS => ?_)
  try simp only [Act.put, List.setIfInBounds_toArray, List.set_cons_succ, List.set_cons_zero]
  refine D_take 0 (v := (.agg #[.int .i64 a1, .int .i64 a2, .int .i64 a3, .int .i64 a4, .int .i64 a5, .int .i64 a6, bv])) rfl (by kernel_rfl) (by kernel_rfl) (by kernel_rfl) (fun _ _ _ h => h) rfl (by rfl) (fun W hS => R_loadrow (ty := 24) (x := .tmp 2) rfl hS 1 rfl rfl Try.underlying24 rfl info24 rfl) hS ?_; (try simp only [List.set_cons_succ, List.set_cons_zero])
  refine D_take 3 (v := (.agg #[.int .i64 b1, .int .i64 b2, .int .i64 b3, .int .i64 b4, .int .i64 b5, .int .i64 b6, cv])) rfl (by kernel_rfl) (by kernel_rfl) (by kernel_rfl) (fun _ _ _ h => h) rfl (by rfl) (fun W hS => R_loadrow (ty := 24) (x := .tmp 3) rfl hS 0 rfl rfl Try.underlying24 rfl info24 rfl) hS ?_; (try simp only [List.set_cons_succ, List.set_cons_zero])
  refine D_one 1 rfl (by kernel_rfl) (by rfl) ?_
  refine R_call (f := 18) (args := #[.agg #[.int .i64 a1, .int .i64 a2, .int .i64 a3, .int .i64 a4, .int .i64 a5, .int .i64 a6, bv]]) (by first | (go_simp; done) | (go_simp; rfl)) (hc1 hS.ext) ?_
  rintro e w ⟨v1, rfl, hv1, hE⟩
  have hS2 := hS.calls hE
  clear hS
  have hS := hS2
  clear hS2 hE
  refine ⟨_, rfl, hS, ?_⟩
  try simp only [Act.put, List.getElem_toArray, List.getElem_cons_succ, List.getElem_cons_zero, List.setIfInBounds_toArray, List.set_cons_succ, List.set_cons_zero]
  refine D_two 2 4 rfl rfl (by kernel_rfl) (by rfl) (by rfl) ?_ ?_
  ·
    refine wp_of_value (v := .string st) (R_convert (src := 34) (dst := 9) (x := .tmp 6) rfl rfl (by rw [← HST.out]; exact run_string hv1 Try.underlying34 Try.underlying5 Try.underlying9)) ⟨hS, ?_⟩
    try simp only [Act.put, List.getElem_toArray, List.getElem_cons_succ, List.getElem_cons_zero, List.setIfInBounds_toArray, List.set_cons_succ, List.set_cons_zero]
    refine D_one 4 rfl (by kernel_rfl) (by rfl) ?_
    refine R_call (f := 18) (args := #[.agg #[.int .i64 b1, .int .i64 b2, .int .i64 b3, .int .i64 b4, .int .i64 b5, .int .i64 b6, cv]]) (by first | (go_simp; done) | (go_simp; rfl)) (hc2 hS.ext) ?_
    rintro e w ⟨v2, rfl, hv2, hE⟩
    replace hv1 := hv1.keep hE
    have hS2 := hS.calls hE
    clear hS
    have hS := hS2
    clear hS2 hE
    refine ⟨_, rfl, hS, ?_⟩
    try simp only [Act.put, List.getElem_toArray, List.getElem_cons_succ, List.getElem_cons_zero, List.setIfInBounds_toArray, List.set_cons_succ, List.set_cons_zero]
    refine D_one 5 rfl (by kernel_rfl) (by rfl) ?_
    refine wp_of_value (v := .string st) (R_convert (src := 34) (dst := 9) (x := .tmp 9) rfl rfl (by rw [← HST.out]; exact run_string hv2 Try.underlying34 Try.underlying5 Try.underlying9)) ⟨hS, ?_⟩
    try simp only [Act.put, List.getElem_toArray, List.getElem_cons_succ, List.getElem_cons_zero, List.setIfInBounds_toArray, List.set_cons_succ, List.set_cons_zero]
    refine D_take 6 (v := (.bool true)) rfl (by kernel_rfl) (by kernel_rfl) (by kernel_rfl) (fun _ _ _ h => h) rfl (by rfl) (fun W hS => by first | (go_simp; done) | (go_simp; rfl)) hS ?_; (try simp only [List.set_cons_succ, List.set_cons_zero])
    refine D_take 7 (v := ?_) rfl (by kernel_rfl) (by kernel_rfl) (by kernel_rfl) (fun _ _ _ h => h) rfl (by rfl) (fun W hS => ?_) hS ?_
    rotate_left; (focus (first | (go_simp; done) | (go_simp; with_reducible rfl) | (go_simp; rfl))); all_goals skip; (try simp only [List.set_cons_succ, List.set_cons_zero])
    refine wpAnyH_done (by kernel_rfl) ?_ _
    go_wp2_with fail
    go_ret
    exact ⟨rfl, hS.ext⟩
  ·
    refine R_call (f := 18) (args := #[.agg #[.int .i64 b1, .int .i64 b2, .int .i64 b3, .int .i64 b4, .int .i64 b5, .int .i64 b6, cv]]) (by first | (go_simp; done) | (go_simp; rfl)) (hc2 hS.ext) ?_
    rintro e w ⟨v2, rfl, hv2, hE⟩
    replace hv1 := hv1.keep hE
    have hS2 := hS.calls hE
    clear hS
    have hS := hS2
    clear hS2 hE
    refine ⟨_, rfl, hS, ?_⟩
    try simp only [Act.put, List.getElem_toArray, List.getElem_cons_succ, List.getElem_cons_zero, List.setIfInBounds_toArray, List.set_cons_succ, List.set_cons_zero]
    refine D_two 2 5 rfl rfl (by kernel_rfl) (by rfl) (by rfl) ?_ ?_
    ·
      refine wp_of_value (v := .string st) (R_convert (src := 34) (dst := 9) (x := .tmp 6) rfl rfl (by rw [← HST.out]; exact run_string hv1 Try.underlying34 Try.underlying5 Try.underlying9)) ⟨hS, ?_⟩
      try simp only [Act.put, List.getElem_toArray, List.getElem_cons_succ, List.getElem_cons_zero, List.setIfInBounds_toArray, List.set_cons_succ, List.set_cons_zero]
      refine D_one 5 rfl (by kernel_rfl) (by rfl) ?_
      refine wp_of_value (v := .string st) (R_convert (src := 34) (dst := 9) (x := .tmp 9) rfl rfl (by rw [← HST.out]; exact run_string hv2 Try.underlying34 Try.underlying5 Try.underlying9)) ⟨hS, ?_⟩
      try simp only [Act.put, List.getElem_toArray, List.getElem_cons_succ, List.getElem_cons_zero, List.setIfInBounds_toArray, List.set_cons_succ, List.set_cons_zero]
      refine D_take 6 (v := (.bool true)) rfl (by kernel_rfl) (by kernel_rfl) (by kernel_rfl) (fun _ _ _ h => h) rfl (by rfl) (fun W hS => by first | (go_simp; done) | (go_simp; rfl)) hS ?_; (try simp only [List.set_cons_succ, List.set_cons_zero])
      refine D_take 7 (v := ?_) rfl (by kernel_rfl) (by kernel_rfl) (by kernel_rfl) (fun _ _ _ h => h) rfl (by rfl) (fun W hS => ?_) hS ?_
      rotate_left; (focus (first | (go_simp; done) | (go_simp; with_reducible rfl) | (go_simp; rfl))); all_goals skip; (try simp only [List.set_cons_succ, List.set_cons_zero])
      refine wpAnyH_done (by kernel_rfl) ?_ _
      go_wp2_with fail
      go_ret
      exact ⟨rfl, hS.ext⟩
    ·
      refine wp_of_value (v := .string st) (R_convert (src := 34) (dst := 9) (x := .tmp 9) rfl rfl (by rw [← HST.out]; exact run_string hv2 Try.underlying34 Try.underlying5 Try.underlying9)) ⟨hS, ?_⟩
      try simp only [Act.put, List.getElem_toArray, List.getElem_cons_succ, List.getElem_cons_zero, List.setIfInBounds_toArray, List.set_cons_succ, List.set_cons_zero]
      refine D_one 2 rfl (by kernel_rfl) (by rfl) ?_
      refine wp_of_value (v := .string st) (R_convert (src := 34) (dst := 9) (x := .tmp 6) rfl rfl (by rw [← HST.out]; exact run_string hv1 Try.underlying34 Try.underlying5 Try.underlying9)) ⟨hS, ?_⟩
      try simp only [Act.put, List.getElem_toArray, List.getElem_cons_succ, List.getElem_cons_zero, List.setIfInBounds_toArray, List.set_cons_succ, List.set_cons_zero]
      refine D_take 6 (v := (.bool true)) rfl (by kernel_rfl) (by kernel_rfl) (by kernel_rfl) (fun _ _ _ h => h) rfl (by rfl) (fun W hS => by first | (go_simp; done) | (go_simp; rfl)) hS ?_; (try simp only [List.set_cons_succ, List.set_cons_zero])
      refine D_take 7 (v := ?_) rfl (by kernel_rfl) (by kernel_rfl) (by kernel_rfl) (fun _ _ _ h => h) rfl (by rfl) (fun W hS => ?_) hS ?_
      rotate_left; (focus (first | (go_simp; done) | (go_simp; with_reducible rfl) | (go_simp; rfl))); all_goals skip; (try simp only [List.set_cons_succ, List.set_cons_zero])
      refine wpAnyH_done (by kernel_rfl) ?_ _
      go_wp2_with fail
      go_ret
      exact ⟨rfl, hS.ext⟩

/-! ### Small functions -/
theorem need_any (n : Int) (w : World) (h0 : -9223372036854775808 ≤ n) (h1 : n ≤ 9223372036854775807) : Calls Try.prog 15 #[.int .i64 n] w fun e w' => e = .returned (.int .i64 (needP n)) ∧ w' = w := by
  by_cases h : n ≤ 0
  · have hn : needP n = 0 := by unfold needP; rw [if_pos h]
    rw [hn]
    go_enter Try.func15, Try.ntmps15
    go_wp2
    go_ret
    exact ⟨rfl, rfl⟩
  · have hn : needP n = (n - 1).tdiv 32 + 1 := by unfold needP; rw [if_neg h, Int.tdiv_eq_ediv_of_nonneg (by omega)]
    have hw1 : IntKind.i64.wrap (n - 1) = n - 1 := by rw [IntKind.wrap_i64]; omega
    have hd := Int.tdiv_eq_ediv_of_nonneg (show 0 ≤ n - 1 by omega) (b := 32)
    have hw2 : IntKind.i64.wrap ((n - 1).tdiv 32 + 1) = (n - 1).tdiv 32 + 1 := by rw [IntKind.wrap_i64, hd]; omega
    rw [hn]
    go_enter Try.func15, Try.ntmps15
    go_wp2
    go_ret
    exact ⟨by simp [hw1, hw2], rfl⟩
theorem refNeed_any (n : Int) (w : World) (h0 : -9223372036854775808 ≤ n) (h1 : n ≤ 9223372036854775807) : Calls Try.prog 16 #[.int .i64 n] w fun e w' => e = .returned (.int .i64 (needP n)) ∧ w' = w := by
  by_cases h : n < 0
  · have hn : needP n = 0 := by unfold needP; rw [if_pos (by omega)]
    rw [hn]
    go_enter Try.func16, Try.ntmps16
    go_wp2
    go_ret
    exact ⟨rfl, rfl⟩
  · have hd := Int.tdiv_eq_ediv_of_nonneg (show 0 ≤ n by omega) (b := 32)
    have hm := Int.tmod_eq_emod_of_nonneg (show 0 ≤ n by omega) (b := 32)
    by_cases h2 : 0 < n % 32
    · have hn : needP n = n / 32 + 1 := by unfold needP; rw [if_neg (by omega)]; omega
      rw [hn]
      go_enter Try.func16, Try.ntmps16
      go_wp2
      go_ret
      exact ⟨rfl, rfl⟩
    · have hn : needP n = n / 32 := by unfold needP; split <;> omega
      rw [hn]
      go_enter Try.func16, Try.ntmps16
      go_wp2
      go_ret
      exact ⟨rfl, rfl⟩
theorem within_any (n lo hi : Int) (w : World) : Calls Try.prog 29 #[.int .i64 n, .int .i64 lo, .int .i64 hi] w fun e w' => e = .returned (.bool (decide (lo ≤ n ∧ n ≤ hi))) ∧ w' = w := by
  by_cases h1 : lo ≤ n
  · by_cases h2 : n ≤ hi
    · have hd : decide (lo ≤ n ∧ n ≤ hi) = true := by simp [h1, h2]
      rw [hd]
      clear hd
      go_enter Try.func29, Try.ntmps29
      go_wp2
      go_ret
      exact ⟨rfl, rfl⟩
    · have hd : decide (lo ≤ n ∧ n ≤ hi) = false := by simp [h2]
      rw [hd]
      clear hd
      go_enter Try.func29, Try.ntmps29
      go_wp2
      go_ret
      exact ⟨rfl, rfl⟩
  · have hd : decide (lo ≤ n ∧ n ≤ hi) = false := by simp [h1]
    rw [hd]
    clear hd
    go_enter Try.func29, Try.ntmps29
    go_wp2
    go_ret
    exact ⟨rfl, rfl⟩
theorem size0 (w : World) : Calls Try.prog 56 #[.int .i64 0] w fun e w' => e = .returned (.int .i64 88) ∧ w' = w := by
  go_enter Try.func56, Try.ntmps56
  go_wp2
  go_ret
  exact ⟨rfl, rfl⟩
theorem size1025 (w : World) : Calls Try.prog 56 #[.int .i64 1025] w fun e w' => e = .returned (.int .i64 1112) ∧ w' = w := by
  go_enter Try.func56, Try.ntmps56
  go_wp2
  go_ret
  exact ⟨rfl, rfl⟩
def sizedP (n : Int) : Prop := 88 ≤ n ∧ n ≤ 1112 ∧ (n - 88) % 16 = 0
instance (n : Int) : Decidable (sizedP n) := inferInstanceAs (Decidable (_ ∧ _ ∧ _))
theorem sized_any (n : Int) (w : World) : Calls Try.prog 30 #[.int .i64 n] w fun e w' => e = .returned (.bool (decide (sizedP n))) ∧ w' = w := by
  have H : SH (fun _ => False) w w [] := SH.nil _ _
  by_cases h1 : 88 ≤ n
  · by_cases h2 : n ≤ 1112
    · have hm := Int.tmod_eq_emod_of_nonneg (show 0 ≤ n - 88 by omega) (b := 16)
      by_cases h3 : (n - 88) % 16 = 0
      · have hd : decide (sizedP n) = true := by simp [sizedP, h1, h2, h3]
        rw [hd]
        clear hd
        go_enter Try.func30, Try.ntmps30
        go_wp2_with (first
          | (go_at_call_of 56 (Value.int IntKind.i64 0); refine (size0 _).mono ?_; rintro e w' ⟨rfl, rfl⟩)
          | (go_at_call_of 56 (Value.int IntKind.i64 1025); refine (size1025 _).mono ?_; rintro e w' ⟨rfl, rfl⟩))
        go_ret
        exact ⟨rfl, rfl⟩
      · have hd : decide (sizedP n) = false := by simp [sizedP, h3]
        have h3b : ((n - 88) % 16 == 0) = false := by simp [h3]
        rw [hd]
        clear hd
        go_enter Try.func30, Try.ntmps30
        go_wp2_with (first
          | (go_at_call_of 56 (Value.int IntKind.i64 0); refine (size0 _).mono ?_; rintro e w' ⟨rfl, rfl⟩)
          | (go_at_call_of 56 (Value.int IntKind.i64 1025); refine (size1025 _).mono ?_; rintro e w' ⟨rfl, rfl⟩))
        go_ret
        exact ⟨rfl, rfl⟩
    · have hd : decide (sizedP n) = false := by simp [sizedP, h2]
      rw [hd]
      clear hd
      go_enter Try.func30, Try.ntmps30
      go_wp2_with (first
        | (go_at_call_of 56 (Value.int IntKind.i64 0); refine (size0 _).mono ?_; rintro e w' ⟨rfl, rfl⟩)
        | (go_at_call_of 56 (Value.int IntKind.i64 1025); refine (size1025 _).mono ?_; rintro e w' ⟨rfl, rfl⟩))
      go_ret
      exact ⟨rfl, rfl⟩
  · have hd : decide (sizedP n) = false := by simp [sizedP, h1]
    rw [hd]
    clear hd
    go_enter Try.func30, Try.ntmps30
    go_wp2_with (first
      | (go_at_call_of 56 (Value.int IntKind.i64 0); refine (size0 _).mono ?_; rintro e w' ⟨rfl, rfl⟩))
    go_ret
    exact ⟨rfl, rfl⟩
end Go.Proofs.Ytoaieodcdbbndaa
