/- Spans: the document's Good, Free, Holes, Find walked. -/
import Derived.Test.YtjdfeagjbhdceaaSpaceG
import Derived.Test.YtjdfeagjbhdceaaSpaceJ
namespace Go.Proofs.Ytjdfeagjbhdceaa
set_option linter.unusedVariables false
set_option linter.unusedSimpArgs false
open Go.RowKit Go.Shelf

set_option maxHeartbeats 1000000 in
theorem refGood_any (sv : Value) (xs : List Sp) (t : Int) (w0 : World) (hlen : xs.length ≤ 1000) (hr : RdS Sp.cells 2 w0 sv xs) (ht0 : 0 ≤ t) (ht : t ≤ 4096) (hsm : Small xs) :
    Calls Try.prog 17 #[sv, .int .i64 t] w0 fun e w' => e = .returned (.bool (goodB xs t)) ∧ Ext0 w0 w' := by
  have htk := taken_any sv xs t w0 hlen hr ht0 ht hsm
  obtain ⟨q, hq⟩ : ∃ q, goodB xs t = q := ⟨_, rfl⟩
  rw [hq]
  have HQ := Lib.hid hq
  clear hq
  go_enter Try.func17, Try.ntmps17
  go_wp2_with (go_at_call 46; refine htk.mono ?_; rintro e w ⟨⟨v, b, rfl, hb, _⟩, hE⟩)
  go_ret
  exact ⟨by rw [← HQ.out, ← hb]; rfl, hE⟩

def CfRel (oc : Int → Bool) (n : Nat) (wS : World) (vn vi : Value) (wr : World) : Prop :=
  ∃ k : Nat, vn = .int .i64 (cnt (fun k => !oc k) k) ∧ vi = .int .i64 (k : Int) ∧ k ≤ n ∧ wr = wS
set_option maxRecDepth 100000 in
set_option maxHeartbeats 4000000 in
theorem refFree_any (sv : Value) (xs : List Sp) (t : Int) (w0 : World) (hlen : xs.length ≤ 1000) (hr : RdS Sp.cells 2 w0 sv xs) (ht0 : 0 ≤ t) (ht : t ≤ 4096) (hsm : Small xs) :
    Calls Try.prog 22 #[sv, .int .i64 t] w0 fun e w' => e = .returned (.int .i64 (freeL xs t)) ∧ Ext0 w0 w' := by
  have htk := taken_any sv xs t w0 hlen hr ht0 ht hsm
  obtain ⟨fr, hfr⟩ : ∃ fr, freeL xs t = fr := ⟨_, rfl⟩
  rw [hfr]
  have HF := Lib.hid hfr
  clear hfr
  go_enter Try.func22, Try.ntmps22
  go_wp2_with (go_at_call 46; refine htk.mono ?_; rintro e w ⟨⟨v, b, rfl, hb, hv⟩, hE⟩; rcases hv with ⟨rfl, rfl⟩ | ⟨rfl, g, rfl, hg⟩)
  · have HE := Lib.hid (And.intro hb hE)
    clear hb hE htk
    go_loopw [7, 8] (fun vn vi wr => vn = .int .i64 0 ∧ vi = .int .i64 0 ∧ wr = w) (fun _ _ _ => 0)
    case atStart => exact ⟨rfl, rfl, rfl⟩
    case round =>
      obtain ⟨rfl, rfl, rfl⟩ := hrel
      go_wp2
      go_ret
      refine ⟨?_, HE.out.2⟩
      rw [← HF.out, freeL, ← HE.out.1]
      rfl
  · have HE := Lib.hid (And.intro hb hE)
    clear hb hE htk
    obtain ⟨n, hn⟩ : ∃ n : Nat, t.toNat = n := ⟨_, rfl⟩
    rw [hn] at hg ⊢
    have hn4 : n ≤ 4096 := by omega
    have HN := Lib.hid hn
    clear hn
    go_loopw [7, 8] (fun vn vi wr => CfRel (occ xs) n w vn vi wr) (fun _ vi _ => n - (intOf vi).toNat)
    case atStart => exact ⟨0, rfl, rfl, Nat.zero_le _, rfl⟩
    case round =>
      obtain ⟨k, rfl, rfl, hk, rfl⟩ := hrel
      obtain ⟨c0, hc0⟩ : ∃ c0, cnt (fun k => !occ xs k) k = c0 := ⟨_, rfl⟩
      have hr0 := cnt_range (fun k => !occ xs k) k
      rw [hc0] at hr0 ⊢
      have HC := Lib.hid hc0
      clear hc0
      by_cases hkn : k < n
      · have hki : (k : Int) < (n : Int) := by omega
        have hcg := cell_of_row _ g k _ _ _ hg
        rw [bools_at _ _ _ hkn] at hcg
        have hst : cnt (fun k => !occ xs k) (k + 1) = c0 + (if (!occ xs k) = true then 1 else 0) := by rw [cnt, HC.out]
        have HS := Lib.hid hst
        clear hst
        cases hq : occ xs (k : Int)
        · rw [hq] at hcg HS
          go_wp2
          refine ⟨⟨k + 1, by rw [HS.out]; rfl, by go_num, hkn, rfl⟩, ?_⟩
          simp [intOf]; omega
        · rw [hq] at hcg HS
          go_wp2
          refine ⟨⟨k + 1, by rw [HS.out]; simp, by go_num, hkn, rfl⟩, ?_⟩
          simp [intOf]; omega
      · obtain rfl : k = n := by omega
        go_wp2
        go_ret
        refine ⟨?_, HE.out.2⟩
        rw [← HF.out, freeL, ← HE.out.1, HN.out, HC.out]
        rfl

/-- A cell of a row of one's own stored. -/
theorem own_set {w : World} {base g n cap n' j k : Nat} {T : TypeId} {xs : List Value} (u : Value) (h : w.ownsRow base T k (.slice (some ⟨g, 0, none⟩) n cap) n' xs) (hj : j < n' * k) : (w.setCell ⟨g, j, none⟩ u).ownsRow base T k (.slice (some ⟨g, 0, none⟩) n cap) n' (xs.set j u) := by
  obtain ⟨hl, ⟨h0, _⟩ | ⟨g', cap', cur, he, hb, hg, h1, h2, h3, h4⟩⟩ := h
  · cases h0
  · cases he
    refine ⟨by simpa using hl, .inr ⟨g, cap, _, rfl, hb, heap_setCell_same w g j cur T u hg, h1, h2, by simpa using h3, ?_⟩⟩
    rw [← h4]
    apply List.ext_getElem?
    intro i
    rw [Array.toList_setIfInBounds, List.getElem?_take, List.getElem?_set, List.getElem?_set, List.getElem?_take]
    by_cases hij : j = i
    · subst hij
      have hjc : j < cur.size := by rw [h3]; exact Nat.lt_of_lt_of_le hj (Nat.mul_le_mul_right k h1)
      simp [hj, hjc]
      try omega
    · simp [hij]
theorem cells_setLen (ini : List Sp) (l : Sp) (x : Int) : (cellsOf Sp.cells (ini ++ [l])).set (ini.length * 2 + 1) (.int .i64 x) = cellsOf Sp.cells (ini ++ [⟨l.at_, x⟩]) := by
  rw [cellsOf_append, cellsOf_append, cellsOf_one, cellsOf_one]
  have hl := length_cellsOf Sp.clen ini
  rw [List.set_append_right _ _ (by omega), hl, show ini.length * 2 + 1 - ini.length * 2 = 1 by omega]
  rfl

theorem own_cell {w : World} {base g cap : Nat} {T : TypeId} {ini : List Sp} {l : Sp} (h : w.ownsRow base T 2 (.slice (some ⟨g, 0, none⟩) (ini.length + 1) cap) (ini.length + 1) (cellsOf Sp.cells (ini ++ [l]))) :
    w.cell? ⟨g, ini.length * 2, none⟩ = some (.int .i64 l.at_) ∧ w.cell? ⟨g, ini.length * 2 + 1, none⟩ = some (.int .i64 l.len) ∧ w.frozen? ⟨g, ini.length * 2 + 1, none⟩ = false := by
  have hr : RdS Sp.cells 2 w (.slice (some ⟨g, 0, none⟩) (ini.length + 1) cap) (ini ++ [l]) := RdS.own Sp.clen (by simp) h
  have h2 := hr.cellAt (j := ini.length) (s := l) (by simp) (by simp)
  rw [Nat.zero_add] at h2
  refine ⟨h2.1, h2.2, ?_⟩
  obtain ⟨_, ⟨h0, _⟩ | ⟨g', cap', cur, he, _, hg, _⟩⟩ := h
  · cases h0
  · cases he
    exact frozen_of_row w g _ cur T hg
def RhRel (oc : Int → Bool) (n : Nat) (wS : World) (vo vi : Value) (wr : World) : Prop :=
  ∃ (k : Nat) (out : List Sp), vi = .int .i64 (k : Int) ∧ k ≤ n ∧ out.length ≤ k ∧ Hid (run oc k 0 [] = out) ∧ SH (fun _ => False) wS wr [ownA 34 2 vo out.length (cellsOf Sp.cells out)]
theorem run_len (oc : Int → Bool) : ∀ n : Nat, (run oc n 0 []).length ≤ n
  | 0 => by simp [run]
  | n + 1 => by
    have ih := run_len oc n
    rw [run_succ]
    unfold step
    split
    · omega
    · split
      · split
        · simp; omega
        · simp; omega
      · simp; omega

set_option maxRecDepth 100000 in
set_option maxHeartbeats 8000000 in
theorem refHoles_any (sv : Value) (xs : List Sp) (t : Int) (w0 : World) (hlen : xs.length ≤ 1000) (hr : RdS Sp.cells 2 w0 sv xs) (ht0 : 0 ≤ t) (ht : t ≤ 4096) (hsm : Small xs) :
    Calls Try.prog 20 #[sv, .int .i64 t] w0 fun e w' => (∃ v, e = .returned v ∧ RdS Sp.cells 2 w' v (holesL xs t)) ∧ Ext0 w0 w' := by
  have htk := taken_any sv xs t w0 hlen hr ht0 ht hsm
  obtain ⟨n, hn⟩ : ∃ n : Nat, t.toNat = n := ⟨_, rfl⟩
  obtain rfl : t = (n : Int) := by omega
  have hn4 : n ≤ 4096 := by omega
  clear hn
  obtain ⟨hs, hhs⟩ : ∃ hs, holesL xs n = hs := ⟨_, rfl⟩
  rw [hhs]
  have HH := Lib.hid hhs
  clear hhs
  go_enter Try.func20, Try.ntmps20
  go_wp2_with (go_at_call 46; refine htk.mono ?_; rintro e w ⟨⟨v, b, rfl, hb, hv⟩, hE⟩; have HE := Lib.hid (And.intro hb hE); have H := (((SH.nil (fun _ => False) w).alloc (.cells #[] 34)).toOwn 0 rfl 2 0 0 (Nat.le_refl _) (Nat.zero_le _) rfl [] rfl); simp only [List.set_cons_zero] at H; clear hb hE htk; rcases hv with ⟨rfl, rfl⟩ | ⟨rfl, g, rfl, hg⟩)
  · go_loopw [7, 8, 9] (fun vo vi _ wr => vo = .slice (some ⟨w.heap.size, 0, none⟩) 0 0 ∧ vi = .int .i64 0 ∧ wr = w.alloc (.cells #[] 34)) (fun _ _ _ _ => 0)
    case atStart => exact ⟨rfl, rfl, rfl⟩
    case round =>
      obtain ⟨rfl, rfl, rfl⟩ := hrel
      go_wp2
      all_goals
        go_ret
        refine ⟨⟨_, rfl, ?_⟩, HE.out.2.trans0 H.ext⟩
        rw [← HH.out, holesL, ← HE.out.1]
        exact RdS.own (xs := []) Sp.clen rfl (H.get 0 rfl)
  · simp only [Int.toNat_natCast] at hg ⊢
    go_loopw [7, 8, 9] (fun vo vi _ wr => RhRel (occ xs) n w vo vi wr) (fun _ vi _ _ => n - (intOf vi).toNat)
    case atStart => exact ⟨0, [], rfl, Nat.zero_le _, Nat.le_refl _, Lib.hid rfl, H⟩
    case round =>
      clear H
      obtain ⟨k, out, rfl, hk, hol, HR, H⟩ := hrel
      by_cases hkn : k < n
      · have hki : (k : Int) < (n : Int) := by omega
        have hcg := cell_of_row _ g k _ _ _ (H.ext.block0 hg)
        rw [bools_at _ _ _ hkn] at hcg
        have hstep := run_succ (occ xs) k []
        rw [HR.out] at hstep
        have hokr := holeOk_run (occ xs) k
        rw [HR.out] at hokr
        obtain ⟨oc, hoc⟩ : ∃ oc, occ xs (k : Int) = oc := ⟨_, rfl⟩
        rw [hoc] at hcg
        have HO := Lib.hid hoc
        have HST := Lib.hid (And.intro hstep hokr)
        clear hoc hstep hokr
        cases oc
        · rcases List.eq_nil_or_concat out with hnil | ⟨ini, l, hcat⟩
          · have hlast : ∃ A cap, u7 = .slice A 0 cap := by
              obtain ⟨A, cap, h, _⟩ := (RdS.own Sp.clen rfl (H.get 0 rfl)).len
              exact ⟨A, cap, by rw [h, hnil]; rfl⟩
            obtain ⟨A, cap, rfl⟩ := hlast
            have hnb : (out.length + [(⟨(k : Int), 1⟩ : Sp)].length) * 16 ≤ 140737488355328 := by simp only [List.length_cons, List.length_nil]; omega
            have hnm : out.length + [(⟨(k : Int), 1⟩ : Sp)].length ≤ maxLen := by simp only [maxLen, List.length_cons, List.length_nil]; omega
            have HN := Lib.hid hnil
            clear hnil
            go_wp2_with fail
            refine D_start H (by kernel_rfl) (fun hS => ?_)
            try simp only [Act.put, List.setIfInBounds_toArray, List.set_cons_succ, List.set_cons_zero]
            refine D_take 0 (v := ?_) rfl (by kernel_rfl) (by kernel_rfl) (by kernel_rfl) (fun _ _ _ h => h) rfl (by rfl) (fun W hS => ?_) hS ?_
            rotate_left; (focus (first | (go_simp; done) | (go_simp; with_reducible rfl) | (go_simp; rfl))); all_goals skip; (try simp only [List.set_cons_succ, List.set_cons_zero])
            refine D_take 1 (v := ?_) rfl (by kernel_rfl) (by kernel_rfl) (by kernel_rfl) (fun _ _ _ h => h) rfl (by rfl) (fun W hS => ?_) hS ?_
            rotate_left; (focus (first | (go_simp; done) | (go_simp; with_reducible rfl) | (go_simp; rfl))); all_goals skip; (try simp only [List.set_cons_succ, List.set_cons_zero])
            refine D_take 2 (v := ?_) rfl (by kernel_rfl) (by kernel_rfl) (by kernel_rfl) (fun _ _ _ h => h) rfl (by rfl) (fun W hS => ?_) hS ?_
            rotate_left; (focus (first | (go_simp; done) | (go_simp; with_reducible rfl) | (go_simp; rfl))); all_goals skip; (try simp only [List.set_cons_succ, List.set_cons_zero])
            refine D_skip 3 rfl (by kernel_rfl) (by kernel_rfl) (by kernel_rfl) (fun _ _ _ h => h) rfl (by rfl) hS ?_; (try simp only [List.set_cons_succ, List.set_cons_zero])
            refine D_skip 4 rfl (by kernel_rfl) (by kernel_rfl) (by kernel_rfl) (fun _ _ _ h => h) rfl (by rfl) hS ?_; (try simp only [List.set_cons_succ, List.set_cons_zero])
            refine D_skip 5 rfl (by kernel_rfl) (by kernel_rfl) (by kernel_rfl) (fun _ _ _ h => h) rfl (by rfl) hS ?_; (try simp only [List.set_cons_succ, List.set_cons_zero])
            refine D_skip 6 rfl (by kernel_rfl) (by kernel_rfl) (by kernel_rfl) (fun _ _ _ h => h) rfl (by rfl) hS ?_; (try simp only [List.set_cons_succ, List.set_cons_zero])
            refine D_skip 7 rfl (by kernel_rfl) (by kernel_rfl) (by kernel_rfl) (fun _ _ _ h => h) rfl (by rfl) hS ?_; (try simp only [List.set_cons_succ, List.set_cons_zero])
            refine D_skip 8 rfl (by kernel_rfl) (by kernel_rfl) (by kernel_rfl) (fun _ _ _ h => h) rfl (by rfl) hS ?_; (try simp only [List.set_cons_succ, List.set_cons_zero])
            refine D_skip 9 rfl (by kernel_rfl) (by kernel_rfl) (by kernel_rfl) (fun _ _ _ h => h) rfl (by rfl) hS ?_; (try simp only [List.set_cons_succ, List.set_cons_zero])
            refine D_skip 10 rfl (by kernel_rfl) (by kernel_rfl) (by kernel_rfl) (fun _ _ _ h => h) rfl (by rfl) hS ?_; (try simp only [List.set_cons_succ, List.set_cons_zero])
            refine D_skip 11 rfl (by kernel_rfl) (by kernel_rfl) (by kernel_rfl) (fun _ _ _ h => h) rfl (by rfl) hS ?_; (try simp only [List.set_cons_succ, List.set_cons_zero])
            refine D_skip 12 rfl (by kernel_rfl) (by kernel_rfl) (by kernel_rfl) (fun _ _ _ h => h) rfl (by rfl) hS ?_; (try simp only [List.set_cons_succ, List.set_cons_zero])
            refine D_skip 13 rfl (by kernel_rfl) (by kernel_rfl) (by kernel_rfl) (fun _ _ _ h => h) rfl (by rfl) hS ?_; (try simp only [List.set_cons_succ, List.set_cons_zero])
            refine D_skip 14 rfl (by kernel_rfl) (by kernel_rfl) (by kernel_rfl) (fun _ _ _ h => h) rfl (by rfl) hS ?_; (try simp only [List.set_cons_succ, List.set_cons_zero])
            refine D_skip 15 rfl (by kernel_rfl) (by kernel_rfl) (by kernel_rfl) (fun _ _ _ h => h) rfl (by rfl) hS ?_; (try simp only [List.set_cons_succ, List.set_cons_zero])
            refine D_take 16 (v := ?_) rfl (by kernel_rfl) (by kernel_rfl) (by kernel_rfl) (fun _ _ _ h => h) rfl (by rfl) (fun W hS => ?_) hS ?_
            rotate_left; (focus (first | (go_simp; done) | (go_simp; with_reducible rfl) | (go_simp; rfl))); all_goals skip; (try simp only [List.set_cons_succ, List.set_cons_zero])
            refine wpAnyH_done (by kernel_rfl) ?_ _
            replace H := H.drew
            have H2 := H.alloc (.cells #[.int .i64 (k : Int), .int .i64 1] 34)
            go_wp2_with (refine L_append Sp.clen Sp.one rfl rfl Try.underlying22 tinfo34 rfl (by decide) H2 1 rfl rfl rfl (oneSpan (s := ⟨(k : Int), 1⟩) (H2.at_ 0 rfl)) hnb hnm ?_; clear H H2; intro v2 w2 H hnn; simp only [List.set_cons_succ, List.set_cons_zero] at H)
            have H3 := H.drop (List.sublist_cons_self _ _)
            rw [← cellsOf_append] at H3
            refine ⟨⟨k + 1, out ++ [⟨(k : Int), 1⟩], by go_num, hkn, by simp; omega, Lib.hid (by rw [HST.out.1, step, if_neg (by rw [HO.out]; simp), HN.out]; rfl), by simpa using H3⟩, ?_⟩
            simp [intOf]; omega
          · rw [List.concat_eq_append] at hcat
            obtain ⟨q1, q2, q3, _⟩ := HST.out.2 l (by rw [hcat]; simp)
            have hlen' : out.length = ini.length + 1 := by rw [hcat]; simp
            have hst2 := HST.out.1
            rw [step, if_neg (by rw [HO.out]; simp), hcat] at hst2
            simp only [List.getLast?_append, List.getLast?_singleton, Option.some_or, List.dropLast_concat] at hst2
            subst hcat
            obtain ⟨go, cap, rfl⟩ : ∃ go cap, u7 = .slice (some ⟨go, 0, none⟩) (ini.length + 1) cap := by
              have h := H.get 0 rfl
              rw [hlen'] at h
              exact ownsRow_succ h
            rw [hlen'] at H hol
            have HST2 := Lib.hid hst2
            clear hst2 hlen' HST HR
            have hcl := fun {w : World} (h : w.ownsRow 0 34 2 (.slice (some ⟨go, 0, none⟩) (ini.length + 1) cap) (ini.length + 1) (cellsOf Sp.cells (ini ++ [l]))) => own_cell h
            have hil : (ini.length : Int) < (ini.length : Int) + 1 := by omega
            have hwr : IntKind.i64.wrap (l.at_ + l.len) = l.at_ + l.len := by simp [IntKind.wrap, IntKind.bits, IntKind.signed]; omega
            by_cases hend : l.at_ + l.len = (k : Int)
            · have hendb : (l.at_ + l.len == (k : Int)) = true := by simp [hend]
              have HE2 := Lib.hid hend
              clear hend
              go_wp2_with fail
              refine D_start H (by kernel_rfl) (fun hS => ?_)
              try simp only [Act.put, List.setIfInBounds_toArray, List.set_cons_succ, List.set_cons_zero]
              refine D_take 0 (v := ?_) rfl (by kernel_rfl) (by kernel_rfl) (by kernel_rfl) (fun _ _ _ h => h) rfl (by rfl) (fun W hS => ?_) hS ?_
              rotate_left; (focus (first | (go_simp; done) | (go_simp; with_reducible rfl) | (go_simp; rfl))); all_goals skip; (try simp only [List.set_cons_succ, List.set_cons_zero])
              refine D_take 1 (v := ?_) rfl (by kernel_rfl) (by kernel_rfl) (by kernel_rfl) (fun _ _ _ h => h) rfl (by rfl) (fun W hS => ?_) hS ?_
              rotate_left; (focus (first | (go_simp; done) | (go_simp; with_reducible rfl) | (go_simp; rfl))); all_goals skip; (try simp only [List.set_cons_succ, List.set_cons_zero])
              refine D_take 2 (v := ?_) rfl (by kernel_rfl) (by kernel_rfl) (by kernel_rfl) (fun _ _ _ h => h) rfl (by rfl) (fun W hS => ?_) hS ?_
              rotate_left; (focus (first | (go_simp; done) | (go_simp; with_reducible rfl) | (go_simp; rfl))); all_goals skip; (try simp only [List.set_cons_succ, List.set_cons_zero])
              refine D_take 3 (v := ?_) rfl (by kernel_rfl) (by kernel_rfl) (by kernel_rfl) (fun _ _ _ h => h) rfl (by rfl) (fun W hS => ?_) hS ?_
              rotate_left; (focus (first | (go_simp; done) | (go_simp; with_reducible rfl) | (go_simp; rfl))); all_goals skip; (try simp only [List.set_cons_succ, List.set_cons_zero])
              refine D_take 4 (v := ?_) rfl (by kernel_rfl) (by kernel_rfl) (by kernel_rfl) (fun _ _ _ h => h) rfl (by rfl) (fun W hS => ?_) hS ?_
              rotate_left; (focus (first | (go_simp; done) | (go_simp; with_reducible rfl) | (go_simp; rfl))); all_goals skip; (try simp only [List.set_cons_succ, List.set_cons_zero])
              refine D_take 5 (v := ?_) rfl (by kernel_rfl) (by kernel_rfl) (by kernel_rfl) (fun _ _ _ h => h) rfl (by rfl) (fun W hS => ?_) hS ?_
              rotate_left; (focus (first | (go_simp; done) | (go_simp; with_reducible rfl) | (go_simp; rfl))); all_goals skip; (try simp only [List.set_cons_succ, List.set_cons_zero])
              refine D_take 6 (v := ?_) rfl (by kernel_rfl) (by kernel_rfl) (by kernel_rfl) (fun _ _ _ h => h) rfl (by rfl) (fun W hS => ?_) hS ?_
              rotate_left; (focus (first | (go_simp; done) | (go_simp; with_reducible rfl) | (go_simp; rfl))); all_goals skip; (try simp only [List.set_cons_succ, List.set_cons_zero])
              refine D_take 7 (v := (.int .i64 l.at_)) rfl (by kernel_rfl) (by kernel_rfl) (by kernel_rfl) (fun _ _ _ h => h) rfl (by rfl) (fun W hS => R_loadCell (ty := 3) (x := .tmp 38) (p := ⟨go, ini.length * 2, none⟩) rfl rfl (hcl (hS.get 0 rfl)).1 Try.isAgg3) hS ?_; (try simp only [List.set_cons_succ, List.set_cons_zero])
              refine D_take 8 (v := ?_) rfl (by kernel_rfl) (by kernel_rfl) (by kernel_rfl) (fun _ _ _ h => h) rfl (by rfl) (fun W hS => ?_) hS ?_
              rotate_left; (focus (first | (go_simp; done) | (go_simp; with_reducible rfl) | (go_simp; rfl))); all_goals skip; (try simp only [List.set_cons_succ, List.set_cons_zero])
              refine D_take 9 (v := ?_) rfl (by kernel_rfl) (by kernel_rfl) (by kernel_rfl) (fun _ _ _ h => h) rfl (by rfl) (fun W hS => ?_) hS ?_
              rotate_left; (focus (first | (go_simp; done) | (go_simp; with_reducible rfl) | (go_simp; rfl))); all_goals skip; (try simp only [List.set_cons_succ, List.set_cons_zero])
              refine D_take 10 (v := ?_) rfl (by kernel_rfl) (by kernel_rfl) (by kernel_rfl) (fun _ _ _ h => h) rfl (by rfl) (fun W hS => ?_) hS ?_
              rotate_left; (focus (first | (go_simp; done) | (go_simp; with_reducible rfl) | (go_simp; rfl))); all_goals skip; (try simp only [List.set_cons_succ, List.set_cons_zero])
              refine D_take 11 (v := ?_) rfl (by kernel_rfl) (by kernel_rfl) (by kernel_rfl) (fun _ _ _ h => h) rfl (by rfl) (fun W hS => ?_) hS ?_
              rotate_left; (focus (first | (go_simp; done) | (go_simp; with_reducible rfl) | (go_simp; rfl))); all_goals skip; (try simp only [List.set_cons_succ, List.set_cons_zero])
              refine D_take 12 (v := (.int .i64 l.len)) rfl (by kernel_rfl) (by kernel_rfl) (by kernel_rfl) (fun _ _ _ h => h) rfl (by rfl) (fun W hS => R_loadCell (ty := 3) (x := .tmp 43) (p := ⟨go, ini.length * 2 + 1, none⟩) rfl rfl (hcl (hS.get 0 rfl)).2.1 Try.isAgg3) hS ?_; (try simp only [List.set_cons_succ, List.set_cons_zero])
              refine D_take 13 (v := (.int .i64 (l.at_ + l.len))) rfl (by kernel_rfl) (by kernel_rfl) (by kernel_rfl) (fun _ _ _ h => h) rfl (by rfl) (fun W hS => by first | (go_simp; done) | (go_simp; rw [hwr])) hS ?_; (try simp only [List.set_cons_succ, List.set_cons_zero])
              refine D_take 14 (v := ?_) rfl (by kernel_rfl) (by kernel_rfl) (by kernel_rfl) (fun _ _ _ h => h) rfl (by rfl) (fun W hS => ?_) hS ?_
              rotate_left; (focus (first | (go_simp; done) | (go_simp; with_reducible rfl) | (go_simp; rfl))); all_goals skip; (try simp only [List.set_cons_succ, List.set_cons_zero])
              refine D_take 15 (v := (.bool true)) rfl (by kernel_rfl) (by kernel_rfl) (by kernel_rfl) (fun _ _ _ h => h) rfl (by rfl) (fun W hS => by first | (go_simp; done) | (go_simp; exact hendb)) hS ?_; (try simp only [List.set_cons_succ, List.set_cons_zero])
              refine D_take 16 (v := ?_) rfl (by kernel_rfl) (by kernel_rfl) (by kernel_rfl) (fun _ _ _ h => h) rfl (by rfl) (fun W hS => ?_) hS ?_
              rotate_left; (focus (first | (go_simp; done) | (go_simp; with_reducible rfl) | (go_simp; rfl))); all_goals skip; (try simp only [List.set_cons_succ, List.set_cons_zero])
              refine wpAnyH_done (by kernel_rfl) ?_ _
              replace H := H.drew
              obtain ⟨hc0, hc1, hf1⟩ := hcl (H.get 0 rfl)
              clear hcl
              go_wp2
              have H3 := H.upd 0 rfl (A' := ownA 34 2 (.slice (some ⟨go, 0, none⟩) (ini.length + 1) cap) (ini.length + 1) ((cellsOf Sp.cells (ini ++ [l])).set (ini.length * 2 + 1) (.int .i64 (l.len + 1)))) ((Ext.setCell _ ⟨go, ini.length * 2 + 1, none⟩ (.int .i64 (l.len + 1))).mono (fun i _ hi => by simp only at hi; subst hi; rfl)) (own_set _ (H.get 0 rfl) (by omega)) (fun i hi => ⟨.inl hi, by have h5 := (World.ownsRow.lt (H.get 0 rfl) i hi).2; simpa using h5⟩)
              rw [cells_setLen] at H3
              refine ⟨⟨k + 1, ini ++ [⟨l.at_, l.len + 1⟩], by go_num, hkn, by simp; omega, Lib.hid (by rw [HST2.out, if_pos HE2.out]), by rw [show (ini ++ [(⟨l.at_, l.len + 1⟩ : Sp)]).length = ini.length + 1 by simp]; exact H3⟩, ?_⟩
              simp [intOf]; omega
            · have hendb : (l.at_ + l.len == (k : Int)) = false := by simp [hend]
              have HE2 := Lib.hid hend
              clear hend
              go_wp2_with fail
              refine D_start H (by kernel_rfl) (fun hS => ?_)
              try simp only [Act.put, List.setIfInBounds_toArray, List.set_cons_succ, List.set_cons_zero]
              refine D_take 0 (v := ?_) rfl (by kernel_rfl) (by kernel_rfl) (by kernel_rfl) (fun _ _ _ h => h) rfl (by rfl) (fun W hS => ?_) hS ?_
              rotate_left; (focus (first | (go_simp; done) | (go_simp; with_reducible rfl) | (go_simp; rfl))); all_goals skip; (try simp only [List.set_cons_succ, List.set_cons_zero])
              refine D_take 1 (v := ?_) rfl (by kernel_rfl) (by kernel_rfl) (by kernel_rfl) (fun _ _ _ h => h) rfl (by rfl) (fun W hS => ?_) hS ?_
              rotate_left; (focus (first | (go_simp; done) | (go_simp; with_reducible rfl) | (go_simp; rfl))); all_goals skip; (try simp only [List.set_cons_succ, List.set_cons_zero])
              refine D_take 2 (v := ?_) rfl (by kernel_rfl) (by kernel_rfl) (by kernel_rfl) (fun _ _ _ h => h) rfl (by rfl) (fun W hS => ?_) hS ?_
              rotate_left; (focus (first | (go_simp; done) | (go_simp; with_reducible rfl) | (go_simp; rfl))); all_goals skip; (try simp only [List.set_cons_succ, List.set_cons_zero])
              refine D_take 3 (v := ?_) rfl (by kernel_rfl) (by kernel_rfl) (by kernel_rfl) (fun _ _ _ h => h) rfl (by rfl) (fun W hS => ?_) hS ?_
              rotate_left; (focus (first | (go_simp; done) | (go_simp; with_reducible rfl) | (go_simp; rfl))); all_goals skip; (try simp only [List.set_cons_succ, List.set_cons_zero])
              refine D_take 4 (v := ?_) rfl (by kernel_rfl) (by kernel_rfl) (by kernel_rfl) (fun _ _ _ h => h) rfl (by rfl) (fun W hS => ?_) hS ?_
              rotate_left; (focus (first | (go_simp; done) | (go_simp; with_reducible rfl) | (go_simp; rfl))); all_goals skip; (try simp only [List.set_cons_succ, List.set_cons_zero])
              refine D_take 5 (v := ?_) rfl (by kernel_rfl) (by kernel_rfl) (by kernel_rfl) (fun _ _ _ h => h) rfl (by rfl) (fun W hS => ?_) hS ?_
              rotate_left; (focus (first | (go_simp; done) | (go_simp; with_reducible rfl) | (go_simp; rfl))); all_goals skip; (try simp only [List.set_cons_succ, List.set_cons_zero])
              refine D_take 6 (v := ?_) rfl (by kernel_rfl) (by kernel_rfl) (by kernel_rfl) (fun _ _ _ h => h) rfl (by rfl) (fun W hS => ?_) hS ?_
              rotate_left; (focus (first | (go_simp; done) | (go_simp; with_reducible rfl) | (go_simp; rfl))); all_goals skip; (try simp only [List.set_cons_succ, List.set_cons_zero])
              refine D_take 7 (v := (.int .i64 l.at_)) rfl (by kernel_rfl) (by kernel_rfl) (by kernel_rfl) (fun _ _ _ h => h) rfl (by rfl) (fun W hS => R_loadCell (ty := 3) (x := .tmp 38) (p := ⟨go, ini.length * 2, none⟩) rfl rfl (hcl (hS.get 0 rfl)).1 Try.isAgg3) hS ?_; (try simp only [List.set_cons_succ, List.set_cons_zero])
              refine D_take 8 (v := ?_) rfl (by kernel_rfl) (by kernel_rfl) (by kernel_rfl) (fun _ _ _ h => h) rfl (by rfl) (fun W hS => ?_) hS ?_
              rotate_left; (focus (first | (go_simp; done) | (go_simp; with_reducible rfl) | (go_simp; rfl))); all_goals skip; (try simp only [List.set_cons_succ, List.set_cons_zero])
              refine D_take 9 (v := ?_) rfl (by kernel_rfl) (by kernel_rfl) (by kernel_rfl) (fun _ _ _ h => h) rfl (by rfl) (fun W hS => ?_) hS ?_
              rotate_left; (focus (first | (go_simp; done) | (go_simp; with_reducible rfl) | (go_simp; rfl))); all_goals skip; (try simp only [List.set_cons_succ, List.set_cons_zero])
              refine D_take 10 (v := ?_) rfl (by kernel_rfl) (by kernel_rfl) (by kernel_rfl) (fun _ _ _ h => h) rfl (by rfl) (fun W hS => ?_) hS ?_
              rotate_left; (focus (first | (go_simp; done) | (go_simp; with_reducible rfl) | (go_simp; rfl))); all_goals skip; (try simp only [List.set_cons_succ, List.set_cons_zero])
              refine D_take 11 (v := ?_) rfl (by kernel_rfl) (by kernel_rfl) (by kernel_rfl) (fun _ _ _ h => h) rfl (by rfl) (fun W hS => ?_) hS ?_
              rotate_left; (focus (first | (go_simp; done) | (go_simp; with_reducible rfl) | (go_simp; rfl))); all_goals skip; (try simp only [List.set_cons_succ, List.set_cons_zero])
              refine D_take 12 (v := (.int .i64 l.len)) rfl (by kernel_rfl) (by kernel_rfl) (by kernel_rfl) (fun _ _ _ h => h) rfl (by rfl) (fun W hS => R_loadCell (ty := 3) (x := .tmp 43) (p := ⟨go, ini.length * 2 + 1, none⟩) rfl rfl (hcl (hS.get 0 rfl)).2.1 Try.isAgg3) hS ?_; (try simp only [List.set_cons_succ, List.set_cons_zero])
              refine D_take 13 (v := (.int .i64 (l.at_ + l.len))) rfl (by kernel_rfl) (by kernel_rfl) (by kernel_rfl) (fun _ _ _ h => h) rfl (by rfl) (fun W hS => by first | (go_simp; done) | (go_simp; rw [hwr])) hS ?_; (try simp only [List.set_cons_succ, List.set_cons_zero])
              refine D_take 14 (v := ?_) rfl (by kernel_rfl) (by kernel_rfl) (by kernel_rfl) (fun _ _ _ h => h) rfl (by rfl) (fun W hS => ?_) hS ?_
              rotate_left; (focus (first | (go_simp; done) | (go_simp; with_reducible rfl) | (go_simp; rfl))); all_goals skip; (try simp only [List.set_cons_succ, List.set_cons_zero])
              refine D_take 15 (v := (.bool false)) rfl (by kernel_rfl) (by kernel_rfl) (by kernel_rfl) (fun _ _ _ h => h) rfl (by rfl) (fun W hS => by first | (go_simp; done) | (go_simp; exact hendb)) hS ?_; (try simp only [List.set_cons_succ, List.set_cons_zero])
              refine D_take 16 (v := ?_) rfl (by kernel_rfl) (by kernel_rfl) (by kernel_rfl) (fun _ _ _ h => h) rfl (by rfl) (fun W hS => ?_) hS ?_
              rotate_left; (focus (first | (go_simp; done) | (go_simp; with_reducible rfl) | (go_simp; rfl))); all_goals skip; (try simp only [List.set_cons_succ, List.set_cons_zero])
              refine wpAnyH_done (by kernel_rfl) ?_ _
              replace H := H.drew
              have hnb : (ini.length + 1 + [(⟨(k : Int), 1⟩ : Sp)].length) * 16 ≤ 140737488355328 := by simp only [List.length_cons, List.length_nil]; omega
              have hnm : ini.length + 1 + [(⟨(k : Int), 1⟩ : Sp)].length ≤ maxLen := by simp only [maxLen, List.length_cons, List.length_nil]; omega
              have H2 := H.alloc (.cells #[.int .i64 (k : Int), .int .i64 1] 34)
              go_wp2_with (refine L_append Sp.clen Sp.one rfl rfl Try.underlying22 tinfo34 rfl (by decide) H2 1 rfl rfl rfl (oneSpan (s := ⟨(k : Int), 1⟩) (H2.at_ 0 rfl)) hnb hnm ?_; clear H H2; intro v2 w2 H hnn; simp only [List.set_cons_succ, List.set_cons_zero] at H)
              have H3 := H.drop (List.sublist_cons_self _ _)
              rw [← cellsOf_append] at H3
              refine ⟨⟨k + 1, (ini ++ [l]) ++ [⟨(k : Int), 1⟩], by go_num, hkn, by simp; omega, Lib.hid (by rw [HST2.out, if_neg HE2.out]), by simpa using H3⟩, ?_⟩
              simp [intOf]; omega
        · have hlast : ∃ A cap, u7 = .slice A out.length cap := by obtain ⟨A, cap, h, _⟩ := (RdS.own Sp.clen rfl (H.get 0 rfl)).len; exact ⟨A, cap, h⟩
          obtain ⟨A, cap, rfl⟩ := hlast
          go_wp2
          refine ⟨⟨k + 1, out, by go_num, hkn, by omega, Lib.hid (by rw [HST.out.1, step, if_pos HO.out]), H⟩, ?_⟩
          simp [intOf]; omega
      · obtain rfl : k = n := by omega
        go_wp2
        all_goals
          go_ret
          refine ⟨⟨_, rfl, ?_⟩, HE.out.2.trans0 H.ext⟩
          rw [← HH.out, holesL, ← HE.out.1, Int.toNat_natCast, HR.out]
          exact RdS.own Sp.clen rfl (H.get 0 rfl)

def RfRel (hs : List Sp) (n : Int) (wS : World) (vi : Value) (wr : World) : Prop :=
  ∃ k : Nat, vi = .int .i64 (k : Int) ∧ k ≤ hs.length ∧ Hid (findL (hs.drop k) n = findL hs n) ∧ wr = wS
set_option maxRecDepth 100000 in
set_option maxHeartbeats 4000000 in
theorem refFind_any (sv : Value) (xs : List Sp) (t n : Int) (w0 : World) (hlen : xs.length ≤ 1000) (hr : RdS Sp.cells 2 w0 sv xs) (ht0 : 0 ≤ t) (ht : t ≤ 4096) (hsm : Small xs) :
    Calls Try.prog 14 #[sv, .int .i64 t, .int .i64 n] w0 fun e w' => e = .returned (.tuple #[.int .i64 (findL (holesL xs t) n).1, .bool (findL (holesL xs t) n).2]) ∧ Ext0 w0 w' := by
  have hho := refHoles_any sv xs t w0 hlen hr ht0 ht hsm
  have hl := holesL_len (xs := xs) ht0 ht
  generalize holesL xs t = hs at hho hl ⊢
  obtain ⟨⟨qa, qb⟩, hq⟩ : ∃ q, findL hs n = q := ⟨_, rfl⟩
  rw [hq]
  have HQ := Lib.hid hq
  clear hq
  go_enter Try.func14, Try.ntmps14
  go_wp2_with (go_at_call 20; refine hho.mono ?_; rintro e wS ⟨⟨v, rfl, hrd⟩, hE⟩; obtain ⟨A, cap, rfl, hcap⟩ := hrd.len)
  have HE := Lib.hid hE
  clear hho hE hcap hr
  go_loopw [9] (fun vi wr => RfRel hs n wS vi wr) (fun vi _ => hs.length - (intOf vi).toNat)
  case atStart => exact ⟨0, rfl, Nat.zero_le _, Lib.hid rfl, rfl⟩
  case round =>
    obtain ⟨k, rfl, hk, HR, rfl⟩ := hrel
    by_cases hkn : k < hs.length
    · have hki : (k : Int) < (hs.length : Int) := by omega
      obtain ⟨b, off, _, _, _, rfl, _, _⟩ := hrd.cell hkn
      have hdr : hs.drop k = hs[k] :: hs.drop (k + 1) := List.drop_eq_getElem_cons hkn
      obtain ⟨s, hsk⟩ : ∃ s, hs[k] = s := ⟨_, rfl⟩
      obtain ⟨hc0, hc1⟩ := hrd.cellAt hkn hsk
      rw [hsk] at hdr
      have HR2 := Lib.hid (show (if 1 ≤ n ∧ n ≤ s.len then (s.at_, true) else findL (hs.drop (k + 1)) n) = findL hs n by rw [← findL_cons, ← hdr]; exact HR.out)
      clear hdr HR hsk
      go_wp2
      all_goals first
        | (go_ret2
           refine ⟨?_, HE.out⟩
           have h1 := HR2.out
           rw [HQ.out, if_pos (by omega)] at h1
           cases h1
           rfl)
        | (refine ⟨⟨k + 1, by go_num, hkn, Lib.hid (by rw [← HR2.out, if_neg (by omega)]), rfl⟩, ?_⟩
           simp [intOf]; omega)
    · obtain rfl : k = hs.length := by omega
      go_wp2
      go_ret2
      refine ⟨?_, HE.out⟩
      have h1 := HR.out
      rw [HQ.out, List.drop_length] at h1
      cases h1
      rfl
end Go.Proofs.Ytjdfeagjbhdceaa
