/- Tables: the document's Without. -/
import Derived.Test.YtoaieodcdbbndaaTabWo
import Derived.Test.YtoaieodcdbbndaaTabRw
namespace Go.Proofs.Ytoaieodcdbbndaa
set_option linter.unusedVariables false
set_option linter.unusedSimpArgs false
open Go.RowKit

def RoRel (ids : List Int) (ps : List BV) (L : List Asr) (w0 : World) (s5 s6 : Value) (wr : World) : Prop :=
  ∃ (i n : Nat), s6 = .int .i64 (i : Int) ∧ i ≤ ps.length ∧ SH (fun _ => False) w0 wr (ownA 45 6 s5 n (cellsOf bvCells (kept (fun b => decide (b.id ∈ ids)) ps i)) :: L) ∧ Hid (n = (kept (fun b => decide (b.id ∈ ids)) ps i).length)
def InRel (ids : List Int) (id : Int) (wS : World) (w0 : World) (L : List Asr) (s7 s8 : Value) (wr : World) : Prop :=
  ∃ (k : Nat) (s : Bool), s8 = .int .i64 (k : Int) ∧ s7 = .bool s ∧ k ≤ ids.length ∧ Hid (s = decide (id ∈ ids.take k)) ∧ SH (fun _ => False) w0 wr L
theorem mem_take_succ (ids : List Int) (id : Int) (k : Nat) (hk : k < ids.length) : decide (id ∈ ids.take (k + 1)) = (decide (id ∈ ids.take k) || (ids[k] == id)) := by
  rw [List.take_add_one, List.getElem?_eq_getElem hk, Option.toList_some]
  simp only [List.mem_append, List.mem_singleton]
  rw [Bool.eq_iff_iff]
  simp only [decide_eq_true_eq, Bool.or_eq_true, beq_iff_eq]
  constructor
  · rintro (h | h)
    · exact .inl h
    · exact .inr h.symm
  · rintro (h | h)
    · exact .inl h
    · exact .inr h.symm
theorem int_cell {w : World} {A : Option Addr} {n c : Nat} {xs : List Int} (h : RdS (encInt .i64) 1 w (.slice A n c) xs) {j : Nat} (hj : j < xs.length) : ∃ bb off, A = some ⟨bb, off, none⟩ ∧ w.cell? ⟨bb, off + j, none⟩ = some (.int .i64 xs[j]) := by
  obtain ⟨bb, off, cs, T, fr, hA, hbb, hcs⟩ := h.cell hj
  refine ⟨bb, off, hA, ?_⟩
  rw [cell_of_row w bb _ cs T fr hbb]
  have := hcs 0 (by omega)
  rw [Nat.mul_one, Nat.add_zero] at this
  rw [this]; rfl
set_option maxRecDepth 100000 in
set_option maxHeartbeats 4000000 in
theorem refWithout_any (t : Tab) (bv iv : Value) (ps : List BV) (ids : List Int) (w0 : World) (hps : ps.map (·.2) = t.bs) (hb : BsR w0 bv ps) (hn : ps.length ≤ 1000) (hr : RdS (encInt .i64) 1 w0 iv ids) (hi : ids.length ≤ 9223372036854775807) :
    Calls Try.prog 27 #[tabV t bv, iv] w0 (GivesTab w0 { t with bs := outL t.bs ids }) := by
  obtain ⟨A, cap, rfl, hcap⟩ := hb.row.len
  obtain ⟨B, cap2, rfl, hcap2⟩ := hr.len
  obtain ⟨epoch, old, phase, mode, next, gen, bs⟩ := t
  have H : SH (fun _ => False) w0 w0 [] := SH.nil _ _
  simp only [tabV] at hps ⊢
  subst hps
  have HR := Lib.hid hr
  have HB := Lib.hid hb
  clear hb hr
  go_enter Try.func27, Try.ntmps27
  go_upto_region 1 with (first
    | (refine L_box (L := []) rfl rfl H rfl rfl ?_; clear H; intro gt w H; (try simp only [Act.eval, Array.getD_eq_getD_getElem?, List.getElem?_toArray, List.getElem?_cons_succ, List.getElem?_cons_zero, Option.getD_some, Value.cells] at H); (try simp only [Act.put, List.setIfInBounds_toArray, List.set_cons_succ, List.set_cons_zero, List.getElem_toArray, List.getElem_cons_succ, List.getElem_cons_zero]))
    | (refine L_alloc rfl rfl H Try.zeroValue24 ?_; clear H; intro g4 w H; simp only [Value.cells] at H; (try simp only [Act.put, List.setIfInBounds_toArray, List.set_cons_succ, List.set_cons_zero, List.getElem_toArray, List.getElem_cons_succ, List.getElem_cons_zero])))
  go_wp2_with (first
    | (refine L_lit (e := 45) (cs := #[]) rfl rfl H (by intro _; first | (go_simp; done) | (go_simp; rfl)) ?_; clear H; intro g3 w H; replace H := H.toOwn 0 rfl 6 0 0 (Nat.le_refl _) (Nat.zero_le _) rfl [] rfl; simp only [List.set_cons_zero] at H))
  go_loopw [5, 6] (fun s5 s6 wr => RoRel ids ps [pt g4 (.cells #[.int .i64 0, .int .i64 0, .int .i64 0, .int .i64 0, .int .i64 0, .int .i64 0, .slice none 0 0] 24 (0, 0)), pt gt (.cells #[.int .i64 epoch, .int .i64 old, .int .i64 phase, .int .i64 mode, .int .i64 next, .int .i64 gen, .slice A ps.length cap] 24 (0, 0))] w0 s5 s6 wr) (fun _ s6 _ => ps.length - (intOf s6).toNat)
  case atStart => exact ⟨0, 0, rfl, Nat.zero_le _, H, Lib.hid rfl⟩
  case round =>
    clear H
    obtain ⟨i, n, rfl, hi9, H, HN⟩ := hrel
    have hbk := H.at_ 2 rfl
    have hk6 : wr.cell? ⟨gt, 6, none⟩ = some (.slice A ps.length cap) := cell_of_row _ gt 6 _ _ _ hbk
    clear hbk
    by_cases hin : i < ps.length
    · have hii : (i : Int) < (ps.length : Int) := by omega
      obtain ⟨p, hp⟩ : ∃ p, ps[i] = p := ⟨_, rfl⟩
      obtain ⟨bb, off, cs, T, fr, rfl, hbb, hcs⟩ := HB.out.row.cell hin
      rw [hp] at hcs
      have hks := kept_succ (fun b => decide (b.id ∈ ids)) ps i hin
      rw [hp] at hks
      obtain ⟨⟨WA, wc9⟩, b1, b2, b3, b4, b5, f⟩ := p
      have hcs6 : ∀ j, j < 6 → cs[off + i * 6 + j]? = [Value.int .i64 b1, .int .i64 b2, .int .i64 b3, .int .i64 b4, .int .i64 b5, .slice WA f.length wc9][j]? := fun j hj => hcs j hj
      have hpid : cs[off + i * 6]? = some (.int .i64 b1) := hcs6 0 (by omega)
      have HKS := Lib.hid hks
      clear hcs hp hks
      go_wp2_with fail
      clear hk6
      go_loopw [7, 8] (fun s7 s8 wr2 => InRel ids b1 wr w0 (_ :: [pt g4 (.cells #[.int .i64 0, .int .i64 0, .int .i64 0, .int .i64 0, .int .i64 0, .int .i64 0, .slice none 0 0] 24 (0, 0)), pt gt (.cells #[.int .i64 epoch, .int .i64 old, .int .i64 phase, .int .i64 mode, .int .i64 next, .int .i64 gen, .slice (some ⟨bb, off, none⟩) ps.length cap] 24 (0, 0))]) s7 s8 wr2) (fun _ s8 _ => ids.length - (intOf s8).toNat)
      case atStart => exact ⟨0, false, rfl, rfl, Nat.zero_le _, Lib.hid (by simp), H⟩
      case round =>
        clear H
        obtain ⟨k, s, rfl, rfl, hk, HS, H⟩ := hrel
        by_cases hkn : k < ids.length
        · have hki : (k : Int) < (ids.length : Int) := by omega
          obtain ⟨ib, ioff, hB, hic⟩ := int_cell HR.out hkn
          subst hB
          obtain ⟨y, hy⟩ : ∃ y, ids[k] = y := ⟨_, rfl⟩
          rw [hy] at hic
          have hms := mem_take_succ ids b1 k hkn
          rw [hy, ← HS.out] at hms
          have HMS := Lib.hid hms
          have HY := Lib.hid hy
          clear hy hms
          go_upto_region 9 with fail
          have H1 := H.drop (L' := [_]) (List.Sublist.cons _ (List.Sublist.cons _ (List.Sublist.refl _)))
          have HW := H.drew
          refine D_start H1 (by kernel_rfl) (fun hS => ?_)
          try simp only [Act.put, List.setIfInBounds_toArray, List.set_cons_succ, List.set_cons_zero]
          refine D_take 0 rfl (by kernel_rfl) (by kernel_rfl) (by kernel_rfl) (v := ?_) (fun _ _ _ h => h) rfl (by rfl) ?_ hS ?_
          rotate_left; (focus (intro W hS; first | (go_simp; done) | (go_simp; with_reducible rfl) | (go_simp; rfl))); all_goals skip; (try simp only [List.set_cons_succ, List.set_cons_zero])
          refine D_take 1 rfl (by kernel_rfl) (by kernel_rfl) (by kernel_rfl) (v := ?_) (fun _ _ _ h => h) rfl (by rfl) ?_ hS ?_
          rotate_left; (focus (intro W hS; first | (go_simp; done) | (go_simp; with_reducible rfl) | (go_simp; rfl))); all_goals skip; (try simp only [List.set_cons_succ, List.set_cons_zero])
          refine D_maybe 2 (!s) rfl (by kernel_rfl) (by kernel_rfl) (by kernel_rfl) (v := ?_) (fun _ _ _ _ h => h) rfl (by cases s <;> rfl) hS ?_ ?_
          rotate_left; (focus (intro hb; intro W hS; (try simp only [Bool.and_eq_true, Bool.not_eq_true'] at hb); have hb0 := hb; (try simp only [hb0, Bool.not_false, Bool.not_true, Bool.and_true, Bool.true_and, Bool.and_self, cond_true, cond_false]); first | (go_simp; done) | (go_simp; with_reducible rfl) | (go_simp; rfl))); all_goals skip; (try simp only [List.set_cons_succ, List.set_cons_zero])
          refine D_maybe 3 (!s) rfl (by kernel_rfl) (by kernel_rfl) (by kernel_rfl) (v := ?_) (fun _ _ _ _ h => h) rfl (by cases s <;> rfl) hS ?_ ?_
          rotate_left; (focus (intro hb; intro W hS; (try simp only [Bool.and_eq_true, Bool.not_eq_true'] at hb); have hb0 := hb; (try simp only [hb0, Bool.not_false, Bool.not_true, Bool.and_true, Bool.true_and, Bool.and_self, cond_true, cond_false]); first | (go_simp; done) | (go_simp; with_reducible rfl) | (go_simp; rfl))); all_goals skip; (try simp only [List.set_cons_succ, List.set_cons_zero])
          refine D_maybe 4 (!s) rfl (by kernel_rfl) (by kernel_rfl) (by kernel_rfl) (v := ?_) (fun _ _ _ _ h => h) rfl (by cases s <;> rfl) hS ?_ ?_
          rotate_left; (focus (intro hb; intro W hS; (try simp only [Bool.and_eq_true, Bool.not_eq_true'] at hb); have hb0 := hb; (try simp only [hb0, Bool.not_false, Bool.not_true, Bool.and_true, Bool.true_and, Bool.and_self, cond_true, cond_false]); first | (go_simp; done) | (go_simp; with_reducible rfl) | (go_simp; rfl))); all_goals skip; (try simp only [List.set_cons_succ, List.set_cons_zero])
          refine D_maybe 5 (!s) rfl (by kernel_rfl) (by kernel_rfl) (by kernel_rfl) (v := (.int .i64 y)) (fun _ _ _ _ h => h) rfl (by cases s <;> rfl) hS ?_ ?_
          (focus (intro hb; intro W hS; (try simp only [Bool.and_eq_true, Bool.not_eq_true'] at hb); have hb0 := hb; (try simp only [hb0, Bool.not_false, Bool.not_true, Bool.and_true, Bool.true_and, Bool.and_self, cond_true, cond_false]); exact R_loadCell' (ty := 3) (x := .tmp 27) (p := ⟨ib, ioff + k, none⟩) rfl rfl (hS.ext.cell hic (fun e => e)) Try.isAgg3)); all_goals skip; (try simp only [List.set_cons_succ, List.set_cons_zero, List.getElem_toArray, List.getElem_cons_succ, List.getElem_cons_zero])
          refine D_maybe 6 (!s) rfl (by kernel_rfl) (by kernel_rfl) (by kernel_rfl) (v := ?_) (fun _ _ _ _ h => h) rfl (by cases s <;> rfl) hS ?_ ?_
          rotate_left; (focus (intro hb; intro W hS; (try simp only [Bool.and_eq_true, Bool.not_eq_true'] at hb); have hb0 := hb; (try simp only [hb0, Bool.not_false, Bool.not_true, Bool.and_true, Bool.true_and, Bool.and_self, cond_true, cond_false]); first | (go_simp; done) | (go_simp; with_reducible rfl) | (go_simp; rfl))); all_goals skip; (try simp only [List.set_cons_succ, List.set_cons_zero])
          refine D_maybe 7 (!s) rfl (by kernel_rfl) (by kernel_rfl) (by kernel_rfl) (v := ?_) (fun _ _ _ _ h => h) rfl (by cases s <;> rfl) hS ?_ ?_
          rotate_left; (focus (intro hb; intro W hS; (try simp only [Bool.and_eq_true, Bool.not_eq_true'] at hb); have hb0 := hb; (try simp only [hb0, Bool.not_false, Bool.not_true, Bool.and_true, Bool.true_and, Bool.and_self, cond_true, cond_false]); first | (refine R_load1 (ty := 22) (x := Operand.tmp 29) rfl hS 0 rfl rfl ?_ Try.isAgg22; rfl))); all_goals skip; (try simp only [List.set_cons_succ, List.set_cons_zero, List.getElem_toArray, List.getElem_cons_succ, List.getElem_cons_zero])
          refine D_maybe 8 (!s) rfl (by kernel_rfl) (by kernel_rfl) (by kernel_rfl) (v := ?_) (fun _ _ _ _ h => h) rfl (by cases s <;> rfl) hS ?_ ?_
          rotate_left; (focus (intro hb; intro W hS; (try simp only [Bool.and_eq_true, Bool.not_eq_true'] at hb); have hb0 := hb; (try simp only [hb0, Bool.not_false, Bool.not_true, Bool.and_true, Bool.true_and, Bool.and_self, cond_true, cond_false]); first | (go_simp; done) | (go_simp; with_reducible rfl) | (go_simp; rfl))); all_goals skip; (try simp only [List.set_cons_succ, List.set_cons_zero])
          refine D_maybe 9 (!s) rfl (by kernel_rfl) (by kernel_rfl) (by kernel_rfl) (v := ?_) (fun _ _ _ _ h => h) rfl (by cases s <;> rfl) hS ?_ ?_
          rotate_left; (focus (intro hb; intro W hS; (try simp only [Bool.and_eq_true, Bool.not_eq_true'] at hb); have hb0 := hb; (try simp only [hb0, Bool.not_false, Bool.not_true, Bool.and_true, Bool.true_and, Bool.and_self, cond_true, cond_false]); first | (go_simp; done) | (go_simp; with_reducible rfl) | (go_simp; rfl))); all_goals skip; (try simp only [List.set_cons_succ, List.set_cons_zero])
          refine D_maybe 10 (!s) rfl (by kernel_rfl) (by kernel_rfl) (by kernel_rfl) (v := ?_) (fun _ _ _ _ h => h) rfl (by cases s <;> rfl) hS ?_ ?_
          rotate_left; (focus (intro hb; intro W hS; (try simp only [Bool.and_eq_true, Bool.not_eq_true'] at hb); have hb0 := hb; (try simp only [hb0, Bool.not_false, Bool.not_true, Bool.and_true, Bool.true_and, Bool.and_self, cond_true, cond_false]); first | (go_simp; done) | (go_simp; with_reducible rfl) | (go_simp; rfl))); all_goals skip; (try simp only [List.set_cons_succ, List.set_cons_zero])
          refine D_maybe 11 (!s) rfl (by kernel_rfl) (by kernel_rfl) (by kernel_rfl) (v := (.int .i64 b1)) (fun _ _ _ _ h => h) rfl (by cases s <;> rfl) hS ?_ ?_
          (focus (intro hb; intro W hS; (try simp only [Bool.and_eq_true, Bool.not_eq_true'] at hb); have hb0 := hb; (try simp only [hb0, Bool.not_false, Bool.not_true, Bool.and_true, Bool.true_and, Bool.and_self, cond_true, cond_false]); exact R_load1r (ty := 3) (x := .tmp 33) (off := off + i * 6) rfl hS rfl hbb (fun e => e) hpid Try.isAgg3)); all_goals skip; (try simp only [List.set_cons_succ, List.set_cons_zero, List.getElem_toArray, List.getElem_cons_succ, List.getElem_cons_zero])
          refine D_maybeB 12 (!s) rfl (by kernel_rfl) (by kernel_rfl) (by kernel_rfl) (q := ?_) (fun _ _ _ _ h => h) rfl (by cases s <;> rfl) hS ?_ ?_
          rotate_left; (focus (intro hb; intro W hS; (try simp only [Bool.and_eq_true, Bool.not_eq_true'] at hb); have hb0 := hb; (try simp only [hb0, Bool.not_false, Bool.not_true, Bool.and_true, Bool.true_and, Bool.and_self, cond_true, cond_false]); first | (go_simp; done) | (go_simp; with_reducible rfl) | (go_simp; rfl))); all_goals skip; (try simp only [List.set_cons_succ, List.set_cons_zero])
          intro co12 Hco12
          refine D_takeB 13 rfl (by kernel_rfl) (by kernel_rfl) (by kernel_rfl) (q := (s || co12)) (fun _ _ _ h => h) rfl (by rfl) hS ?_ ?_
          (focus (intro W hS; cases co12 <;> cases s <;> (first | (go_simp; done) | (go_simp; with_reducible rfl) | (go_simp; rfl)))); all_goals skip; (try simp only [List.set_cons_succ, List.set_cons_zero])
          intro co13 Hco13
          refine D_take 14 rfl (by kernel_rfl) (by kernel_rfl) (by kernel_rfl) (v := ?_) (fun _ _ _ h => h) rfl (by rfl) ?_ hS ?_
          rotate_left; (focus (intro W hS; first | (go_simp; done) | (go_simp; with_reducible rfl) | (go_simp; rfl))); all_goals skip; (try simp only [List.set_cons_succ, List.set_cons_zero])
          have hfl := Hco13.out
          simp only [Hco12.out] at hfl
          replace hfl := Lib.hid hfl
          clear Hco13 Hco12
          refine wpAnyH_done (by kernel_rfl) ?_ _
          have hs2 : co13 = decide (b1 ∈ ids.take (k + 1)) := by rw [hfl.out, HMS.out]
          have HS2 := Lib.hid hs2
          clear hs2 hfl hS H1 H
          go_wp2_with fail
          go_roundw
          case rel => exact ⟨k + 1, co13, by go_num, rfl, by omega, HS2, HW⟩
          case measure => simp [intOf]; omega
        · obtain rfl : k = ids.length := by omega
          have hjn2 : ¬ ((ids.length : Int) < (ids.length : Int)) := by omega
          have hs := HS.out
          rw [List.take_length] at hs
          have hb1 : (n + 1) * 64 ≤ 140737488355328 := by have h1 := HN.out; have h2 := kept_len (fun b => decide (b.id ∈ ids)) ps i; omega
          have hb2 : n + 1 ≤ maxLen := by have h1 := HN.out; have h2 := kept_len (fun b => decide (b.id ∈ ids)) ps i; simp only [maxLen]; omega
          have HS2 := Lib.hid hs
          clear hs HS
          have hbk := H.at_ 2 rfl
          have hk6 : wr.cell? ⟨gt, 6, none⟩ = some (.slice (some ⟨bb, off, none⟩) ps.length cap) := cell_of_row _ gt 6 _ _ _ hbk
          clear hbk
          cases s
          · have hkp : kept (fun b => decide (b.id ∈ ids)) ps (i + 1) = kept (fun b => decide (b.id ∈ ids)) ps i ++ [((WA, wc9), ⟨b1, b2, b3, b4, b5, f⟩)] := by
              rw [HKS.out]
              (try simp only)
              rw [← HS2.out]
              rfl
            have HKP := Lib.hid hkp
            clear hkp
            go_wp2_with (first
              | (refine L_load1 rfl rfl H 2 rfl rfl rfl Try.isAgg22 ?_; (try simp only [Act.put, List.setIfInBounds_toArray, List.set_cons_succ, List.set_cons_zero, List.getElem_toArray, List.getElem_cons_succ, List.getElem_cons_zero]))
              | (refine L_loadmidr rfl rfl H rfl hbb (fun e => e) Try.underlying45 rfl info45 [Value.int .i64 b1, .int .i64 b2, .int .i64 b3, .int .i64 b4, .int .i64 b5, .slice WA f.length wc9] rfl hcs6 ?_; (try simp only [Act.put, List.setIfInBounds_toArray, List.set_cons_succ, List.set_cons_zero, List.getElem_toArray, List.getElem_cons_succ, List.getElem_cons_zero]))
              | (refine L_litE (e := 45) (cs := ?_) rfl rfl H ?_ ?_; rotate_left; (focus (intro _; first | (go_simp; done) | (go_simp; rfl))); all_goals skip; clear H; intro gl w H hE; clear hE; have hu := oneBV3 (id := b1) (bgen := b2) (at_ := b3) (size := b4) (ep := b5) (WA := WA) (wc := wc9) (wrap := f) rfl (H.at_ 0 rfl))
              | (refine L_append bvLen bvOne (xv := .slice (some ⟨gl, 0, none⟩) 1 1) (ys := [((WA, wc9), ⟨b1, b2, b3, b4, b5, f⟩)]) rfl rfl Try.underlying22 infoBZ rfl (by decide) H 1 rfl rfl rfl hu hb1 hb2 ?_; clear H hu; intro v2 w H hnn; clear hnn; simp only [List.set_cons_zero, List.set_cons_succ] at H))
            go_roundw
            case rel =>
              refine ⟨i + 1, n + 1, by go_num, by omega, ?_, Lib.hid (by rw [HKP.out, List.length_append, ← HN.out]; rfl)⟩
              rw [HKP.out, cellsOf_append]
              exact H.drop (List.sublist_cons_self _ _)
            case measure => simp [intOf]; omega
          · have hkp : kept (fun b => decide (b.id ∈ ids)) ps (i + 1) = kept (fun b => decide (b.id ∈ ids)) ps i := by
              rw [HKS.out]
              (try simp only)
              rw [← HS2.out]
              rfl
            have HKP := Lib.hid hkp
            clear hkp
            go_wp2_with fail
            go_roundw
            case rel =>
              refine ⟨i + 1, n, by go_num, by omega, ?_, by rw [HKP.out]; exact HN⟩
              rw [HKP.out]
              exact H
            case measure => simp [intOf]; omega
    · obtain rfl : i = ps.length := by omega
      have hjn2 : ¬ ((ps.length : Int) < (ps.length : Int)) := by omega
      obtain ⟨A3, c3, rfl⟩ := own_slice (H.get 0 rfl)
      go_wp2_with (first
        | (refine L_store1 rfl rfl H 2 rfl rfl rfl rfl rfl (Nat.le_of_ble_eq_true rfl) Try.sizeOf22 ?_; clear H; intro w H; simp only [List.set_cons_zero, List.set_cons_succ, List.setIfInBounds_toArray, Act.eval, Array.getD_eq_getD_getElem?, List.getElem?_toArray, List.getElem?_cons_succ, List.getElem?_cons_zero, Option.getD_some] at H; (try simp only [Act.put, List.setIfInBounds_toArray, List.set_cons_succ, List.set_cons_zero, List.getElem_toArray, List.getElem_cons_succ, List.getElem_cons_zero]))
        | (refine L_loadrow rfl rfl H 2 rfl rfl Try.underlying24 rfl info24 rfl ?_; (try simp only [Act.put, List.setIfInBounds_toArray, List.set_cons_succ, List.set_cons_zero, List.getElem_toArray, List.getElem_cons_succ, List.getElem_cons_zero]))
        | (refine L_storerow rfl rfl H 1 rfl rfl rfl info24 rfl rfl (one7s _ _ _ _ _ _ _ _ _) ?_; clear H; intro w H; simp only [List.set_cons_zero, List.set_cons_succ, List.setIfInBounds_toArray, Act.eval, Array.getD_eq_getD_getElem?, List.getElem?_toArray, List.getElem?_cons_succ, List.getElem?_cons_zero, Option.getD_some] at H; (try simp only [Act.put, List.setIfInBounds_toArray, List.set_cons_succ, List.set_cons_zero, List.getElem_toArray, List.getElem_cons_succ, List.getElem_cons_zero])))
      (try simp only [Exit.inBlock, Exit.then])
      refine L_retrow rfl H 1 rfl rfl Try.underlying24 rfl info24 rfl rfl ?_
      exact ⟨.slice A3 n c3, _, rfl, kept_map ps ids, ⟨RdS.own bvLen HN.out (H.get 0 rfl), fun q hq => (HB.out.wrap q (kept_mem hq)).keep H.ext⟩, H.ext⟩
end Go.Proofs.Ytoaieodcdbbndaa
