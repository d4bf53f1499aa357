/- Tables: the document's With. -/
import Derived.Test.YtoaieodcdbbndaaTabWi
import Derived.Test.YtoaieodcdbbndaaTabT
import Derived.Test.YtoaieodcdbbndaaSym
namespace Go.Proofs.Ytoaieodcdbbndaa
set_option linter.unusedVariables false
set_option linter.unusedSimpArgs false
open Go.RowKit

theorem RdS.takeG {α : Type} {enc : α → List Value} {k : Nat} {w : World} {A : Option Addr} {n cap : Nat} {xs : List α} (h : RdS enc k w (.slice A n cap) xs) (m : Nat) (hm : m ≤ xs.length) : RdS enc k w (.slice A m cap) (xs.take m) := by
  obtain ⟨A', cap', he, hc, h⟩ := h
  cases he
  have hl : (xs.take m).length = m := by rw [List.length_take]; omega
  refine ⟨_, cap, by rw [hl], by omega, ?_⟩
  rcases h with h | ⟨b, off, cs, T, fr, h1, h2, h3⟩
  · left; rw [h]; simp
  · right
    refine ⟨b, off, cs, T, fr, h1, h2, fun j hj i hi => ?_⟩
    rw [List.getElem_take]
    exact h3 j (by rw [hl] at hj; omega) i hi
theorem RdS.dropG {α : Type} {enc : α → List Value} {k : Nat} {w : World} {b off n cap : Nat} {xs : List α} (h : RdS enc k w (.slice (some ⟨b, off, none⟩) n cap) xs) (m : Nat) (hm : m ≤ xs.length) : RdS enc k w (.slice (some ⟨b, off + m * k, none⟩) (xs.length - m) (cap - m)) (xs.drop m) := by
  obtain ⟨A', cap', he, hc, h⟩ := h
  cases he
  refine ⟨_, cap - m, by rw [List.length_drop], by rw [List.length_drop]; omega, ?_⟩
  rcases h with h | ⟨b', off', cs, T, fr, h1, h2, h3⟩
  · left; rw [h]; simp
  · cases h1
    right
    refine ⟨b, off + m * k, cs, T, fr, rfl, h2, fun j hj i hi => ?_⟩
    rw [List.getElem_drop, ← h3 (m + j) (by rw [List.length_drop] at hj; omega) i hi]
    congr 1
    rw [Nat.add_mul]
    omega
theorem RdS.nilG {α : Type} {enc : α → List Value} {k : Nat} {w : World} (A : Option Addr) (cap : Nat) : RdS enc k w (.slice A 0 cap) [] := ⟨A, cap, rfl, Nat.zero_le _, .inl rfl⟩
theorem ins_prefix {id : Int} {bs : List Blk} (hf : findP id bs = -1) {n : Nat} (hn : n ≤ bs.length) (hlt : ∀ j (hj : j < n) (hj2 : j < bs.length), bs[j].id < id) (hge : ∀ h : n < bs.length, ¬ bs[n].id < id) : insAt id bs = n := by
  have hne : ∀ j (hj : j < bs.length), bs[j].id ≠ id := fun j hj he => by
    unfold findP idxF at hf
    cases h : bs.findIdx? (fun b => b.id == id) with
    | none =>
      rw [List.findIdx?_eq_none_iff] at h
      have := h _ (List.getElem_mem hj)
      simp [he] at this
    | some i =>
      rw [h] at hf
      simp only at hf
      omega
  unfold insAt
  by_cases h : n < bs.length
  · have hi := idxF_hit (pr := fun b => decide (id < b.id)) h (by have := hge h; have := hne n h; simp only [decide_eq_true_eq]; omega) (fun j hj => by have := hlt j hj (by omega); simp only [decide_eq_false_iff_not]; omega)
    rw [hi, if_neg (by omega), Int.toNat_natCast]
  · have hi := idxF_none (pr := fun b => decide (id < b.id)) (bs := bs) (fun j hj => by have := hlt j (by omega) hj; simp only [decide_eq_false_iff_not]; omega)
    rw [hi, if_pos (by omega)]
    omega
def RestRel (ps : List BV) (x : BV) (w0 : World) (L : List Asr) (s5 s6 : Value) (wc : World) : Prop :=
  ∃ N M : Nat, s5 = .int .i64 (N : Int) ∧ N ≤ ps.length ∧ M ≤ ps.length ∧ RdS bvCells 6 w0 s6 (ps.drop M) ∧ Hid ((ps.take N ++ x :: ps.drop M).map (·.2) = withL (ps.map (·.2)) x.2) ∧ SH (fun _ => False) w0 wc L
def RwRel (id : Int) (bs : List Blk) (L : List Asr) (w0 : World) (vi : Value) (wr : World) : Prop :=
  ∃ k : Nat, vi = .int .i64 (k : Int) ∧ k ≤ bs.length ∧ SH (fun _ => False) w0 wr L ∧ Hid (∀ j (hj : j < k) (hj2 : j < bs.length), bs[j].id < id)
theorem rw_end {epoch old phase mode next gen : Int} {ps tk dr : List BV} {x : BV} {N M : Nat} {w0 w : World} {bv : Value} {A : Option Addr} {c : Nat} (hT : ps.take N = tk) (hD : ps.drop M = dr) (hwl : (tk ++ x :: dr).map (·.2) = withL (ps.map (·.2)) x.2) (hb : BsR w0 bv ps) (hx : RdS (encInt .u8) 1 w0 x.wv x.2.wrap)
    (h : w.ownsRow 0 45 6 (.slice A (tk.length + 1 + dr.length) c) (tk.length + 1 + dr.length) ([] ++ cellsOf bvCells tk ++ cellsOf bvCells [x] ++ cellsOf bvCells dr)) (hE : Ext0 w0 w) :
    GivesTab w0 ⟨epoch, old, phase, mode, next, gen, withL (ps.map (·.2)) x.2⟩ (.returned (tabV ⟨epoch, old, phase, mode, next, gen, []⟩ (.slice A (tk.length + 1 + dr.length) c))) w := by
  have hlen : tk.length + 1 + dr.length = (tk ++ x :: dr).length := by rw [List.length_append, List.length_cons]; omega
  refine ⟨.slice A (tk.length + 1 + dr.length) c, tk ++ x :: dr, rfl, hwl, ⟨RdS.own (base := 0) (T := 45) bvLen hlen ?_, fun q hq => ?_⟩, hE⟩
  · have : [] ++ cellsOf bvCells tk ++ cellsOf bvCells [x] ++ cellsOf bvCells dr = cellsOf bvCells (tk ++ x :: dr) := by
      rw [cellsOf_append, List.nil_append, List.append_assoc]
      rfl
    rw [this] at h
    exact h
  · rcases List.mem_append.1 hq with hq | hq
    · rw [← hT] at hq
      exact (hb.wrap q (List.mem_of_mem_take hq)).keep hE
    · rcases List.mem_cons.1 hq with rfl | hq
      · exact hx.keep hE
      · rw [← hD] at hq
        exact (hb.wrap q (List.mem_of_mem_drop hq)).keep hE
set_option maxRecDepth 100000 in
set_option maxHeartbeats 4000000 in
theorem refWith_any (t : Tab) (bv : Value) (ps : List BV) (x : BV) (w0 : World) (hps : ps.map (·.2) = t.bs) (hb : BsR w0 bv ps) (hn : ps.length ≤ 1000) (hx : RdS (encInt .u8) 1 w0 x.wv x.2.wrap) :
    Calls Try.prog 25 #[tabV t bv, blkV x] w0 (GivesTab w0 { t with bs := withL t.bs x.2 }) := by
  have hfind := fun {W : World} (hE : Ext0 w0 W) => refFindT_any t bv ps x.2.id W hps (hb.row.keep hE) (by omega)
  obtain ⟨A, cap, rfl, hcap⟩ := hb.row.len
  obtain ⟨epoch, old, phase, mode, next, gen, bs⟩ := t
  simp only [tabV] at hfind hps ⊢
  subst hps
  obtain ⟨⟨WA, wc0⟩, b1, b2, b3, b4, b5, f⟩ := x
  simp only [blkV, BV.wv] at hfind hx ⊢
  have H : SH (fun _ => False) w0 w0 [] := SH.nil _ _
  have HX := Lib.hid hx
  have HB := Lib.hid hb
  clear hx hb
  go_enter Try.func25, Try.ntmps25
  go_upto_region 1 with (first
    | (refine L_box (L := []) rfl rfl H rfl rfl ?_; clear H; intro gt w H; (try simp only [Act.eval, Array.getD_eq_getD_getElem?, List.getElem?_toArray, List.getElem?_cons_succ, List.getElem?_cons_zero, Option.getD_some, Value.cells] at H); (try simp only [Act.put, List.setIfInBounds_toArray, List.set_cons_succ, List.set_cons_zero, List.getElem_toArray, List.getElem_cons_succ, List.getElem_cons_zero]))
    | (refine L_box (L := [_]) rfl rfl H rfl rfl ?_; clear H; intro gx w H; (try simp only [Act.eval, Array.getD_eq_getD_getElem?, List.getElem?_toArray, List.getElem?_cons_succ, List.getElem?_cons_zero, Option.getD_some, Value.cells] at H); (try simp only [Act.put, List.setIfInBounds_toArray, List.set_cons_succ, List.set_cons_zero, List.getElem_toArray, List.getElem_cons_succ, List.getElem_cons_zero]))
    | (refine L_alloc rfl rfl H Try.zeroValue24 ?_; clear H; intro g4 w H; simp only [Value.cells] at H; (try simp only [Act.put, List.setIfInBounds_toArray, List.set_cons_succ, List.set_cons_zero, List.getElem_toArray, List.getElem_cons_succ, List.getElem_cons_zero])))
  go_upto_if 13 with (first
    | (refine L_loadrow rfl rfl H 2 rfl rfl Try.underlying24 rfl info24 rfl ?_; (try simp only [Act.put, List.setIfInBounds_toArray, List.set_cons_succ, List.set_cons_zero, List.getElem_toArray, List.getElem_cons_succ, List.getElem_cons_zero]))
    | (refine L_load1 rfl rfl H 1 rfl rfl rfl Try.isAgg3 ?_; (try simp only [Act.put, List.setIfInBounds_toArray, List.set_cons_succ, List.set_cons_zero, List.getElem_toArray, List.getElem_cons_succ, List.getElem_cons_zero]))
    | (go_at_call 23; refine (hfind H.ext).mono ?_; rintro e w2 ⟨rfl, hE⟩; replace H := H.calls hE; clear hE)
    | (refine L_lit (e := 45) (cs := #[]) rfl rfl H (by intro _; first | (go_simp; done) | (go_simp; rfl)) ?_; clear H; intro ge w H; replace H := H.drop (List.sublist_cons_self _ _)))
  clear hfind
  go_cut [5, 6] from 7 to 40 (fun s5 s6 wc => RestRel ps ((WA, wc0), ⟨b1, b2, b3, b4, b5, f⟩) w0 [pt g4 (.cells #[.int .i64 0, .int .i64 0, .int .i64 0, .int .i64 0, .int .i64 0, .int .i64 0, .slice none 0 0] 24 (0, 0)), pt gx (.cells #[.int .i64 b1, .int .i64 b2, .int .i64 b3, .int .i64 b4, .int .i64 b5, .slice WA f.length wc0] 45 (0, 0)), pt gt (.cells #[.int .i64 epoch, .int .i64 old, .int .i64 phase, .int .i64 mode, .int .i64 next, .int .i64 gen, .slice A ps.length cap] 24 (0, 0))] s5 s6 wc)
  case first =>
    rcases idxF_cases (fun b => b.id == b1) (ps.map (·.2)) with hf | ⟨k, hf, hk⟩
    case inr =>
      rw [List.length_map] at hk
      have hfp : findP b1 (ps.map (·.2)) = (k : Int) := hf
      clear hf
      have hwl : (ps.take k ++ ((WA, wc0), ⟨b1, b2, b3, b4, b5, f⟩) :: ps.drop (k + 1)).map (·.2) = withL (ps.map (·.2)) ⟨b1, b2, b3, b4, b5, f⟩ := by
        unfold withL
        simp only
        rw [hfp, if_neg (by omega), Int.toNat_natCast, List.set_eq_take_append_cons_drop, List.length_map, if_pos hk, List.map_append, List.map_cons, List.map_take, List.map_drop]
      have HW := Lib.hid hwl
      rw [hfp]
      clear hwl hfp
      have hk1 : IntKind.i64.wrap ((k : Int) + 1) = (k : Int) + 1 := by rw [IntKind.wrap_i64]; omega
      have hk2 : ((k : Int) + 1).toNat = k + 1 := by omega
      have hk3 : 0 ≤ (k : Int) + 1 := by omega
      have hk4 : (k : Int) + 1 ≤ (ps.length : Int) := by omega
      obtain ⟨bb, off, cs, T, fr, rfl, _, _⟩ := HB.out.row.cell hk
      have hd := HB.out.row.dropG (k + 1) (by omega)
      have hz : RdS bvCells 6 w0 (.slice (some ⟨bb, off, none⟩) 0 0) (ps.drop ps.length) := by rw [List.drop_length]; exact RdS.nilG _ _
      have HD := Lib.hid (And.intro hd hz)
      clear hd hz
      by_cases hce : cap = k + 1
      · have hpl : ps.length = k + 1 := by omega
        have HPL := Lib.hid hpl
        subst hce
        clear hpl
        go_wp2_with (first
          | (refine L_load1 rfl rfl H 2 rfl rfl rfl Try.isAgg22 ?_; (try simp only [Act.put, List.setIfInBounds_toArray, List.set_cons_succ, List.set_cons_zero, List.getElem_toArray, List.getElem_cons_succ, List.getElem_cons_zero])))
        go_meet
        case rel => exact ⟨k, ps.length, rfl, by omega, Nat.le_refl _, by
          have := HD.out.2
          have h9 := HPL.out
          first | exact this | (rw [h9] at this ⊢; simpa using this), by have h9 := HPL.out; rw [h9]; exact HW, H⟩
      · go_wp2_with (first
          | (refine L_load1 rfl rfl H 2 rfl rfl rfl Try.isAgg22 ?_; (try simp only [Act.put, List.setIfInBounds_toArray, List.set_cons_succ, List.set_cons_zero, List.getElem_toArray, List.getElem_cons_succ, List.getElem_cons_zero])))
        go_meet
        case rel => exact ⟨k, k + 1, rfl, by omega, by omega, HD.out.1, HW, H⟩
    case inl =>
      have hfp : findP b1 (ps.map (·.2)) = -1 := hf
      have HF := Lib.hid hfp
      rw [hfp]
      clear hf hfp
      go_wp2_with fail
      go_loopw [5] (fun vi wr => RwRel b1 (ps.map (·.2)) [pt g4 (.cells #[.int .i64 0, .int .i64 0, .int .i64 0, .int .i64 0, .int .i64 0, .int .i64 0, .slice none 0 0] 24 (0, 0)), pt gx (.cells #[.int .i64 b1, .int .i64 b2, .int .i64 b3, .int .i64 b4, .int .i64 b5, .slice WA f.length wc0] 45 (0, 0)), pt gt (.cells #[.int .i64 epoch, .int .i64 old, .int .i64 phase, .int .i64 mode, .int .i64 next, .int .i64 gen, .slice A ps.length cap] 24 (0, 0))] w0 vi wr) (fun vi _ => ps.length - (intOf vi).toNat)
      case atStart => exact ⟨0, rfl, Nat.zero_le _, H, Lib.hid (fun j hj => absurd hj (Nat.not_lt_zero _))⟩
      case round =>
        clear H
        obtain ⟨k, rfl, hk, H, HA⟩ := hrel
        rw [List.length_map] at hk
        by_cases hkn : k < ps.length
        · have hki : (k : Int) < (ps.length : Int) := by omega
          obtain ⟨p, hp⟩ : ∃ p, ps[k] = p := ⟨_, rfl⟩
          obtain ⟨bb, off, cs, T, fr, rfl, hbb, hcs⟩ := HB.out.row.cell hkn
          rw [hp] at hcs
          have hpid : cs[off + k * 6]? = some (.int .i64 p.2.id) := by have := hcs 0 (by omega); rw [Nat.add_zero] at this; rw [this]; rfl
          have HP := Lib.hid hp
          clear hcs hp
          obtain ⟨pid, hpe⟩ : ∃ pid, p.2.id = pid := ⟨_, rfl⟩
          rw [hpe] at hpid
          have HPE := Lib.hid hpe
          clear hpe
          go_upto_region 6 with fail
          refine D_start H (by kernel_rfl) (fun hS => ?_)
          try simp only [Act.put, List.setIfInBounds_toArray, List.set_cons_succ, List.set_cons_zero]
          refine D_take 0 rfl (by kernel_rfl) (by kernel_rfl) (by kernel_rfl) (v := ?_) (fun _ _ _ h => h) rfl (by rfl) ?_ hS ?_
          rotate_left; (focus (intro W hS; first | (go_simp; done) | (go_simp; with_reducible rfl) | (go_simp; rfl))); all_goals skip; (try simp only [List.set_cons_succ, List.set_cons_zero])
          refine D_take 1 rfl (by kernel_rfl) (by kernel_rfl) (by kernel_rfl) (v := ?_) (fun _ _ _ h => h) rfl (by rfl) ?_ hS ?_
          rotate_left; (focus (intro W hS; first | (go_simp; done) | (go_simp; with_reducible rfl) | (go_simp; rfl))); all_goals skip; (try simp only [List.set_cons_succ, List.set_cons_zero])
          refine D_take 2 rfl (by kernel_rfl) (by kernel_rfl) (by kernel_rfl) (v := ?_) (fun _ _ _ h => h) rfl (by rfl) ?_ hS ?_
          rotate_left; (focus (intro W hS; first | (refine R_load1 (ty := 22) (x := Operand.tmp 20) rfl hS 1 rfl rfl ?_ Try.isAgg22; rfl) | (refine R_load1 (ty := 22) (x := Operand.tmp 20) rfl hS 2 rfl rfl ?_ Try.isAgg22; rfl))); all_goals skip; (try simp only [List.set_cons_succ, List.set_cons_zero, List.getElem_toArray, List.getElem_cons_succ, List.getElem_cons_zero])
          refine D_take 3 rfl (by kernel_rfl) (by kernel_rfl) (by kernel_rfl) (v := ?_) (fun _ _ _ h => h) rfl (by rfl) ?_ hS ?_
          rotate_left; (focus (intro W hS; first | (go_simp; done) | (go_simp; with_reducible rfl) | (go_simp; rfl))); all_goals skip; (try simp only [List.set_cons_succ, List.set_cons_zero])
          refine D_takeB 4 rfl (by kernel_rfl) (by kernel_rfl) (by kernel_rfl) (q := ?_) (fun _ _ _ h => h) rfl (by rfl) hS ?_ ?_
          rotate_left; (focus (intro W hS; first | (go_simp; done) | (go_simp; with_reducible rfl) | (go_simp; rfl))); all_goals skip; (try simp only [List.set_cons_succ, List.set_cons_zero])
          intro cw4 Hcw4
          refine D_take 5 rfl (by kernel_rfl) (by kernel_rfl) (by kernel_rfl) (v := ?_) (fun _ _ _ h => h) rfl (by rfl) ?_ hS ?_
          rotate_left; (focus (intro W hS; first | (go_simp; done) | (go_simp; with_reducible rfl) | (go_simp; rfl))); all_goals skip; (try simp only [List.set_cons_succ, List.set_cons_zero])
          refine D_maybe 6 cw4 rfl (by kernel_rfl) (by kernel_rfl) (by kernel_rfl) (v := ?_) (fun _ _ _ _ h => h) rfl (by cases cw4 <;> rfl) hS ?_ ?_
          rotate_left; (focus (intro hb; intro W hS; (try simp only [Bool.and_eq_true, Bool.not_eq_true'] at hb); have hb0 := hb; (try simp only [hb0, Bool.not_false, Bool.not_true, Bool.and_true, Bool.true_and, Bool.and_self, cond_true, cond_false]); first | (go_simp; done) | (go_simp; with_reducible rfl) | (go_simp; rfl))); all_goals skip; (try simp only [List.set_cons_succ, List.set_cons_zero])
          refine D_maybe 7 cw4 rfl (by kernel_rfl) (by kernel_rfl) (by kernel_rfl) (v := ?_) (fun _ _ _ _ h => h) rfl (by cases cw4 <;> rfl) hS ?_ ?_
          rotate_left; (focus (intro hb; intro W hS; (try simp only [Bool.and_eq_true, Bool.not_eq_true'] at hb); have hb0 := hb; (try simp only [hb0, Bool.not_false, Bool.not_true, Bool.and_true, Bool.true_and, Bool.and_self, cond_true, cond_false]); first | (refine R_load1 (ty := 22) (x := Operand.tmp 25) rfl hS 1 rfl rfl ?_ Try.isAgg22; rfl) | (refine R_load1 (ty := 22) (x := Operand.tmp 25) rfl hS 2 rfl rfl ?_ Try.isAgg22; rfl))); all_goals skip; (try simp only [List.set_cons_succ, List.set_cons_zero, List.getElem_toArray, List.getElem_cons_succ, List.getElem_cons_zero])
          refine D_maybe 8 cw4 rfl (by kernel_rfl) (by kernel_rfl) (by kernel_rfl) (v := ?_) (fun _ _ _ _ h => h) rfl (by cases cw4 <;> rfl) hS ?_ ?_
          rotate_left; (focus (intro hb; intro W hS; (try simp only [Bool.and_eq_true, Bool.not_eq_true'] at hb); have hb0 := hb; (try simp only [hb0, Bool.not_false, Bool.not_true, Bool.and_true, Bool.true_and, Bool.and_self, cond_true, cond_false]); first | (go_simp; done) | (go_simp; with_reducible rfl) | (go_simp; rfl))); all_goals skip; (try simp only [List.set_cons_succ, List.set_cons_zero])
          refine D_maybe 9 cw4 rfl (by kernel_rfl) (by kernel_rfl) (by kernel_rfl) (v := ?_) (fun _ _ _ _ h => h) rfl (by cases cw4 <;> rfl) hS ?_ ?_
          rotate_left; (focus (intro hb; intro W hS; (try simp only [Bool.and_eq_true, Bool.not_eq_true'] at hb); have hb0 := hb; (try simp only [hb0, Bool.not_false, Bool.not_true, Bool.and_true, Bool.true_and, Bool.and_self, cond_true, cond_false]); first | (go_simp; done) | (go_simp; with_reducible rfl) | (go_simp; rfl))); all_goals skip; (try simp only [List.set_cons_succ, List.set_cons_zero])
          refine D_maybe 10 cw4 rfl (by kernel_rfl) (by kernel_rfl) (by kernel_rfl) (v := ?_) (fun _ _ _ _ h => h) rfl (by cases cw4 <;> rfl) hS ?_ ?_
          rotate_left; (focus (intro hb; intro W hS; (try simp only [Bool.and_eq_true, Bool.not_eq_true'] at hb); have hb0 := hb; (try simp only [hb0, Bool.not_false, Bool.not_true, Bool.and_true, Bool.true_and, Bool.and_self, cond_true, cond_false]); first | (go_simp; done) | (go_simp; with_reducible rfl) | (go_simp; rfl))); all_goals skip; (try simp only [List.set_cons_succ, List.set_cons_zero])
          refine D_maybe 11 cw4 rfl (by kernel_rfl) (by kernel_rfl) (by kernel_rfl) (v := (.int .i64 pid)) (fun _ _ _ _ h => h) rfl (by cases cw4 <;> rfl) hS ?_ ?_
          (focus (intro hb; intro W hS; (try simp only [Bool.and_eq_true, Bool.not_eq_true'] at hb); have hb0 := hb; (try simp only [hb0, Bool.not_false, Bool.not_true, Bool.and_true, Bool.true_and, Bool.and_self, cond_true, cond_false]); exact R_load1r (ty := 3) (x := .tmp 29) (off := off + k * 6) rfl hS rfl hbb (fun e => e) hpid Try.isAgg3)); all_goals skip; (try simp only [List.set_cons_succ, List.set_cons_zero, List.getElem_toArray, List.getElem_cons_succ, List.getElem_cons_zero])
          refine D_maybe 12 cw4 rfl (by kernel_rfl) (by kernel_rfl) (by kernel_rfl) (v := ?_) (fun _ _ _ _ h => h) rfl (by cases cw4 <;> rfl) hS ?_ ?_
          rotate_left; (focus (intro hb; intro W hS; (try simp only [Bool.and_eq_true, Bool.not_eq_true'] at hb); have hb0 := hb; (try simp only [hb0, Bool.not_false, Bool.not_true, Bool.and_true, Bool.true_and, Bool.and_self, cond_true, cond_false]); first | (go_simp; done) | (go_simp; with_reducible rfl) | (go_simp; rfl))); all_goals skip; (try simp only [List.set_cons_succ, List.set_cons_zero])
          refine D_maybe 13 cw4 rfl (by kernel_rfl) (by kernel_rfl) (by kernel_rfl) (v := ?_) (fun _ _ _ _ h => h) rfl (by cases cw4 <;> rfl) hS ?_ ?_
          rotate_left; (focus (intro hb; intro W hS; (try simp only [Bool.and_eq_true, Bool.not_eq_true'] at hb); have hb0 := hb; (try simp only [hb0, Bool.not_false, Bool.not_true, Bool.and_true, Bool.true_and, Bool.and_self, cond_true, cond_false]); first | (refine R_load1 (ty := 3) (x := Operand.tmp 31) rfl hS 1 rfl rfl ?_ Try.isAgg3; rfl) | (refine R_load1 (ty := 3) (x := Operand.tmp 31) rfl hS 2 rfl rfl ?_ Try.isAgg3; rfl))); all_goals skip; (try simp only [List.set_cons_succ, List.set_cons_zero, List.getElem_toArray, List.getElem_cons_succ, List.getElem_cons_zero])
          refine D_maybeB 14 cw4 rfl (by kernel_rfl) (by kernel_rfl) (by kernel_rfl) (q := ?_) (fun _ _ _ _ h => h) rfl (by cases cw4 <;> rfl) hS ?_ ?_
          rotate_left; (focus (intro hb; intro W hS; (try simp only [Bool.and_eq_true, Bool.not_eq_true'] at hb); have hb0 := hb; (try simp only [hb0, Bool.not_false, Bool.not_true, Bool.and_true, Bool.true_and, Bool.and_self, cond_true, cond_false]); first | (go_simp; done) | (go_simp; with_reducible rfl) | (go_simp; rfl))); all_goals skip; (try simp only [List.set_cons_succ, List.set_cons_zero])
          intro cw14 Hcw14
          refine D_takeB 15 rfl (by kernel_rfl) (by kernel_rfl) (by kernel_rfl) (q := (cw4 && cw14)) (fun _ _ _ h => h) rfl (by rfl) hS ?_ ?_
          (focus (intro W hS; cases cw14 <;> cases cw4 <;> (first | (go_simp; done) | (go_simp; with_reducible rfl) | (go_simp; rfl)))); all_goals skip; (try simp only [List.set_cons_succ, List.set_cons_zero])
          intro cw15 Hcw15
          have hcnd := Hcw15.out
          simp only [Hcw4.out, Hcw14.out] at hcnd
          replace hcnd := Lib.hid hcnd
          clear Hcw15 Hcw4 Hcw14
          refine wpAnyH_done (by kernel_rfl) ?_ _
          clear H
          have H := hS
          clear hS
          have hcc : cw15 = decide (pid < b1) := by rw [hcnd.out]; simp
          have HCC := Lib.hid hcc
          clear hcnd hcc
          have hkb : k < (ps.map (·.2)).length := by rw [List.length_map]; exact hkn
          have hbk : (ps.map (fun (q : BV) => q.2))[k].id = pid := by rw [List.getElem_map, HP.out]; exact HPE.out
          have HBK := Lib.hid hbk
          clear hbk
          cases cw15
          · have hge : ¬ pid < b1 := by have := HCC.out.symm; simpa using this
            have HGE := Lib.hid (show ∀ h : k < (ps.map (·.2)).length, ¬ (ps.map (fun (q : BV) => q.2))[k].id < b1 from fun h => by rw [HBK.out]; exact hge)
            clear hge
            have hins := ins_prefix HF.out (n := k) (by rw [List.length_map]; omega) HA.out HGE.out
            have hwl : (ps.take (k) ++ ((WA, wc0), ⟨b1, b2, b3, b4, b5, f⟩) :: ps.drop (k)).map (·.2) = withL (ps.map (·.2)) ⟨b1, b2, b3, b4, b5, f⟩ := by
              unfold withL
              simp only
              rw [HF.out, if_pos (by omega), hins, List.map_append, List.map_cons, List.map_take, List.map_drop]
            have HW := Lib.hid hwl
            clear hwl hins
            have hd := HB.out.row.dropG k (by omega)
            have HD := Lib.hid hd
            have hcne : ¬ (cap = k) := by omega
            have hki2 : (k : Int) ≤ (ps.length : Int) := by omega
            clear hd
            go_wp2_with (first
              | (refine L_load1 rfl rfl H 2 rfl rfl rfl Try.isAgg22 ?_; (try simp only [Act.put, List.setIfInBounds_toArray, List.set_cons_succ, List.set_cons_zero, List.getElem_toArray, List.getElem_cons_succ, List.getElem_cons_zero])))
            go_meet
            case rel => exact ⟨k, k, rfl, by omega, by omega, HD.out, HW, H⟩
          · have hlt : pid < b1 := by have := HCC.out.symm; simpa using this
            have HLT := Lib.hid hlt
            clear hlt
            go_wp2_with fail
            go_roundw
            case rel => exact ⟨k + 1, by go_num, by rw [List.length_map]; omega, H, Lib.hid (fun j hj hj2 => by
              by_cases hjk : j < k
              · exact HA.out j hjk hj2
              · obtain rfl : j = k := by omega
                rw [HBK.out]
                exact HLT.out)⟩
            case measure => simp [intOf]; omega
        · obtain rfl : k = ps.length := by omega
          have hjn2 : ¬ ((ps.length : Int) < (ps.length : Int)) := by omega
          have HGE := Lib.hid (show ∀ h : ps.length < (ps.map (·.2)).length, ¬ (ps.map (fun (q : BV) => q.2))[ps.length].id < b1 from fun h => by rw [List.length_map] at h; omega)
          have hins := ins_prefix HF.out (n := ps.length) (by rw [List.length_map]; omega) HA.out HGE.out
          have hwl : (ps.take (ps.length) ++ ((WA, wc0), ⟨b1, b2, b3, b4, b5, f⟩) :: ps.drop (ps.length)).map (·.2) = withL (ps.map (·.2)) ⟨b1, b2, b3, b4, b5, f⟩ := by
            unfold withL
            simp only
            rw [HF.out, if_pos (by omega), hins, List.map_append, List.map_cons, List.map_take, List.map_drop]
          have HW := Lib.hid hwl
          clear hwl hins
          go_upto_region 6 with fail
          refine D_start H (by kernel_rfl) (fun hS => ?_)
          try simp only [Act.put, List.setIfInBounds_toArray, List.set_cons_succ, List.set_cons_zero]
          refine D_take 0 rfl (by kernel_rfl) (by kernel_rfl) (by kernel_rfl) (v := ?_) (fun _ _ _ h => h) rfl (by rfl) ?_ hS ?_
          rotate_left; (focus (intro W hS; first | (go_simp; done) | (go_simp; with_reducible rfl) | (go_simp; rfl))); all_goals skip; (try simp only [List.set_cons_succ, List.set_cons_zero])
          refine D_take 1 rfl (by kernel_rfl) (by kernel_rfl) (by kernel_rfl) (v := ?_) (fun _ _ _ h => h) rfl (by rfl) ?_ hS ?_
          rotate_left; (focus (intro W hS; first | (go_simp; done) | (go_simp; with_reducible rfl) | (go_simp; rfl))); all_goals skip; (try simp only [List.set_cons_succ, List.set_cons_zero])
          refine D_take 2 rfl (by kernel_rfl) (by kernel_rfl) (by kernel_rfl) (v := ?_) (fun _ _ _ h => h) rfl (by rfl) ?_ hS ?_
          rotate_left; (focus (intro W hS; first | (refine R_load1 (ty := 22) (x := Operand.tmp 20) rfl hS 1 rfl rfl ?_ Try.isAgg22; rfl) | (refine R_load1 (ty := 22) (x := Operand.tmp 20) rfl hS 2 rfl rfl ?_ Try.isAgg22; rfl))); all_goals skip; (try simp only [List.set_cons_succ, List.set_cons_zero, List.getElem_toArray, List.getElem_cons_succ, List.getElem_cons_zero])
          refine D_take 3 rfl (by kernel_rfl) (by kernel_rfl) (by kernel_rfl) (v := ?_) (fun _ _ _ h => h) rfl (by rfl) ?_ hS ?_
          rotate_left; (focus (intro W hS; first | (go_simp; done) | (go_simp; with_reducible rfl) | (go_simp; rfl))); all_goals skip; (try simp only [List.set_cons_succ, List.set_cons_zero])
          refine D_takeB 4 rfl (by kernel_rfl) (by kernel_rfl) (by kernel_rfl) (q := ?_) (fun _ _ _ h => h) rfl (by rfl) hS ?_ ?_
          rotate_left; (focus (intro W hS; first | (go_simp; done) | (go_simp; with_reducible rfl) | (go_simp; rfl))); all_goals skip; (try simp only [List.set_cons_succ, List.set_cons_zero])
          intro cw4 Hcw4
          refine D_take 5 rfl (by kernel_rfl) (by kernel_rfl) (by kernel_rfl) (v := ?_) (fun _ _ _ h => h) rfl (by rfl) ?_ hS ?_
          rotate_left; (focus (intro W hS; first | (go_simp; done) | (go_simp; with_reducible rfl) | (go_simp; rfl))); all_goals skip; (try simp only [List.set_cons_succ, List.set_cons_zero])
          refine D_maybe 6 cw4 rfl (by kernel_rfl) (by kernel_rfl) (by kernel_rfl) (v := ?_) (fun _ _ _ _ h => h) rfl (by cases cw4 <;> rfl) hS ?_ ?_
          rotate_left; (focus (intro hb; intro W hS; (try simp only [Bool.and_eq_true, Bool.not_eq_true'] at hb); have hb0 := hb; (try simp only [hb0, Bool.not_false, Bool.not_true, Bool.and_true, Bool.true_and, Bool.and_self, cond_true, cond_false]); first | (go_simp; done) | (go_simp; with_reducible rfl) | (go_simp; rfl))); all_goals skip; (try simp only [List.set_cons_succ, List.set_cons_zero])
          refine D_maybe 7 cw4 rfl (by kernel_rfl) (by kernel_rfl) (by kernel_rfl) (v := ?_) (fun _ _ _ _ h => h) rfl (by cases cw4 <;> rfl) hS ?_ ?_
          rotate_left; (focus (intro hb; intro W hS; (try simp only [Bool.and_eq_true, Bool.not_eq_true'] at hb); have hb0 := hb; (try simp only [hb0, Bool.not_false, Bool.not_true, Bool.and_true, Bool.true_and, Bool.and_self, cond_true, cond_false]); first | (refine R_load1 (ty := 22) (x := Operand.tmp 25) rfl hS 1 rfl rfl ?_ Try.isAgg22; rfl) | (refine R_load1 (ty := 22) (x := Operand.tmp 25) rfl hS 2 rfl rfl ?_ Try.isAgg22; rfl))); all_goals skip; (try simp only [List.set_cons_succ, List.set_cons_zero, List.getElem_toArray, List.getElem_cons_succ, List.getElem_cons_zero])
          refine D_maybe 8 cw4 rfl (by kernel_rfl) (by kernel_rfl) (by kernel_rfl) (v := ?_) (fun _ _ _ _ h => h) rfl (by cases cw4 <;> rfl) hS ?_ ?_
          rotate_left; (focus (intro hb; intro W hS; (try simp only [Bool.and_eq_true, Bool.not_eq_true'] at hb); have hb0 := hb; (try simp only [hb0, Bool.not_false, Bool.not_true, Bool.and_true, Bool.true_and, Bool.and_self, cond_true, cond_false]); first | (go_simp; done) | (go_simp; with_reducible rfl) | (go_simp; rfl))); all_goals skip; (try simp only [List.set_cons_succ, List.set_cons_zero])
          refine D_maybe 9 cw4 rfl (by kernel_rfl) (by kernel_rfl) (by kernel_rfl) (v := undef) (fun _ _ _ _ h => h) rfl (by cases cw4 <;> rfl) hS ?_ ?_
          (focus (intro hb; intro W hS; (try simp only [Bool.and_eq_true, Bool.not_eq_true'] at hb); have hb0 := hb; (try simp only [hb0, Bool.not_false, Bool.not_true, Bool.and_true, Bool.true_and, Bool.and_self, cond_true, cond_false]); exfalso; exact absurd (hb0.symm.trans Hcw4.out) (by decide))); all_goals skip; (try simp only [List.set_cons_succ, List.set_cons_zero])
          refine D_maybe 10 cw4 rfl (by kernel_rfl) (by kernel_rfl) (by kernel_rfl) (v := undef) (fun _ _ _ _ h => h) rfl (by cases cw4 <;> rfl) hS ?_ ?_
          (focus (intro hb; intro W hS; (try simp only [Bool.and_eq_true, Bool.not_eq_true'] at hb); have hb0 := hb; (try simp only [hb0, Bool.not_false, Bool.not_true, Bool.and_true, Bool.true_and, Bool.and_self, cond_true, cond_false]); exfalso; exact absurd (hb0.symm.trans Hcw4.out) (by decide))); all_goals skip; (try simp only [List.set_cons_succ, List.set_cons_zero])
          refine D_maybe 11 cw4 rfl (by kernel_rfl) (by kernel_rfl) (by kernel_rfl) (v := undef) (fun _ _ _ _ h => h) rfl (by cases cw4 <;> rfl) hS ?_ ?_
          (focus (intro hb; intro W hS; (try simp only [Bool.and_eq_true, Bool.not_eq_true'] at hb); have hb0 := hb; (try simp only [hb0, Bool.not_false, Bool.not_true, Bool.and_true, Bool.true_and, Bool.and_self, cond_true, cond_false]); exfalso; exact absurd (hb0.symm.trans Hcw4.out) (by decide))); all_goals skip; (try simp only [List.set_cons_succ, List.set_cons_zero, List.getElem_toArray, List.getElem_cons_succ, List.getElem_cons_zero])
          refine D_maybe 12 cw4 rfl (by kernel_rfl) (by kernel_rfl) (by kernel_rfl) (v := ?_) (fun _ _ _ _ h => h) rfl (by cases cw4 <;> rfl) hS ?_ ?_
          rotate_left; (focus (intro hb; intro W hS; (try simp only [Bool.and_eq_true, Bool.not_eq_true'] at hb); have hb0 := hb; (try simp only [hb0, Bool.not_false, Bool.not_true, Bool.and_true, Bool.true_and, Bool.and_self, cond_true, cond_false]); first | (go_simp; done) | (go_simp; with_reducible rfl) | (go_simp; rfl))); all_goals skip; (try simp only [List.set_cons_succ, List.set_cons_zero])
          refine D_maybe 13 cw4 rfl (by kernel_rfl) (by kernel_rfl) (by kernel_rfl) (v := ?_) (fun _ _ _ _ h => h) rfl (by cases cw4 <;> rfl) hS ?_ ?_
          rotate_left; (focus (intro hb; intro W hS; (try simp only [Bool.and_eq_true, Bool.not_eq_true'] at hb); have hb0 := hb; (try simp only [hb0, Bool.not_false, Bool.not_true, Bool.and_true, Bool.true_and, Bool.and_self, cond_true, cond_false]); first | (refine R_load1 (ty := 3) (x := Operand.tmp 31) rfl hS 1 rfl rfl ?_ Try.isAgg3; rfl) | (refine R_load1 (ty := 3) (x := Operand.tmp 31) rfl hS 2 rfl rfl ?_ Try.isAgg3; rfl))); all_goals skip; (try simp only [List.set_cons_succ, List.set_cons_zero, List.getElem_toArray, List.getElem_cons_succ, List.getElem_cons_zero])
          refine D_maybeB 14 cw4 rfl (by kernel_rfl) (by kernel_rfl) (by kernel_rfl) (q := false) (fun _ _ _ _ h => h) rfl (by cases cw4 <;> rfl) hS ?_ ?_
          (focus (intro hb; intro W hS; (try simp only [Bool.and_eq_true, Bool.not_eq_true'] at hb); have hb0 := hb; (try simp only [hb0, Bool.not_false, Bool.not_true, Bool.and_true, Bool.true_and, Bool.and_self, cond_true, cond_false]); exfalso; exact absurd (hb0.symm.trans Hcw4.out) (by decide))); all_goals skip; (try simp only [List.set_cons_succ, List.set_cons_zero])
          intro cw14 Hcw14
          refine D_takeB 15 rfl (by kernel_rfl) (by kernel_rfl) (by kernel_rfl) (q := (cw4 && cw14)) (fun _ _ _ h => h) rfl (by rfl) hS ?_ ?_
          (focus (intro W hS; cases cw14 <;> cases cw4 <;> (first | (go_simp; done) | (go_simp; with_reducible rfl) | (go_simp; rfl)))); all_goals skip; (try simp only [List.set_cons_succ, List.set_cons_zero])
          intro cw15 Hcw15
          have hcnd := Hcw15.out
          simp only [Hcw4.out, Hcw14.out] at hcnd
          replace hcnd := Lib.hid hcnd
          clear Hcw15 Hcw4 Hcw14
          refine wpAnyH_done (by kernel_rfl) ?_ _
          clear H
          have H := hS
          clear hS
          have hcc : cw15 = false := by rw [hcnd.out]; simp
          subst hcc
          clear hcnd
          have hz : ∀ A c, RdS bvCells 6 w0 (.slice A 0 c) (ps.drop ps.length) := fun A c => by rw [List.drop_length]; exact RdS.nilG _ _
          have HZ := Lib.hid hz
          clear hz
          have hpl : ∃ np, ps.length = np := ⟨_, rfl⟩
          cases A with
          | none =>
            have hp0 : ps = [] := by
              obtain ⟨A', c', he, hc, h | ⟨b, off, cs, T, fr, h, _⟩⟩ := HB.out.row
              · exact h
              · cases he; cases h
            subst hp0
            go_wp2_with (first
              | (refine L_load1 rfl rfl H 2 rfl rfl rfl Try.isAgg22 ?_; (try simp only [Act.put, List.setIfInBounds_toArray, List.set_cons_succ, List.set_cons_zero, List.getElem_toArray, List.getElem_cons_succ, List.getElem_cons_zero])))
            all_goals (go_meet; exact ⟨0, 0, rfl, Nat.le_refl _, Nat.le_refl _, HZ.out _ _, HW, H⟩)
          | some ad =>
            by_cases hce : cap = ps.length
            · subst hce
              go_wp2_with (first
                | (refine L_load1 rfl rfl H 2 rfl rfl rfl Try.isAgg22 ?_; (try simp only [Act.put, List.setIfInBounds_toArray, List.set_cons_succ, List.set_cons_zero, List.getElem_toArray, List.getElem_cons_succ, List.getElem_cons_zero])))
              go_meet
              case rel => exact ⟨ps.length, ps.length, rfl, Nat.le_refl _, Nat.le_refl _, HZ.out _ _, HW, H⟩
            · go_wp2_with (first
                | (refine L_load1 rfl rfl H 2 rfl rfl rfl Try.isAgg22 ?_; (try simp only [Act.put, List.setIfInBounds_toArray, List.set_cons_succ, List.set_cons_zero, List.getElem_toArray, List.getElem_cons_succ, List.getElem_cons_zero])))
              go_meet
              case rel => exact ⟨ps.length, ps.length, rfl, Nat.le_refl _, Nat.le_refl _, by first | exact HZ.out _ _ | (rw [Nat.sub_self]; exact HZ.out _ _), HW, H⟩
  case rest =>
    obtain ⟨N, M, rfl, hN, hM, hrest, HWL, H⟩ := hcut
    have hNi : (N : Int) ≤ (ps.length : Int) := by omega
    have hNc : N ≤ cap := by omega
    have hNci : (N : Int) ≤ (cap : Int) := by omega
    have htake := HB.out.row.takeG N hN
    obtain ⟨Ar, cr, hre, hrc⟩ := hrest.len
    subst hre
    have HR := Lib.hid (And.intro htake hrest)
    clear htake hrest
    have hb1 : (0 + (ps.take N).length) * 64 ≤ 140737488355328 := by rw [List.length_take]; omega
    have hm1 : 0 + (ps.take N).length ≤ maxLen := by rw [List.length_take]; simp only [maxLen]; omega
    have hb2 : (0 + (ps.take N).length + 1) * 64 ≤ 140737488355328 := by rw [List.length_take]; omega
    have hm2 : 0 + (ps.take N).length + 1 ≤ maxLen := by rw [List.length_take]; simp only [maxLen]; omega
    have hb3 : ((ps.take N).length + 1 + (ps.drop M).length) * 64 ≤ 140737488355328 := by rw [List.length_take, List.length_drop]; omega
    have hm3 : (ps.take N).length + 1 + (ps.drop M).length ≤ maxLen := by rw [List.length_take, List.length_drop]; simp only [maxLen]; omega
    generalize hT : ps.take N = tk at *
    generalize hD : ps.drop M = dr at *
    go_upto_region 9 with fail
    have HX9 := H.drop (L' := [_, _]) (List.Sublist.cons _ (List.Sublist.refl _))
    have HW := H.drew
    clear H
    refine D_startX 12 #[false, false, false, false, false, false, false, false, false, false, false, false, false] (by kernel_rfl) HX9 (by kernel_rfl) (fun hS => ?_)
    try simp only [Act.put, List.setIfInBounds_toArray, List.set_cons_succ, List.set_cons_zero]
    refine D_freeX 1 #[false, true, false, false, false, false, false, false, false, false, false, false, false] (by kernel_rfl) (v := ?_) rfl (by kernel_rfl) (by kernel_rfl) (by kernel_rfl) (by kernel_rfl) (fun _ _ _ h => h) rfl (by rfl) (fun W => ?_) hS ?_
    rotate_left; (focus (first | (go_simp; done) | (go_simp; with_reducible rfl) | (go_simp; rfl))); all_goals skip; (try simp only [List.set_cons_succ, List.set_cons_zero])
    refine D_takeX 2 #[false, true, true, false, false, false, false, false, false, false, false, false, false] (by kernel_rfl) (v := ?_) rfl (by kernel_rfl) (by kernel_rfl) (by kernel_rfl) (by kernel_rfl) (by kernel_rfl) (fun _ _ _ h => h) rfl (by rfl) (fun W hS => ?_) hS ?_
    rotate_left; (focus (first | (refine R_load1 (ty := 22) (x := Operand.tmp 42) rfl hS 0 rfl rfl ?_ Try.isAgg22; rfl) | (refine R_load1 (ty := 22) (x := Operand.tmp 42) rfl hS 1 rfl rfl ?_ Try.isAgg22; rfl))); all_goals skip; (try simp only [List.set_cons_succ, List.set_cons_zero, List.getElem_toArray, List.getElem_cons_succ, List.getElem_cons_zero])
    refine D_freeX 3 #[false, true, true, true, false, false, false, false, false, false, false, false, false] (by kernel_rfl) (v := ?_) rfl (by kernel_rfl) (by kernel_rfl) (by kernel_rfl) (by kernel_rfl) (fun _ _ _ h => h) rfl (by rfl) (fun W => ?_) hS ?_
    rotate_left; (focus (first | (go_simp; done) | (go_simp; with_reducible rfl) | (go_simp; rfl))); all_goals skip; (try simp only [List.set_cons_succ, List.set_cons_zero])
    refine D_freeX 4 #[false, true, true, true, true, false, false, false, false, false, false, false, false] (by kernel_rfl) (v := ?_) rfl (by kernel_rfl) (by kernel_rfl) (by kernel_rfl) (by kernel_rfl) (fun _ _ _ h => h) rfl (by rfl) (fun W => ?_) hS ?_
    rotate_left; (focus (first | (go_simp; done) | (go_simp; with_reducible rfl) | (go_simp; rfl))); all_goals skip; (try simp only [List.set_cons_succ, List.set_cons_zero])
    refine D_takeX 6 #[false, true, true, true, true, false, true, false, false, false, false, false, false] (by kernel_rfl) (v := (.agg #[.int .i64 b1, .int .i64 b2, .int .i64 b3, .int .i64 b4, .int .i64 b5, .slice WA f.length wc0])) rfl (by kernel_rfl) (by kernel_rfl) (by kernel_rfl) (by kernel_rfl) (by kernel_rfl) (fun _ _ _ h => h) rfl (by rfl) (fun W hS => R_loadrow (ty := 45) (x := .tmp 3) rfl hS 0 rfl rfl Try.underlying45 rfl info45 rfl) hS ?_; (try simp only [List.set_cons_succ, List.set_cons_zero])
    refine D_freeX 9 #[false, true, true, true, true, false, true, false, false, true, false, false, false] (by kernel_rfl) (v := ?_) rfl (by kernel_rfl) (by kernel_rfl) (by kernel_rfl) (by kernel_rfl) (fun _ _ _ h => h) rfl (by rfl) (fun W => ?_) hS ?_
    rotate_left; (focus (first | (go_simp; done) | (go_simp; with_reducible rfl) | (go_simp; rfl))); all_goals skip; (try simp only [List.set_cons_succ, List.set_cons_zero])
    refine D_twoX 0 7 #[true, true, true, true, true, false, true, false, false, true, false, false, false] #[false, true, true, true, true, false, true, true, false, true, false, false, false] (by kernel_rfl) (by kernel_rfl) rfl rfl (by kernel_rfl) (by rfl) (by rfl) ?_ ?_
    ·
      refine W_litE (e := 45) (cs := #[]) rfl HW (by intro _; first | (go_simp; done) | (go_simp; rfl)) ?_
      intro ge w' HW5 hE
      have HW6 := HW5.toOwn 0 rfl 6 0 0 (Nat.le_refl _) (Nat.zero_le _) rfl [] rfl
      simp only [List.set_cons_zero] at HW6
      clear HW HW5 hE
      have HW := HW6
      clear HW6
      clear hS
      have hS := HW.drop (L' := [_, _]) (List.Sublist.cons _ (List.Sublist.cons _ (List.Sublist.cons_cons _ (List.Sublist.cons_cons _ (List.nil_sublist _)))))
      refine ⟨hS, ?_⟩
      try simp only [Act.put, List.getElem_toArray, List.getElem_cons_succ, List.getElem_cons_zero, List.setIfInBounds_toArray, List.set_cons_succ, List.set_cons_zero]
      refine D_twoX 5 7 #[true, true, true, true, true, true, true, false, false, true, false, false, false] #[true, true, true, true, true, false, true, true, false, true, false, false, false] (by kernel_rfl) (by kernel_rfl) rfl rfl (by kernel_rfl) (by rfl) (by rfl) ?_ ?_
      ·
        refine W_append bvLen bvOne (s := .tmp 41) (x := .tmp 45) (xv := .slice A N cap) (ys := tk) rfl Try.underlying22 infoBZ rfl (by decide) HW 0 rfl rfl rfl (HR.out.1.keep HW.ext) hb1 hm1 ?_
        intro vn w' HW7 hnn
        simp only [List.set_cons_succ, List.set_cons_zero] at HW7
        clear HW hnn
        have HW := HW7
        clear HW7 hS
        have hS := HW.drop (L' := [_, _]) (List.Sublist.cons _ (List.Sublist.cons _ (List.Sublist.cons_cons _ (List.Sublist.cons_cons _ (List.nil_sublist _)))))
        refine ⟨hS, ?_⟩
        try simp only [Act.put, List.getElem_toArray, List.getElem_cons_succ, List.getElem_cons_zero, List.setIfInBounds_toArray, List.set_cons_succ, List.set_cons_zero]
        refine D_oneX 7 #[true, true, true, true, true, true, true, true, false, true, false, false, false] (by kernel_rfl) rfl (by kernel_rfl) (by rfl) ?_
        refine W_litE (e := 45) (cs := #[.int .i64 b1, .int .i64 b2, .int .i64 b3, .int .i64 b4, .int .i64 b5, .slice WA f.length wc0]) rfl HW (by intro _; first | (go_simp; done) | (go_simp; rfl)) ?_
        intro gl w' HW6 hE
        clear HW hE
        have HW := HW6
        clear HW6
        clear hS
        have hS := HW.drop (L' := [_, _]) (List.Sublist.cons _ (List.Sublist.cons _ (List.Sublist.cons _ (List.Sublist.cons_cons _ (List.Sublist.cons_cons _ (List.nil_sublist _))))))
        refine ⟨hS, ?_⟩
        try simp only [Act.put, List.getElem_toArray, List.getElem_cons_succ, List.getElem_cons_zero, List.setIfInBounds_toArray, List.set_cons_succ, List.set_cons_zero]
        refine D_oneX 8 #[true, true, true, true, true, true, true, true, true, true, false, false, false] (by kernel_rfl) rfl (by kernel_rfl) (by rfl) ?_
        refine W_append bvLen bvOne (s := .tmp 46) (x := .tmp 48) (xv := .slice (some ⟨gl, 0, none⟩) 1 1) (ys := [((WA, wc0), ⟨b1, b2, b3, b4, b5, f⟩)]) rfl Try.underlying22 infoBZ rfl (by decide) HW 1 rfl rfl rfl (oneBV3 rfl (HW.at_ 0 rfl)) hb2 hm2 ?_
        intro vn2 w' HW7 hnn
        simp only [List.set_cons_succ, List.set_cons_zero, List.length_cons, List.length_nil, Nat.zero_add] at HW7
        clear HW hnn
        have HW := HW7
        clear HW7 hS
        have hS := HW.drop (L' := [_, _]) (List.Sublist.cons _ (List.Sublist.cons _ (List.Sublist.cons _ (List.Sublist.cons_cons _ (List.Sublist.cons_cons _ (List.nil_sublist _))))))
        refine ⟨hS, ?_⟩
        try simp only [Act.put, List.getElem_toArray, List.getElem_cons_succ, List.getElem_cons_zero, List.setIfInBounds_toArray, List.set_cons_succ, List.set_cons_zero]
        refine D_oneX 10 #[true, true, true, true, true, true, true, true, true, true, true, false, false] (by kernel_rfl) rfl (by kernel_rfl) (by rfl) ?_
        refine W_append bvLen bvOne (s := .tmp 49) (x := .tmp 50) (xv := .slice Ar dr.length cr) (ys := dr) rfl Try.underlying22 infoBZ rfl (by decide) HW 1 rfl rfl rfl (HR.out.2.keep HW.ext) hb3 hm3 ?_
        intro vn3 w' HW7 hnn
        simp only [List.set_cons_succ, List.set_cons_zero] at HW7
        clear HW hnn
        have HW := HW7
        clear HW7 hS
        have hS := HW.drop (L' := [_, _]) (List.Sublist.cons _ (List.Sublist.cons _ (List.Sublist.cons _ (List.Sublist.cons_cons _ (List.Sublist.cons_cons _ (List.nil_sublist _))))))
        refine ⟨hS, ?_⟩
        try simp only [Act.put, List.getElem_toArray, List.getElem_cons_succ, List.getElem_cons_zero, List.setIfInBounds_toArray, List.set_cons_succ, List.set_cons_zero]
        refine D_freeX 11 #[true, true, true, true, true, true, true, true, true, true, true, true, false] (by kernel_rfl) (v := ?_) rfl (by kernel_rfl) (by kernel_rfl) (by kernel_rfl) (by kernel_rfl) (fun _ _ _ h => h) rfl (by rfl) (fun W => ?_) hS ?_
        rotate_left; (focus (first | (go_simp; done) | (go_simp; with_reducible rfl) | (go_simp; rfl))); all_goals skip; (try simp only [List.set_cons_succ, List.set_cons_zero])
        refine D_pX #[true, true, true, true, true, true, true, true, true, true, true, true, true] (by kernel_rfl) rfl (by kernel_rfl) (by rfl) ?_
        have hbk := HW.at_ 4 rfl
        obtain ⟨A9, c9, rfl⟩ := own_slice (HW.get 1 rfl)
        have hcb := cell_of_row _ gt 6 _ _ _ hbk
        have hfb := frozen_of_row _ gt 6 _ _ hbk
        have HW8 := HW.setCell (off := 6) 4 (.slice A9 (tk.length + 1 + dr.length) c9) rfl
        simp only [List.set_cons_succ, List.set_cons_zero, List.setIfInBounds_toArray] at HW8
        refine wp_of_skip (R_store1 (ty := 22) (x := .tmp 52) (y := .tmp 51) (g := gt) (j := 6) (v := .slice A9 (tk.length + 1 + dr.length) c9) rfl rfl rfl rfl rfl hcb hfb Try.sizeOf22) ?_
        clear HW
        have HW := HW8
        clear HW8 hbk hcb hfb hS
        try simp only [Act.put, List.getElem_toArray, List.getElem_cons_succ, List.getElem_cons_zero, List.setIfInBounds_toArray, List.set_cons_succ, List.set_cons_zero]
        refine wpAnyX_done (by kernel_rfl) ?_ _
        have H := HW.drop (L' := [_, _, _, _]) (List.Sublist.cons _ (List.Sublist.cons_cons _ (List.Sublist.cons_cons _ (List.Sublist.cons_cons _ (List.Sublist.cons_cons _ (List.nil_sublist _))))))
        clear HW
        go_wp2_with (first
          | (refine L_loadrow rfl rfl H 3 rfl rfl Try.underlying24 rfl info24 rfl ?_; (try simp only [Act.put, List.setIfInBounds_toArray, List.set_cons_succ, List.set_cons_zero, List.getElem_toArray, List.getElem_cons_succ, List.getElem_cons_zero]))
          | (refine L_storerow rfl rfl H 1 rfl rfl rfl info24 rfl rfl (one7s _ _ _ _ _ _ _ _ _) ?_; clear H; intro w H; simp only [List.set_cons_zero, List.set_cons_succ, List.setIfInBounds_toArray, Act.eval, Array.getD_eq_getD_getElem?, List.getElem?_toArray, List.getElem?_cons_succ, List.getElem?_cons_zero, Option.getD_some] at H; (try simp only [Act.put, List.setIfInBounds_toArray, List.set_cons_succ, List.set_cons_zero, List.getElem_toArray, List.getElem_cons_succ, List.getElem_cons_zero])))
        (try simp only [Exit.inBlock, Exit.then])
        refine L_retrow rfl H 1 rfl rfl Try.underlying24 rfl info24 rfl rfl ?_
        exact rw_end hT hD HWL.out HB.out HX.out (H.get 0 rfl) H.ext
      ·
        refine W_litE (e := 45) (cs := #[.int .i64 b1, .int .i64 b2, .int .i64 b3, .int .i64 b4, .int .i64 b5, .slice WA f.length wc0]) rfl HW (by intro _; first | (go_simp; done) | (go_simp; rfl)) ?_
        intro gl w' HW6 hE
        clear HW hE
        have HW := HW6
        clear HW6
        clear hS
        have hS := HW.drop (L' := [_, _]) (List.Sublist.cons _ (List.Sublist.cons _ (List.Sublist.cons _ (List.Sublist.cons_cons _ (List.Sublist.cons_cons _ (List.nil_sublist _))))))
        refine ⟨hS, ?_⟩
        try simp only [Act.put, List.getElem_toArray, List.getElem_cons_succ, List.getElem_cons_zero, List.setIfInBounds_toArray, List.set_cons_succ, List.set_cons_zero]
        refine D_oneX 5 #[true, true, true, true, true, true, true, true, false, true, false, false, false] (by kernel_rfl) rfl (by kernel_rfl) (by rfl) ?_
        refine W_append bvLen bvOne (s := .tmp 41) (x := .tmp 45) (xv := .slice A N cap) (ys := tk) rfl Try.underlying22 infoBZ rfl (by decide) HW 1 rfl rfl rfl (HR.out.1.keep HW.ext) hb1 hm1 ?_
        intro vn w' HW7 hnn
        simp only [List.set_cons_succ, List.set_cons_zero] at HW7
        clear HW hnn
        have HW := HW7
        clear HW7 hS
        have hS := HW.drop (L' := [_, _]) (List.Sublist.cons _ (List.Sublist.cons _ (List.Sublist.cons _ (List.Sublist.cons_cons _ (List.Sublist.cons_cons _ (List.nil_sublist _))))))
        refine ⟨hS, ?_⟩
        try simp only [Act.put, List.getElem_toArray, List.getElem_cons_succ, List.getElem_cons_zero, List.setIfInBounds_toArray, List.set_cons_succ, List.set_cons_zero]
        refine D_oneX 8 #[true, true, true, true, true, true, true, true, true, true, false, false, false] (by kernel_rfl) rfl (by kernel_rfl) (by rfl) ?_
        refine W_append bvLen bvOne (s := .tmp 46) (x := .tmp 48) (xv := .slice (some ⟨gl, 0, none⟩) 1 1) (ys := [((WA, wc0), ⟨b1, b2, b3, b4, b5, f⟩)]) rfl Try.underlying22 infoBZ rfl (by decide) HW 1 rfl rfl rfl (oneBV3 rfl (HW.at_ 0 rfl)) hb2 hm2 ?_
        intro vn2 w' HW7 hnn
        simp only [List.set_cons_succ, List.set_cons_zero, List.length_cons, List.length_nil, Nat.zero_add] at HW7
        clear HW hnn
        have HW := HW7
        clear HW7 hS
        have hS := HW.drop (L' := [_, _]) (List.Sublist.cons _ (List.Sublist.cons _ (List.Sublist.cons _ (List.Sublist.cons_cons _ (List.Sublist.cons_cons _ (List.nil_sublist _))))))
        refine ⟨hS, ?_⟩
        try simp only [Act.put, List.getElem_toArray, List.getElem_cons_succ, List.getElem_cons_zero, List.setIfInBounds_toArray, List.set_cons_succ, List.set_cons_zero]
        refine D_oneX 10 #[true, true, true, true, true, true, true, true, true, true, true, false, false] (by kernel_rfl) rfl (by kernel_rfl) (by rfl) ?_
        refine W_append bvLen bvOne (s := .tmp 49) (x := .tmp 50) (xv := .slice Ar dr.length cr) (ys := dr) rfl Try.underlying22 infoBZ rfl (by decide) HW 1 rfl rfl rfl (HR.out.2.keep HW.ext) hb3 hm3 ?_
        intro vn3 w' HW7 hnn
        simp only [List.set_cons_succ, List.set_cons_zero] at HW7
        clear HW hnn
        have HW := HW7
        clear HW7 hS
        have hS := HW.drop (L' := [_, _]) (List.Sublist.cons _ (List.Sublist.cons _ (List.Sublist.cons _ (List.Sublist.cons_cons _ (List.Sublist.cons_cons _ (List.nil_sublist _))))))
        refine ⟨hS, ?_⟩
        try simp only [Act.put, List.getElem_toArray, List.getElem_cons_succ, List.getElem_cons_zero, List.setIfInBounds_toArray, List.set_cons_succ, List.set_cons_zero]
        refine D_freeX 11 #[true, true, true, true, true, true, true, true, true, true, true, true, false] (by kernel_rfl) (v := ?_) rfl (by kernel_rfl) (by kernel_rfl) (by kernel_rfl) (by kernel_rfl) (fun _ _ _ h => h) rfl (by rfl) (fun W => ?_) hS ?_
        rotate_left; (focus (first | (go_simp; done) | (go_simp; with_reducible rfl) | (go_simp; rfl))); all_goals skip; (try simp only [List.set_cons_succ, List.set_cons_zero])
        refine D_pX #[true, true, true, true, true, true, true, true, true, true, true, true, true] (by kernel_rfl) rfl (by kernel_rfl) (by rfl) ?_
        have hbk := HW.at_ 4 rfl
        obtain ⟨A9, c9, rfl⟩ := own_slice (HW.get 1 rfl)
        have hcb := cell_of_row _ gt 6 _ _ _ hbk
        have hfb := frozen_of_row _ gt 6 _ _ hbk
        have HW8 := HW.setCell (off := 6) 4 (.slice A9 (tk.length + 1 + dr.length) c9) rfl
        simp only [List.set_cons_succ, List.set_cons_zero, List.setIfInBounds_toArray] at HW8
        refine wp_of_skip (R_store1 (ty := 22) (x := .tmp 52) (y := .tmp 51) (g := gt) (j := 6) (v := .slice A9 (tk.length + 1 + dr.length) c9) rfl rfl rfl rfl rfl hcb hfb Try.sizeOf22) ?_
        clear HW
        have HW := HW8
        clear HW8 hbk hcb hfb hS
        try simp only [Act.put, List.getElem_toArray, List.getElem_cons_succ, List.getElem_cons_zero, List.setIfInBounds_toArray, List.set_cons_succ, List.set_cons_zero]
        refine wpAnyX_done (by kernel_rfl) ?_ _
        have H := HW.drop (L' := [_, _, _, _]) (List.Sublist.cons _ (List.Sublist.cons_cons _ (List.Sublist.cons_cons _ (List.Sublist.cons_cons _ (List.Sublist.cons_cons _ (List.nil_sublist _))))))
        clear HW
        go_wp2_with (first
          | (refine L_loadrow rfl rfl H 3 rfl rfl Try.underlying24 rfl info24 rfl ?_; (try simp only [Act.put, List.setIfInBounds_toArray, List.set_cons_succ, List.set_cons_zero, List.getElem_toArray, List.getElem_cons_succ, List.getElem_cons_zero]))
          | (refine L_storerow rfl rfl H 1 rfl rfl rfl info24 rfl rfl (one7s _ _ _ _ _ _ _ _ _) ?_; clear H; intro w H; simp only [List.set_cons_zero, List.set_cons_succ, List.setIfInBounds_toArray, Act.eval, Array.getD_eq_getD_getElem?, List.getElem?_toArray, List.getElem?_cons_succ, List.getElem?_cons_zero, Option.getD_some] at H; (try simp only [Act.put, List.setIfInBounds_toArray, List.set_cons_succ, List.set_cons_zero, List.getElem_toArray, List.getElem_cons_succ, List.getElem_cons_zero])))
        (try simp only [Exit.inBlock, Exit.then])
        refine L_retrow rfl H 1 rfl rfl Try.underlying24 rfl info24 rfl rfl ?_
        exact rw_end hT hD HWL.out HB.out HX.out (H.get 0 rfl) H.ext
    ·
      refine W_litE (e := 45) (cs := #[.int .i64 b1, .int .i64 b2, .int .i64 b3, .int .i64 b4, .int .i64 b5, .slice WA f.length wc0]) rfl HW (by intro _; first | (go_simp; done) | (go_simp; rfl)) ?_
      intro gl w' HW6 hE
      clear HW hE
      have HW := HW6
      clear HW6
      clear hS
      have hS := HW.drop (L' := [_, _]) (List.Sublist.cons _ (List.Sublist.cons _ (List.Sublist.cons_cons _ (List.Sublist.cons_cons _ (List.nil_sublist _)))))
      refine ⟨hS, ?_⟩
      try simp only [Act.put, List.getElem_toArray, List.getElem_cons_succ, List.getElem_cons_zero, List.setIfInBounds_toArray, List.set_cons_succ, List.set_cons_zero]
      refine D_oneX 0 #[true, true, true, true, true, false, true, true, false, true, false, false, false] (by kernel_rfl) rfl (by kernel_rfl) (by rfl) ?_
      refine W_litE (e := 45) (cs := #[]) rfl HW (by intro _; first | (go_simp; done) | (go_simp; rfl)) ?_
      intro ge w' HW5 hE
      have HW6 := HW5.toOwn 0 rfl 6 0 0 (Nat.le_refl _) (Nat.zero_le _) rfl [] rfl
      simp only [List.set_cons_zero] at HW6
      clear HW HW5 hE
      have HW := HW6
      clear HW6
      clear hS
      have hS := HW.drop (L' := [_, _]) (List.Sublist.cons _ (List.Sublist.cons _ (List.Sublist.cons _ (List.Sublist.cons_cons _ (List.Sublist.cons_cons _ (List.nil_sublist _))))))
      refine ⟨hS, ?_⟩
      try simp only [Act.put, List.getElem_toArray, List.getElem_cons_succ, List.getElem_cons_zero, List.setIfInBounds_toArray, List.set_cons_succ, List.set_cons_zero]
      refine D_oneX 5 #[true, true, true, true, true, true, true, true, false, true, false, false, false] (by kernel_rfl) rfl (by kernel_rfl) (by rfl) ?_
      refine W_append bvLen bvOne (s := .tmp 41) (x := .tmp 45) (xv := .slice A N cap) (ys := tk) rfl Try.underlying22 infoBZ rfl (by decide) HW 0 rfl rfl rfl (HR.out.1.keep HW.ext) hb1 hm1 ?_
      intro vn w' HW7 hnn
      simp only [List.set_cons_succ, List.set_cons_zero] at HW7
      clear HW hnn
      have HW := HW7
      clear HW7 hS
      have hS := HW.drop (L' := [_, _]) (List.Sublist.cons _ (List.Sublist.cons _ (List.Sublist.cons _ (List.Sublist.cons_cons _ (List.Sublist.cons_cons _ (List.nil_sublist _))))))
      refine ⟨hS, ?_⟩
      try simp only [Act.put, List.getElem_toArray, List.getElem_cons_succ, List.getElem_cons_zero, List.setIfInBounds_toArray, List.set_cons_succ, List.set_cons_zero]
      refine D_oneX 8 #[true, true, true, true, true, true, true, true, true, true, false, false, false] (by kernel_rfl) rfl (by kernel_rfl) (by rfl) ?_
      refine W_append bvLen bvOne (s := .tmp 46) (x := .tmp 48) (xv := .slice (some ⟨gl, 0, none⟩) 1 1) (ys := [((WA, wc0), ⟨b1, b2, b3, b4, b5, f⟩)]) rfl Try.underlying22 infoBZ rfl (by decide) HW 0 rfl rfl rfl (oneBV3 rfl (HW.at_ 1 rfl)) hb2 hm2 ?_
      intro vn2 w' HW7 hnn
      simp only [List.set_cons_succ, List.set_cons_zero, List.length_cons, List.length_nil, Nat.zero_add] at HW7
      clear HW hnn
      have HW := HW7
      clear HW7 hS
      have hS := HW.drop (L' := [_, _]) (List.Sublist.cons _ (List.Sublist.cons _ (List.Sublist.cons _ (List.Sublist.cons_cons _ (List.Sublist.cons_cons _ (List.nil_sublist _))))))
      refine ⟨hS, ?_⟩
      try simp only [Act.put, List.getElem_toArray, List.getElem_cons_succ, List.getElem_cons_zero, List.setIfInBounds_toArray, List.set_cons_succ, List.set_cons_zero]
      refine D_oneX 10 #[true, true, true, true, true, true, true, true, true, true, true, false, false] (by kernel_rfl) rfl (by kernel_rfl) (by rfl) ?_
      refine W_append bvLen bvOne (s := .tmp 49) (x := .tmp 50) (xv := .slice Ar dr.length cr) (ys := dr) rfl Try.underlying22 infoBZ rfl (by decide) HW 0 rfl rfl rfl (HR.out.2.keep HW.ext) hb3 hm3 ?_
      intro vn3 w' HW7 hnn
      simp only [List.set_cons_succ, List.set_cons_zero] at HW7
      clear HW hnn
      have HW := HW7
      clear HW7 hS
      have hS := HW.drop (L' := [_, _]) (List.Sublist.cons _ (List.Sublist.cons _ (List.Sublist.cons _ (List.Sublist.cons_cons _ (List.Sublist.cons_cons _ (List.nil_sublist _))))))
      refine ⟨hS, ?_⟩
      try simp only [Act.put, List.getElem_toArray, List.getElem_cons_succ, List.getElem_cons_zero, List.setIfInBounds_toArray, List.set_cons_succ, List.set_cons_zero]
      refine D_freeX 11 #[true, true, true, true, true, true, true, true, true, true, true, true, false] (by kernel_rfl) (v := ?_) rfl (by kernel_rfl) (by kernel_rfl) (by kernel_rfl) (by kernel_rfl) (fun _ _ _ h => h) rfl (by rfl) (fun W => ?_) hS ?_
      rotate_left; (focus (first | (go_simp; done) | (go_simp; with_reducible rfl) | (go_simp; rfl))); all_goals skip; (try simp only [List.set_cons_succ, List.set_cons_zero])
      refine D_pX #[true, true, true, true, true, true, true, true, true, true, true, true, true] (by kernel_rfl) rfl (by kernel_rfl) (by rfl) ?_
      have hbk := HW.at_ 4 rfl
      obtain ⟨A9, c9, rfl⟩ := own_slice (HW.get 0 rfl)
      have hcb := cell_of_row _ gt 6 _ _ _ hbk
      have hfb := frozen_of_row _ gt 6 _ _ hbk
      have HW8 := HW.setCell (off := 6) 4 (.slice A9 (tk.length + 1 + dr.length) c9) rfl
      simp only [List.set_cons_succ, List.set_cons_zero, List.setIfInBounds_toArray] at HW8
      refine wp_of_skip (R_store1 (ty := 22) (x := .tmp 52) (y := .tmp 51) (g := gt) (j := 6) (v := .slice A9 (tk.length + 1 + dr.length) c9) rfl rfl rfl rfl rfl hcb hfb Try.sizeOf22) ?_
      clear HW
      have HW := HW8
      clear HW8 hbk hcb hfb hS
      try simp only [Act.put, List.getElem_toArray, List.getElem_cons_succ, List.getElem_cons_zero, List.setIfInBounds_toArray, List.set_cons_succ, List.set_cons_zero]
      refine wpAnyX_done (by kernel_rfl) ?_ _
      have H := HW.drop (L' := [_, _, _, _]) (List.Sublist.cons_cons _ (List.Sublist.cons _ (List.Sublist.cons_cons _ (List.Sublist.cons_cons _ (List.Sublist.cons_cons _ (List.nil_sublist _))))))
      clear HW
      go_wp2_with (first
        | (refine L_loadrow rfl rfl H 3 rfl rfl Try.underlying24 rfl info24 rfl ?_; (try simp only [Act.put, List.setIfInBounds_toArray, List.set_cons_succ, List.set_cons_zero, List.getElem_toArray, List.getElem_cons_succ, List.getElem_cons_zero]))
        | (refine L_storerow rfl rfl H 1 rfl rfl rfl info24 rfl rfl (one7s _ _ _ _ _ _ _ _ _) ?_; clear H; intro w H; simp only [List.set_cons_zero, List.set_cons_succ, List.setIfInBounds_toArray, Act.eval, Array.getD_eq_getD_getElem?, List.getElem?_toArray, List.getElem?_cons_succ, List.getElem?_cons_zero, Option.getD_some] at H; (try simp only [Act.put, List.setIfInBounds_toArray, List.set_cons_succ, List.set_cons_zero, List.getElem_toArray, List.getElem_cons_succ, List.getElem_cons_zero])))
      (try simp only [Exit.inBlock, Exit.then])
      refine L_retrow rfl H 1 rfl rfl Try.underlying24 rfl info24 rfl rfl ?_
      exact rw_end hT hD HWL.out HB.out HX.out (H.get 0 rfl) H.ext
end Go.Proofs.Ytoaieodcdbbndaa
