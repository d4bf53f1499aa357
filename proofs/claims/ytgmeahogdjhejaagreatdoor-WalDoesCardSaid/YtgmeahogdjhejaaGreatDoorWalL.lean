/- sheet.Lift. -/
import Derived.Test.YtgmeahogdjhejaaGreatDoorWalGI
import Derived.Test.YtgmeahogdjhejaaGreatDoorWalD
import Derived.Test.YtgmeahogdjhejaaGreatDoorWalK
import Derived.Deep.CutRange
import Derived.Deep.CutBlock
namespace Go.Proofs.YtgmeahogdjhejaaGreatDoor
set_option linter.unusedVariables false
set_option linter.unusedSimpArgs false
open Go.RowKit Go.Shelf
attribute [local go_sem] Oper.semAt_some

section
variable {F : Fence} {n : Nat} {P : Program} {ops : Array Oper} {Q : Exit → Act → World → Prop} {md : Region.Mode} {a : Act} {w w' : World} {listed : Array Bool} {fuel : Nat} {K : Act → World → Prop}
/-- Whatever may come up now. -/
theorem AnyIn_one (i : Nat) (l2 : Array Bool) (hr : Region.ready md ops listed = [i]) (hl : listed.setIfInBounds i true = l2) (h : wpOpIn F n P ops Q i (wpAnyIn F n P md ops Q fuel l2) a w) : wpAnyIn F n P md ops Q (fuel + 1) listed a w := by
  subst hl
  unfold wpAnyIn
  rw [hr]
  refine ⟨fun e => by simp at e, fun j hj => ?_⟩
  obtain rfl := List.mem_singleton.1 hj
  exact h
theorem AnyIn_two (i j : Nat) (li lj : Array Bool) (hr : Region.ready md ops listed = [i, j]) (hi : listed.setIfInBounds i true = li) (hj : listed.setIfInBounds j true = lj) (h1 : wpOpIn F n P ops Q i (wpAnyIn F n P md ops Q fuel li) a w) (h2 : wpOpIn F n P ops Q j (wpAnyIn F n P md ops Q fuel lj) a w) : wpAnyIn F n P md ops Q (fuel + 1) listed a w := by
  subst hi hj
  unfold wpAnyIn
  rw [hr]
  refine ⟨fun e => by simp at e, fun k hk => ?_⟩
  simp only [List.mem_cons, List.not_mem_nil, or_false] at hk
  rcases hk with rfl | rfl <;> assumption
theorem AnyIn_done (hr : Region.ready md ops listed = []) (h : Q .normal a w) : ∀ fuel, wpAnyIn F n P md ops Q fuel listed a w
  | 0 => by unfold wpAnyIn; exact ⟨hr, h⟩
  | _ + 1 => by unfold wpAnyIn; rw [hr]; exact ⟨fun _ => h, by simp⟩
theorem OpIn_value {i : Nat} {o : Oper} (hi : ops[i]? = some o) (hw : Region.wanted o (yielded ops a.tmps) = true) {v : Value} (hs : ∀ c, o.op ≠ .defer c) (hab : ∀ w, o.about P w a.eval = none) (hr : (execOp a.eval o).run P w = .ok (.value v) w') (k : K (a.put o.dst v) w') : wpOpIn F n P ops Q i K a w := by
  unfold wpOpIn
  simp only [hi, hw, if_true]
  refine ⟨(fun f h => by rw [hab w] at h; cases h), ?_⟩
  rw [Oper.semAt_plain F a.eval o hs, hr]
  exact k
theorem OpIn_move {i : Nat} {o : Oper} (hi : ops[i]? = some o) (hw : Region.wanted o (yielded ops a.tmps) = true) {x : Operand} {v : Value} (ho : o.op = .move x) (hx : a.eval x = v) (k : K (a.put o.dst v) w) : wpOpIn F n P ops Q i K a w := by
  refine OpIn_value hi hw (fun c h => by rw [ho] at h; cases h) (fun w => by unfold Oper.about; rw [ho]) ?_ k
  unfold execOp
  simp only [ho, hx]
  rfl
theorem OpIn_skip {i : Nat} {o : Oper} (hi : ops[i]? = some o) (hw : Region.wanted o (yielded ops a.tmps) = true) (hs : ∀ c, o.op ≠ .defer c) (hab : ∀ w, o.about P w a.eval = none) (hr : (execOp a.eval o).run P w = .ok .skip w') (k : K (a.put o.dst undef) w') : wpOpIn F n P ops Q i K a w := by
  unfold wpOpIn
  simp only [hi, hw, if_true]
  refine ⟨(fun f h => by rw [hab w] at h; cases h), ?_⟩
  rw [Oper.semAt_plain F a.eval o hs, hr]
  exact k
end
/-- The bytes of sectors without their marks. -/
def bare (s : List Int) (pre : List Nat) : List Int := pre.flatMap fun x => ((s.drop (x * 32)).take 32).take 24
theorem bare_snoc (s : List Int) (pre : List Nat) (x : Nat) : bare s (pre ++ [x]) = bare s pre ++ ((s.drop (x * 32)).take 32).take 24 := by simp [bare]
theorem bare_at (s : List Int) : ∀ n, 32 * n ≤ s.length → (bare s (List.range n)).length = 24 * n ∧ ∀ i, i < 24 * n → (bare s (List.range n))[i]? = s[32 * (i / 24) + i % 24]?
  | 0, _ => ⟨rfl, fun i hi => by omega⟩
  | n + 1, h => by
    obtain ⟨h1, h2⟩ := bare_at s n (by omega)
    have hl : (((s.drop (n * 32)).take 32).take 24).length = 24 := by rw [List.length_take, List.length_take, List.length_drop]; omega
    rw [List.range_succ, bare_snoc]
    refine ⟨by rw [List.length_append, h1, hl]; omega, fun i hi => ?_⟩
    by_cases hin : i < 24 * n
    · rw [List.getElem?_append_left (by omega), h2 i hin]
    · rw [List.getElem?_append_right (by omega), h1, List.getElem?_take, if_pos (by omega), List.getElem?_take, if_pos (by omega), List.getElem?_drop]
      congr 1
      omega
theorem bare_unlay (s : List Int) (n long : Nat) (h : 32 * n ≤ s.length) (hl : long + 2 ≤ 24 * n) : ((bare s (List.range n)).drop 2).take long = unlayP s long := by
  obtain ⟨h1, h2⟩ := bare_at s n h
  apply List.ext_getElem?
  intro i
  unfold unlayP
  rw [List.getElem?_take, List.getElem?_map]
  by_cases hi : i < long
  · rw [if_pos hi, List.getElem?_drop, Nat.add_comm 2 i, h2 (i + 2) (by omega), List.getElem?_range hi, Option.map_some, List.getD_eq_getElem?_getD]
    have : 32 * ((i + 2) / 24) + (i + 2) % 24 < s.length := by omega
    rw [List.getElem?_eq_getElem this]
    rfl
  · rw [if_neg hi, List.getElem?_eq_none (by simp; omega)]
    rfl
section
variable {F : Fence} {n : Nat} {ops : Array Oper} {Q : Exit → Act → World → Prop} {a : Act} {w w0 : World} {K : Act → World → Prop} {M : Nat → Prop} {L : List Asr} {j : Nat} {o : Oper}
theorem OpIn_load1 {P : Program} (hi : ops[j]? = some o) (hw : Region.wanted o (yielded ops a.tmps) = true) (hs : ∀ c, o.op ≠ .defer c) (hab : ∀ w, o.about P w a.eval = none) {ty : TypeId} {x : Operand} (ho : o.op = .load ty x) (H : SH M w0 w L) (i : Nat) {b off : Nat} {cs : Array Value} {T : TypeId} {fr : Nat × Nat} {v : Value}
    (hx : a.eval x = .pointer (some ⟨b, off, none⟩)) (hA : L[i]? = some (pt b (.cells cs T fr))) (hv : cs[off]? = some v) (hag : ∀ w, (isAgg ty).run P w = .ok false w)
    (k : K (a.put o.dst v) w) : wpOpIn F n P ops Q j K a w := by
  refine OpIn_value hi hw hs hab ?_ k
  have hc : w.cell? ⟨b, off, none⟩ = some v := by rw [cell_of_row w b off cs T fr (H.at_ i hA)]; exact hv
  unfold execOp
  simp only [ho, hx, Instr.loadAt, Instr.sureAddr, loadVar, Sem.run_bind, Sem.run_pure, Result.andThen_ok, hag]
  simp [hc]
theorem OpIn_store1 {P : Program} (hi : ops[j]? = some o) (hw : Region.wanted o (yielded ops a.tmps) = true) (hs : ∀ c, o.op ≠ .defer c) (hab : ∀ w, o.about P w a.eval = none) {ty : TypeId} {x y : Operand} (ho : o.op = .store ty x y) (H : SH M w0 w L) (i : Nat) {b off : Nat} {cs : Array Value} {T : TypeId} {v : Value}
    (hx : a.eval x = .pointer (some ⟨b, off, none⟩)) (hA : L[i]? = some (pt b (.cells cs T (0, 0)))) (hy : a.eval y = v) (h1 : v.cells = #[v]) (hc1 : v.oneCell' = true) (hv : off < cs.size) (hsz : ∀ w, (sizeOf ty).run P w = .ok 1 w)
    (k : ∀ w', SH M w0 w' (L.set i (pt b (.cells (cs.setIfInBounds off v) T (0, 0)))) → K (a.put o.dst undef) w') : wpOpIn F n P ops Q j K a w := by
  have hb := H.at_ i hA
  have hc : w.cell? ⟨b, off, none⟩ = some cs[off] := by rw [cell_of_row w b off cs T _ hb]; simp [hv]
  have hf : w.frozen? ⟨b, off, none⟩ = false := frozen_of_row w b off cs T hb
  have hr := run_storeCells_cells (P := P) b off [v] 0 w (fun j hj => (by simp at hj; simp [hj, hc])) (fun j hj => (by simp at hj; simpa [hj] using hf)) (fun u hu => (by simp at hu; simpa [hu] using hc1))
  refine OpIn_skip hi hw hs hab (w' := w.setCell ⟨b, off, none⟩ v) ?_ (k _ (H.setCell i v hA))
  unfold execOp
  simp only [ho, hx, hy, Instr.storeAt, Instr.sureAddr, storeVar, Sem.run_bind, Sem.run_pure, Result.andThen_ok, h1, hsz]
  simp only [Nat.add_zero] at hr
  simp [hr, World.setCells]
theorem OpIn_appendB (hi : ops[j]? = some o) (hw : Region.wanted o (yielded ops a.tmps) = true) (hs' : ∀ c, o.op ≠ .defer c) (hab : ∀ w, o.about Tryz.prog w a.eval = none) {s x : Operand} (ho : o.op = .call { callee := .builtin .append, args := #[s, x], argTypes := #[22, 22] }) (H : SH M w0 w L) (i : Nat)
    {v : Value} {m : Nat} {xs : List Value} (hA : L[i]? = some (ownA 5 1 v m xs)) (hs : a.eval s = v) {xv : Value} {ys : List Int} (hxv : a.eval x = xv) (hx : RdS (encInt .u8) 1 w xv ys) (hb : m + ys.length ≤ 1000000)
    (kk : ∀ v' w', SH M w0 w' (L.set i (ownA 5 1 v' (m + ys.length) (xs ++ cellsOf (encInt .u8) ys))) → K (a.put o.dst v') w') : wpOpIn F n Tryz.prog ops Q j K a w := by
  obtain ⟨v', w', hr, hown, hg, hat, hnn⟩ := run_append_any (P := Tryz.prog) (ty := o.type) (encInt_len .u8) (encInt_one .u8) Tryz.underlying22 infoU8 rfl (by decide) (H.get i hA) hx (by omega) (by unfold maxLen; omega) (Nat.zero_le _)
  refine OpIn_value hi hw hs' hab (w' := w') ?_ (kk v' w' (H.upd i hA ((Ext.of_grown hg).mono (fun j _ hj => hj.symm)) hown (fun j hj => ?_)))
  · unfold execOp
    simp only [ho, resolve, invoke, builtin, Sem.run_bind, Sem.run_pure, Result.andThen_ok, List.map_toArray, List.map_cons, List.map_nil, hs, hxv, hr]
  · refine ⟨?_, (hown.lt j hj).2⟩
    rcases hat with h | h
    · exact .inl (show v.ownBlock = some j from h.symm.trans hj)
    · have hj' : v'.ownBlock = some j := hj
      rw [h] at hj'; cases hj'; exact .inr (Nat.le_refl _)
end
/-- What lies apart while the pieces come. -/
def lifL (s : List Int) (bb off cap n g8 Bs Bn : Nat) (v : Value) (pre : List Nat) : List Asr :=
  [ownA 5 1 v (24 * pre.length) (cellsOf (encInt .u8) (bare s (pre.map (within n)))), pt Bn (.cells #[.int .i64 32] 3 (0, 0)), pt Bs (.cells #[.slice (some ⟨bb, off, none⟩) (n * 32) cap] 22 (0, 0)), pt g8 (.cells #[v] 22 (0, 0))]
theorem lifL_low (s : List Int) (bb off cap n g8 Bs Bn : Nat) (v : Value) (pre : List Nat) (B : Nat) : Low B (lifL s bb off cap n g8 Bs Bn v pre) := by
  intro A hA
  simp only [lifL, List.mem_cons, List.not_mem_nil, or_false] at hA
  rcases hA with rfl | rfl | rfl | rfl <;> first | exact .inl (cellsA_pt _ _ _ _) | exact .inl (cellsA_own _ _ _ _ _)
/-- No panic. -/
def NP (Q : Exit → Act → World → Prop) : Exit → Act → World → Prop := fun e => match e with
  | .panic _ => fun _ _ => False
  | e => Q e
theorem wp_np {P : Program} {c : Code} {Q : Exit → Act → World → Prop} {a : Act} {w : World} (h : c.wp P (NP Q) a w) : c.wp P Q a w :=
  Code.wp_mono (fun e a w h => by cases e <;> first | exact h | exact h.elim) h
theorem results_tmp5 {fn : Func} {t u v x y : Tmp} (h : fn.results = #[.tmp t, .tmp u, .tmp v, .tmp x, .tmp y]) (tmps : Array Value) (P : Program) (w : World) :
    (results fn tmps).run P w = .ok (.tuple #[tmps.getD t undef, tmps.getD u undef, tmps.getD v undef, tmps.getD x undef, tmps.getD y undef]) w := by
  simp [results, h]
def LiftE (s : List Int) (w : World) (e : Ending) (w' : World) : Prop :=
  ((∃ r v, liftP s = some r ∧ e = .returned (.tuple #[.int .i64 r.epoch, .int .i64 r.seq, v, .int .i64 (r.sectors : Int), .int .i64 0]) ∧ RdS (encInt .u8) 1 w' v r.bytes ∧ (∀ j, v.ownBlock = some j → w.heap.size ≤ j ∧ j < w'.heap.size)) ∨ (liftP s = none ∧ e = .returned (.tuple #[.int .i64 0, .int .i64 0, .slice none 0 0, .int .i64 0, .int .i64 3]))) ∧ Ext0 w w'
theorem sub_rd {w : World} {bb off n c : Nat} {xs : List Int} (h : RdS (encInt .u8) 1 w (.slice (some ⟨bb, off, none⟩) n c) xs) (i m c' : Nat) (hm : i + m ≤ xs.length) (hc : m ≤ c') : RdS (encInt .u8) 1 w (.slice (some ⟨bb, off + i, none⟩) m c') ((xs.drop i).take m) := by
  have hl : ((xs.drop i).take m).length = m := by rw [List.length_take, List.length_drop]; omega
  obtain ⟨A', cc, he, _, hh⟩ := h
  cases he
  refine ⟨_, _, by rw [hl], by rw [hl]; exact hc, ?_⟩
  rcases hh with hh | ⟨b, o, cs, T, fr, hA, hb, hcs⟩
  · left; simp [hh]
  · cases hA
    right
    refine ⟨_, _, cs, T, fr, rfl, hb, fun j hj k hk => ?_⟩
    rw [hl] at hj
    rw [List.getElem_take, List.getElem_drop, ← hcs (i + j) (by omega) k hk]
    congr 1
    omega
set_option maxRecDepth 100000 in
set_option maxHeartbeats 4000000 in
theorem lift_any (v : Value) (s : List Int) (w0 : World) (hr : RdS (encInt .u8) 1 w0 v s) (hb : ∀ x ∈ s, 0 ≤ x ∧ x ≤ 255) (hl : s.length ≤ 1000000) :
    Calls Tryz.prog 37 #[v] w0 (LiftE s w0) := by
  obtain ⟨A, cap, rfl, hcap⟩ := hr.len
  have H : SH (fun _ => False) w0 w0 [] := SH.nil _ _
  have HR := Lib.hid (And.intro hr hb)
  clear hb
  refine callsIn_wide.1 (callsIn_of_wp_marks (F := Fence.wide) (n := 3) Tryz.func37 rfl trivial (wpIn_wide.2 (wp_np ?_)) rfl)
  simp only [Tryz.ntmps37, List.size_toArray, List.length_cons, List.length_nil, Nat.reduceAdd, Nat.reduceSub, Array.replicate_succ, Array.replicate_zero, List.push_toArray, List.append_toArray, List.nil_append, List.cons_append]
  by_cases h32 : s.length < 32
  · have h32i : (s.length : Int) < 32 := by omega
    have hno : liftP s = none := by unfold liftP; rw [if_pos h32]
    have HNO := Lib.hid hno
    clear hr hno
    go_wp2_with fail
    exact ⟨_, results_tmp5 rfl _ _ _, .inr ⟨HNO.out, rfl⟩, H.ext⟩
  · have h32i : ¬ (s.length : Int) < 32 := by omega
    obtain ⟨bb, off, rfl, _⟩ := byte_cell hr (j := 0) (by omega)
    have hr0 := sub_rd hr 0 2 cap (by omega) (by omega)
    have hr1 := sub_rd hr 24 4 (cap - 24) (by omega) (by omega)
    have hr2 := sub_rd hr 28 4 (cap - 28) (by omega) (by omega)
    have hbs : ∀ (i m : Nat), ∀ x ∈ (s.drop i).take m, 0 ≤ x ∧ x ≤ 255 := fun i m x hx => HR.out.2 x (List.mem_of_mem_drop (List.mem_of_mem_take hx))
    have hn0 := number_any _ _ w0 hr0 (hbs 0 2) (by rw [List.length_take]; omega)
    have hn1 := fun {W : World} (hE : Ext0 w0 W) => number_any _ _ W (hr1.keep hE) (hbs 24 4) (by rw [List.length_take]; omega)
    have hn2 := fun {W : World} (hE : Ext0 w0 W) => number_any _ _ W (hr2.keep hE) (hbs 28 4) (by rw [List.length_take]; omega)
    have hc28 : (28 : Int) ≤ (cap : Int) := by omega
    have hc32 : (32 : Int) ≤ (cap : Int) := by omega
    have hc24n : ¬ cap = 24 := by omega
    have hc28n : ¬ cap = 28 := by omega
    have hlr := numB_lt 2 (s.take 2) (by rw [List.length_take]; omega) (fun x hx => HR.out.2 x (List.mem_of_mem_take hx))
    have her := numB_lt 4 ((s.drop 24).take 4) (by rw [List.length_take, List.length_drop]; omega) (hbs 24 4)
    have hqr := numB_lt 4 ((s.drop 28).take 4) (by rw [List.length_take, List.length_drop]; omega) (hbs 28 4)
    rw [Nat.add_zero, List.drop_zero] at hn0
    obtain ⟨long, hlong⟩ : ∃ long, longP s = long := ⟨_, rfl⟩
    obtain ⟨ep, hep⟩ : ∃ ep, epochP s = ep := ⟨_, rfl⟩
    obtain ⟨sq, hsq⟩ : ∃ sq, seqP s = sq := ⟨_, rfl⟩
    have hl0 : numB (s.take 2) = (long : Int) := by rw [← hlong]; unfold longP; omega
    rw [hl0] at hn0
    rw [show numB ((s.drop 24).take 4) = ep from hep] at hn1 her
    rw [show numB ((s.drop 28).take 4) = sq from hsq] at hn2 hqr
    have hl65 : long ≤ 65535 := by rw [hl0] at hlr; omega
    have hcnt := fun {W : World} => count_any long hl65 W
    have HL := Lib.hid (And.intro hlong (And.intro hep (And.intro hsq (And.intro her hqr))))
    clear hl0 hlr hlong hep hsq her hqr hr0 hr1 hr2 hbs hr
    go_upto_region 4 with (first
      | (go_at_call 67; refine hn0.mono ?_; rintro e w9 ⟨rfl, hw9⟩; replace hw9 := hw9.symm; subst hw9))
    refine D_start H (by kernel_rfl) (fun hS => ?_)
    try simp only [Act.put, List.setIfInBounds_toArray, List.set_cons_succ, List.set_cons_zero]
    refine D_take 0 (v := ?_) rfl (by kernel_rfl) (by kernel_rfl) (by kernel_rfl) (fun _ _ _ h => h) rfl (by rfl) (fun W hS => ?_) hS ?_
    rotate_left; (focus (first | (go_simp; done) | (go_simp; with_reducible rfl) | (go_simp; rfl))); all_goals skip; (try simp only [List.set_cons_succ, List.set_cons_zero])
    refine D_take 1 (v := ?_) rfl (by kernel_rfl) (by kernel_rfl) (by kernel_rfl) (fun _ _ _ h => h) rfl (by rfl) (fun W hS => ?_) hS ?_
    rotate_left; (focus (first | (go_simp; done) | (go_simp; with_reducible rfl) | (go_simp; rfl))); all_goals skip; (try simp only [List.set_cons_succ, List.set_cons_zero])
    refine D_take 3 (v := ?_) rfl (by kernel_rfl) (by kernel_rfl) (by kernel_rfl) (fun _ _ _ h => h) rfl (by rfl) (fun W hS => ?_) hS ?_
    rotate_left; (focus (first | (go_simp; done) | (go_simp; with_reducible rfl) | (go_simp; rfl))); all_goals skip; (try simp only [List.set_cons_succ, List.set_cons_zero])
    refine D_take 4 (v := ?_) rfl (by kernel_rfl) (by kernel_rfl) (by kernel_rfl) (fun _ _ _ h => h) rfl (by rfl) (fun W hS => ?_) hS ?_
    rotate_left; (focus (first | (go_simp; done) | (go_simp; with_reducible rfl) | (go_simp; rfl))); all_goals skip; (try simp only [List.set_cons_succ, List.set_cons_zero])
    refine D_one 2 rfl (by kernel_rfl) (by rfl) ?_
    refine R_call (f := 67) (args := #[.slice (some ⟨bb, off + 24, none⟩) 4 (cap - 24)]) (by first | (go_simp; done) | (go_simp; rfl)) (hn1 hS.ext) ?_
    rintro e w9 ⟨rfl, hw9⟩
    replace hw9 := hw9.symm
    subst hw9
    refine ⟨_, rfl, hS, ?_⟩
    try simp only [Act.put, List.getElem_toArray, List.getElem_cons_succ, List.getElem_cons_zero, List.setIfInBounds_toArray, List.set_cons_succ, List.set_cons_zero]
    refine D_one 5 rfl (by kernel_rfl) (by rfl) ?_
    refine R_call (f := 67) (args := #[.slice (some ⟨bb, off + 28, none⟩) 4 (cap - 28)]) (by first | (go_simp; done) | (go_simp; rfl)) (hn2 hS.ext) ?_
    rintro e w9 ⟨rfl, hw9⟩
    replace hw9 := hw9.symm
    subst hw9
    refine ⟨_, rfl, hS, ?_⟩
    try simp only [Act.put, List.getElem_toArray, List.getElem_cons_succ, List.getElem_cons_zero, List.setIfInBounds_toArray, List.set_cons_succ, List.set_cons_zero]
    refine D_take 6 (v := ?_) rfl (by kernel_rfl) (by kernel_rfl) (by kernel_rfl) (fun _ _ _ h => h) rfl (by rfl) (fun W hS => ?_) hS ?_
    rotate_left; (focus (first | (go_simp; done) | (go_simp; with_reducible rfl) | (go_simp; rfl))); all_goals skip; (try simp only [List.set_cons_succ, List.set_cons_zero])
    refine D_take 7 (v := ?_) rfl (by kernel_rfl) (by kernel_rfl) (by kernel_rfl) (fun _ _ _ h => h) rfl (by rfl) (fun W hS => ?_) hS ?_
    rotate_left; (focus (first | (go_simp; done) | (go_simp; with_reducible rfl) | (go_simp; rfl))); all_goals skip; (try simp only [List.set_cons_succ, List.set_cons_zero])
    refine wpAnyH_done (by kernel_rfl) ?_ _
    clear H hn0 hn1 hn2
    have H := hS
    clear hS
    generalize w0.drew = wd at *
    obtain ⟨n, hn⟩ : ∃ n, countP long = n := ⟨_, rfl⟩
    rw [hn] at hcnt
    have hn1 : 1 ≤ n := by have := count_pos long; omega
    have hn2 : n ≤ 2731 ∧ long + 6 ≤ 24 * n := by unfold countP at hn; omega
    have hwn : IntKind.i64.wrap ((n : Int) * 32) = (n : Int) * 32 := by rw [IntKind.wrap_i64]; omega
    have HN := Lib.hid hn
    clear hn
    go_upto_region 6 with (first
      | (go_at_call 53; refine hcnt.mono ?_; rintro e w9 ⟨rfl, hw9⟩; replace hw9 := hw9.symm; subst hw9))
    by_cases hsl : s.length < 32 * n
    · have hsi : (s.length : Int) < (n : Int) * 32 := by omega
      have hno : liftP s = none := by unfold liftP; rw [if_neg h32, HL.out.1, HN.out, if_pos hsl]
      have HNO := Lib.hid hno
      clear hno
      go_wp2_with fail
      exact ⟨_, results_tmp5 rfl _ _ _, .inr ⟨HNO.out, rfl⟩, H.ext⟩
    · have hsi : ¬ (s.length : Int) < (n : Int) * 32 := by omega
      have hnc : (n : Int) * 32 ≤ (cap : Int) := by omega
      have hn0 : (0 : Int) ≤ (n : Int) * 32 := by omega
      have hnt : ((n : Int) * 32).toNat = n * 32 := by omega
      clear hcnt hc28 hc32 hc24n hc28n
      go_wp2_with (first
        | (refine L_alloc rfl rfl H Tryz.zeroValue22 ?_; clear H; intro g8 w H; simp only [Value.cells] at H; (try simp only [Act.put, List.setIfInBounds_toArray, List.set_cons_succ, List.set_cons_zero, List.getElem_toArray, List.getElem_cons_succ, List.getElem_cons_zero]))
        | (go_at_call 60; refine (chunk_any _ _ _ 32 (by decide) _).mono ?_; rintro e1 w9 ⟨Bs, Bn, rfl, h⟩; replace H := H.cat h; clear h; simp only [List.cons_append, List.nil_append] at H))
      have hsz9 : w0.heap.size ≤ w9.heap.size := H.ext.size
      have hH0 := H.addNil 5 1
      refine (wpIn_wide (n := 3)).1 ?_
      apply wpIn_rangeFunc_ownG (F := Fence.wide) (n := 3) (gf := 79) (lb := #[.pointer (some ⟨Bs, 0, none⟩), .pointer (some ⟨Bn, 0, none⟩)]) rfl (by decide) rfl trivial (enters_of Tryz.func79 (by kernel_rfl) rfl)
        (chunk32_stops Fence.wide (3 - 1) trivial rfl (by decide) Bs Bn bb off (n * 32) cap n (by omega) (by omega) (by omega) w9 (H.at_ 1 rfl) (H.at_ 0 rfl))
        (fun h k => kpB_t h k) (kpB_b (blk_lt' (H.at_ 1 rfl)) (blk_lt' (H.at_ 0 rfl))) (Below.refl _ _) (fun _ => rfl)
        (fun pre W => ∃ v, SH (fun _ => False) w0 W (lifL s bb off cap n g8 Bs Bn v pre)) (fun _ _ _ => False)
        (fun pre W W' row ⟨v, hs⟩ hg hr => ⟨v, hs.walked (lifL_low _ _ _ _ _ _ _ _ _ _ _) hsz9 hg hr⟩) (fun _ _ _ _ _ h _ _ => h) ⟨.slice none 0 0, hH0⟩
      case hassign =>
        intro l x W K hK
        gi_wp2
        exact hK
      case hbody =>
        rintro l pre x W ⟨v, hs⟩ hpre
        have K := hs.inner.drew
        obtain ⟨y, hy⟩ : ∃ y, within n x = y := ⟨_, rfl⟩
        have hyn : y < n := by rw [← hy]; exact within_lt (by omega) x
        have hpx : piece32 bb off (n * 32) y = .slice (some ⟨bb, off + y * 32, none⟩) 32 32 := by
          unfold piece32
          rw [show min 32 (n * 32 - y * 32) = 32 by omega]
        obtain ⟨ys, hys⟩ : ∃ ys, ((s.drop (y * 32)).take 32).take 24 = ys := ⟨_, rfl⟩
        have hyl : ys.length = 24 := by rw [← hys, List.length_take, List.length_take, List.length_drop]; omega
        have hprF : ∀ {w' : World} {L' : List Asr}, SH (fps (lifL s bb off cap n g8 Bs Bn v pre)) W w' L' → RdS (encInt .u8) 1 w' (.slice (some ⟨bb, off + y * 32, none⟩) 24 32) ys := fun {w' L'} h => by
          have h1 := (sub_rd HR.out.1 (y * 32) 24 32 (by omega) (by omega)).keep (hs.outer h).ext
          rw [← hys, List.take_take]
          exact h1
        have HY := Lib.hid (And.intro hy (And.intro hys hyl))
        rw [hy, hpx]
        generalize hM : fps (lifL s bb off cap n g8 Bs Bn v pre) = M0 at K hprF
        unfold lifL at K
        have HM0 := Lib.hid hM
        clear hM hpx hys hy hyl
        gi_wp2
        refine wpIn_region_any (by kernel_rfl) ?_
        simp only [List.size_toArray, List.length_cons, List.length_nil, Nat.reduceAdd]
        refine AnyIn_two 0 1 _ _ (by kernel_rfl) rfl rfl ?_ ?_
        refine OpIn_load1 rfl (by kernel_rfl) (by intro c h; cases h) (fun _ => rfl) rfl K 3 rfl rfl rfl Tryz.isAgg22 ?_
        (try simp only [Act.put, List.setIfInBounds_toArray, List.set_cons_succ, List.set_cons_zero, List.getElem_toArray, List.getElem_cons_succ, List.getElem_cons_zero])
        refine AnyIn_one 1 _ (by kernel_rfl) rfl ?_
        refine OpIn_move (v := .slice (some ⟨bb, off + y * 32, none⟩) 32 32) rfl (by kernel_rfl) rfl rfl ?_
        (try simp only [Act.put, List.setIfInBounds_toArray, List.set_cons_succ, List.set_cons_zero, List.getElem_toArray, List.getElem_cons_succ, List.getElem_cons_zero])
        refine AnyIn_one 2 _ (by kernel_rfl) rfl ?_
        refine OpIn_value (v := .slice (some ⟨bb, off + y * 32, none⟩) 24 32) rfl (by kernel_rfl) (by intro c h; cases h) (fun _ => rfl) (by first | (go_simp; done) | (go_simp; rfl)) ?_
        (try simp only [Act.put, List.setIfInBounds_toArray, List.set_cons_succ, List.set_cons_zero, List.getElem_toArray, List.getElem_cons_succ, List.getElem_cons_zero])
        rotate_left
        refine OpIn_move (v := .slice (some ⟨bb, off + y * 32, none⟩) 32 32) rfl (by kernel_rfl) rfl rfl ?_
        (try simp only [Act.put, List.setIfInBounds_toArray, List.set_cons_succ, List.set_cons_zero, List.getElem_toArray, List.getElem_cons_succ, List.getElem_cons_zero])
        refine AnyIn_two 0 2 _ _ (by kernel_rfl) rfl rfl ?_ ?_
        refine OpIn_load1 rfl (by kernel_rfl) (by intro c h; cases h) (fun _ => rfl) rfl K 3 rfl rfl rfl Tryz.isAgg22 ?_
        (try simp only [Act.put, List.setIfInBounds_toArray, List.set_cons_succ, List.set_cons_zero, List.getElem_toArray, List.getElem_cons_succ, List.getElem_cons_zero])
        refine AnyIn_one 2 _ (by kernel_rfl) rfl ?_
        refine OpIn_value (v := .slice (some ⟨bb, off + y * 32, none⟩) 24 32) rfl (by kernel_rfl) (by intro c h; cases h) (fun _ => rfl) (by first | (go_simp; done) | (go_simp; rfl)) ?_
        (try simp only [Act.put, List.setIfInBounds_toArray, List.set_cons_succ, List.set_cons_zero, List.getElem_toArray, List.getElem_cons_succ, List.getElem_cons_zero])
        rotate_left
        refine OpIn_value (v := .slice (some ⟨bb, off + y * 32, none⟩) 24 32) rfl (by kernel_rfl) (by intro c h; cases h) (fun _ => rfl) (by first | (go_simp; done) | (go_simp; rfl)) ?_
        (try simp only [Act.put, List.setIfInBounds_toArray, List.set_cons_succ, List.set_cons_zero, List.getElem_toArray, List.getElem_cons_succ, List.getElem_cons_zero])
        refine AnyIn_one 0 _ (by kernel_rfl) rfl ?_
        refine OpIn_load1 rfl (by kernel_rfl) (by intro c h; cases h) (fun _ => rfl) rfl K 3 rfl rfl rfl Tryz.isAgg22 ?_
        (try simp only [Act.put, List.setIfInBounds_toArray, List.set_cons_succ, List.set_cons_zero, List.getElem_toArray, List.getElem_cons_succ, List.getElem_cons_zero])
        all_goals (
          refine AnyIn_one 3 _ (by kernel_rfl) rfl ?_
          refine OpIn_appendB rfl (by kernel_rfl) (by intro c h; cases h) (fun _ => rfl) rfl K 0 rfl rfl (xv := .slice (some ⟨bb, off + y * 32, none⟩) 24 32) rfl (hprF K) (by rw [HY.out.2.2]; omega) ?_
          clear K
          intro v1 w1 K
          simp only [List.set_cons_zero] at K
          obtain ⟨A1, c1, rfl⟩ := own_slice (K.get 0 rfl)
          refine AnyIn_one 4 _ (by kernel_rfl) rfl ?_
          refine OpIn_store1 rfl (by kernel_rfl) (by intro c h; cases h) (fun _ => rfl) rfl K 3 rfl rfl rfl rfl rfl (Nat.le_of_ble_eq_true rfl) Tryz.sizeOf22 ?_
          clear K
          intro w1 K
          simp only [List.set_cons_zero, List.set_cons_succ, List.setIfInBounds_toArray, Act.eval, Array.getD_eq_getD_getElem?, List.getElem?_toArray, List.getElem?_cons_succ, List.getElem?_cons_zero, Option.getD_some] at K
          refine AnyIn_done (by kernel_rfl) ?_ _
          have hM := HM0.out
          subst hM
          have hO := hs.outer K
          have e1 : 24 * (pre ++ [x]).length = 24 * pre.length + ys.length := by rw [List.length_append, HY.out.2.2, List.length_singleton]; omega
          have e2 : bare s ((pre ++ [x]).map (within n)) = bare s (pre.map (within n)) ++ ys := by rw [List.map_append, List.map_singleton, bare_snoc, HY.out.1, HY.out.2.1]
          refine ⟨(lifL_low _ _ _ _ _ _ _ _ _ _ _).keeps hs K, kpB_of (hs.at_ 2 rfl) (hs.at_ 1 rfl) (K.at_ 2 rfl) (K.at_ 1 rfl), ⟨.slice A1 (24 * pre.length + ys.length) c1, ?_⟩⟩
          unfold lifL
          rw [e1, e2, cellsOf_append]
          exact hO)
      case hdone =>
        rintro D ps W hD rfl ⟨v, hs⟩ hK
        unfold lifL at hs
        rw [List.length_range, within_range] at hs
        obtain ⟨gm, cm, rfl, hcm⟩ := own_some (hs.get 0 rfl) (by omega)
        have hsn : 32 * n ≤ s.length := by omega
        have hbl := (bare_at s n hsn).1
        have hown := own_rd (hs.get 0 rfl) hbl.symm
        have hb1 := sub_rd hown 2 long (cm - 2) (by rw [hbl]; omega) (by omega)
        rw [bare_unlay s n long hsn (by omega), Nat.zero_add] at hb1
        obtain ⟨b, hbe⟩ : ∃ b, unlayP s long = b := ⟨_, rfl⟩
        rw [hbe] at hb1
        have hbl' : b.length = long := by rw [← hbe]; simp [unlayP]
        have hbb : ∀ x ∈ b, 0 ≤ x ∧ x ≤ 255 := by
          intro x hx
          rw [← hbe] at hx
          obtain ⟨i, _, rfl⟩ := List.mem_map.1 hx
          rw [List.getD_eq_getElem?_getD]
          cases hi : s[32 * ((i + 2) / 24) + (i + 2) % 24]? with
          | none => simp
          | some y => exact HR.out.2 y (List.mem_of_getElem? hi)
        have hcl := clone_bytes ⟨gm, 2, none⟩ long (cm - 2) b W hb1 (by omega)
        rw [hbl'] at hcl
        have hlay : (layP ep sq b).length = n * 32 := by rw [layP_len, hbl', HN.out]; omega
        have hlift : liftP s = if layP ep sq b = s.take (32 * n) then some ⟨ep, sq, b, n⟩ else none := by
          unfold liftP
          rw [if_neg h32, HL.out.1, HN.out, if_neg hsl, HL.out.2.1, HL.out.2.2.1, hbe]
        have hU1 : U32 ep := by have := HL.out.2.2.2.1; unfold U32; omega
        have hU2 : U32 sq := by have := HL.out.2.2.2.2; unfold U32; omega
        have hrs : RdS (encInt .u8) 1 w0 (.slice (some ⟨bb, off, none⟩) (n * 32) cap) (s.take (32 * n)) := by
          have := sub_rd HR.out.1 0 (n * 32) cap (by omega) (by omega)
          rw [List.drop_zero, Nat.add_zero, Nat.mul_comm] at this
          rw [Nat.mul_comm n 32]
          exact this
        have hlb : ∀ x ∈ layP ep sq b, 0 ≤ x ∧ x ≤ 255 := lay_bytes hbb
        have hsb : ∀ x ∈ s.take (32 * n), 0 ≤ x ∧ x ≤ 255 := fun x hx => HR.out.2 x (List.mem_of_mem_take hx)
        have hwl : IntKind.i64.wrap (2 + (long : Int)) = 2 + (long : Int) := by rw [IntKind.wrap_i64]; omega
        have hc2 : 2 + (long : Int) ≤ (cm : Int) := by omega
        have hc3 : ¬ cm = 2 := by omega
        have hc4 : (2 : Int) ≤ 2 + (long : Int) := by omega
        have HB := Lib.hid (And.intro hbl' (And.intro hbb (And.intro hlay (And.intro hlift (And.intro hrs (And.intro hlb (And.intro hsb (And.intro hU1 hU2))))))))
        clear hbl hown hb1 hbe hbl' hbb hlay hlift hrs hlb hsb hU1 hU2
        go_upto_region 13 with (first
          | (refine L_load1 rfl rfl hs 3 rfl rfl rfl Tryz.isAgg22 ?_; (try simp only [Act.put, List.setIfInBounds_toArray, List.set_cons_succ, List.set_cons_zero, List.getElem_toArray, List.getElem_cons_succ, List.getElem_cons_zero]))
          | (go_at_call 58; refine hcl.mono ?_; rintro e1 w1 ⟨vb, rfl, ho, hE⟩; replace hs := hs.addOwn hE ho; replace hK := hE.block0 hK; clear ho hE; obtain ⟨Ab, cb, rfl⟩ := own_slice (hs.get 0 rfl)))
        clear hcl
        go_upto_region 14 with (first
          | (go_at_call 54; refine (lay_any ep sq (.slice Ab long cb) b w1 HB.out.2.2.2.2.2.2.2.1 HB.out.2.2.2.2.2.2.2.2 (own_rd (hs.get 0 rfl) HB.out.1.symm) HB.out.2.1 (by rw [HB.out.1]; exact hl65)).mono ?_; rintro e1 w2 ⟨va, rfl, hra, hE, _⟩; replace hs := hs.calls hE; replace hK := hE.block0 hK; clear hE; obtain ⟨Aa, ca, rfl⟩ := hra.isSlice; rw [HB.out.2.2.1] at hra ⊢))
        by_cases heq : layP ep sq b = s.take (32 * n)
        · have hle : liftP s = some ⟨ep, sq, b, n⟩ := by rw [HB.out.2.2.2.1, if_pos heq]
          have heqc := (bytesEqual_any (.slice Aa (n * 32) ca) (.slice (some ⟨bb, off, none⟩) (n * 32) cap) _ _ w2 hra (HB.out.2.2.2.2.1.keep hs.ext) HB.out.2.2.2.2.2.1 HB.out.2.2.2.2.2.2.1)
          rw [decide_eq_true heq] at heqc
          have HLE := Lib.hid hle
          have hlc : long ≤ cb := by
            rcases (hs.get 0 rfl).2 with ⟨h1, h2⟩ | ⟨g, c, cur, h1, _, _, h3, _⟩
            · omega
            · cases h1; exact h3
          clear hle heq hra
          go_wp2_with (first
            | (go_at_call 68; refine heqc.mono ?_; rintro e1 w9 ⟨rfl, hw9⟩; replace hw9 := hw9.symm; subst hw9)
            | (go_at_call 69; refine (clipS_any Ab long cb hlc w2).mono ?_; rintro e1 w10 ⟨rfl, hw10⟩; replace hw10 := hw10.symm; subst hw10))
          refine ⟨by simp, .inl ⟨_, _, rfl, run_takeDeferred hK, ?_⟩⟩
          refine ⟨_, results_tmp5 rfl _ _ _, .inl ⟨_, .slice Ab long long, HLE.out, rfl, ((own_rd (hs.get 0 rfl) HB.out.1.symm).clip).putObj hK rfl _, fun j hj => ?_⟩, ext_putObj hs.ext (Nat.le_trans hsz9 hD) _⟩
          have hj2 : (ownA 5 1 (.slice Ab long cb) long (cellsOf (encInt .u8) b)).fp j := show (Value.slice Ab long cb).ownBlock = some j by cases Ab <;> exact hj
          refine ⟨(hs.own _ List.mem_cons_self j hj2).elim False.elim id, ?_⟩
          rw [World.putObj_size]
          exact hs.lt _ List.mem_cons_self j hj2
        · have hle : liftP s = none := by rw [HB.out.2.2.2.1, if_neg heq]
          have heqc := (bytesEqual_any (.slice Aa (n * 32) ca) (.slice (some ⟨bb, off, none⟩) (n * 32) cap) _ _ w2 hra (HB.out.2.2.2.2.1.keep hs.ext) HB.out.2.2.2.2.2.1 HB.out.2.2.2.2.2.2.1)
          rw [decide_eq_false heq] at heqc
          have HLE := Lib.hid hle
          clear hle heq hra
          go_wp2_with (first
            | (go_at_call 68; refine heqc.mono ?_; rintro e1 w9 ⟨rfl, hw9⟩; replace hw9 := hw9.symm; subst hw9))
          refine ⟨by simp, .inl ⟨_, _, rfl, run_takeDeferred hK, ?_⟩⟩
          exact ⟨_, results_tmp5 rfl _ _ _, .inr ⟨HLE.out, rfl⟩, ext_putObj hs.ext (Nat.le_trans hsz9 hD) _⟩
      case hstop =>
        rintro D c pre W _ _ h _
        exact h.elim
end Go.Proofs.YtgmeahogdjhejaaGreatDoor
