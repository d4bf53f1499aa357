/- The law's deeds as an argument; all, some. -/
import Derived.Test.YtjdfeagjbhdceaaLaw14C
import Derived.Test.YtjdfeagjbhdceaaOpen
namespace Go.Proofs.Ytjdfeagjbhdceaa
set_option linter.unusedVariables false
set_option linter.unusedSimpArgs false
open Go.RowKit Go.ChangeShapes Go.WideShapes

theorem Deed.len (d : Deed) : d.cells.length = 5 := rfl
theorem wf_bounds {q : IntKind} {a : Int} (h : (Lit.int q a).wf = true) : q.min ≤ a ∧ a ≤ q.max := by simpa [Lit.wf] using h
theorem cells47 : Try.prog.cellsOf 47 = 5 := by kernel_rfl
theorem cell1_u8 : Try.prog.cellsOf 5 = 1 := by kernel_rfl
theorem cell1_int : Try.prog.cellsOf 3 = 1 := by kernel_rfl
set_option maxRecDepth 100000 in
theorem deed_of {H : Type} {enc : TypeId × Value → H} {w : World} (n : Nat) (cs : List Value) (x : DataW H × List MemPlace) (h : DataW.trod enc Try.prog w 0 (fun _ => true) true n 47 cs = some x) : ∃ d : Deed, cs = d.cells ∧ d.Ok := by
  obtain ⟨xs, m, _, _, hl, hlen, hf⟩ := DataW.trod_struct Try.underlying47 h
  rw [cells47] at hl
  match cs, hl, xs, hlen with
  | [c0, c1, c2, c3, c4], _, [y0, y1, y2, y3, y4], _ =>
    obtain ⟨a0, e0, _, w0⟩ := DataW.trod_int Try.underlying5 (hf 0 _ rfl)
    obtain ⟨a1, e1, _, w1⟩ := DataW.trod_int Try.underlying3 (hf 1 _ rfl)
    obtain ⟨a2, e2, _, w2⟩ := DataW.trod_int Try.underlying5 (hf 2 _ rfl)
    obtain ⟨a3, e3, _, w3⟩ := DataW.trod_int Try.underlying3 (hf 3 _ rfl)
    obtain ⟨a4, e4, _, w4⟩ := DataW.trod_int Try.underlying3 (hf 4 _ rfl)
    have g0 : c0 = .int .u8 a0 := by simpa [cell1_u8, cell1_int] using e0
    have g1 : c1 = .int .i64 a1 := by simpa [cell1_u8, cell1_int] using e1
    have g2 : c2 = .int .u8 a2 := by simpa [cell1_u8, cell1_int] using e2
    have g3 : c3 = .int .i64 a3 := by simpa [cell1_u8, cell1_int] using e3
    have g4 : c4 = .int .i64 a4 := by simpa [cell1_u8, cell1_int] using e4
    subst g0 g1 g2 g3 g4
    exact ⟨⟨a0, a1, a2, a3, a4⟩, rfl, ⟨wf_bounds w0, wf_bounds w2, wf_bounds w3⟩⟩
set_option maxRecDepth 100000 in
theorem deeds_of {H : Type} {enc : TypeId × Value → H} {w : World} {r : Reach} {base : Nat} {v : Value} {d : DataW H} {ps : List MemPlace} (hv : Value.okWide Try.prog w r base 37 v) (h : DataW.Trod enc Try.prog w 0 (fun _ => true) true 37 v d ps) :
    ∃ xs : List Deed, RdS Deed.cells 5 w v xs ∧ ∀ x ∈ xs, x.Ok := by
  obtain ⟨A, len, cap, rfl⟩ := okWide_slice Try.underlying37 hv
  exact rds_of_slice Try.underlying37 cells47 (by omega) deed_of h

open Go.Joins in
set_option maxRecDepth 100000 in
theorem deed_arg {H : Type} {enc : TypeId × Value → H} {w : World} {r : Reach} {base : Nat} {v : Value} {d : DataW H} {ps : List MemPlace} (hv : Value.okWide Try.prog w r base 47 v) (h : DataW.Trod enc Try.prog w 0 (fun _ => true) true 47 v d ps) :
    ∃ x : Deed, v = x.val ∧ x.Ok := by
  obtain ⟨cs, rfl, _⟩ := okWide_struct Try.underlying47 hv
  obtain ⟨n, hf⟩ := h
  obtain ⟨x, hx, hok⟩ := deed_of n _ _ hf
  refine ⟨x, ?_, hok⟩
  have hcs : cs.toList = x.cells := hx
  unfold Deed.val
  rw [← hcs]

theorem Deed.bytes_ok {d : Deed} (h : d.Ok) : ∀ x ∈ d.bytes, 0 ≤ x ∧ x ≤ 255 := by
  unfold Deed.bytes
  split
  · exact rep_bytes _ _ (by omega)
  · intro x hx
    rcases List.mem_or_eq_of_mem_set hx with h' | rfl
    · exact rep_bytes _ _ h.c x h'
    · omega
/-- A deed as the law's `some` does it. -/
def someStep (d : DS) (x : Deed) : DS := if x.kind % 5 = 0 then d.flushR.1 else (d.writeR x.at_ x.bytes).1
def someD (xs : List Deed) : DS := (xs.take 30).foldl someStep (DS.new 9)
theorem someStep_fine {d : DS} {W : Int} (h : d.Fine W) {x : Deed} (hx : x.Ok) : (someStep d x).Fine (W + 1) := by
  unfold someStep
  split
  · exact h.flushR.mono (by omega)
  · exact h.writeR (Deed.bytes_ok hx)
theorem fold_fine {step : DS → Deed → DS} (hstep : ∀ {d : DS} {W : Int}, d.Fine W → ∀ {x : Deed}, x.Ok → (step d x).Fine (W + 1)) : ∀ (xs : List Deed) (d : DS) (W : Int), d.Fine W → (∀ x ∈ xs, x.Ok) → (xs.foldl step d).Fine (W + xs.length)
  | [], d, W, h, _ => by simpa using h
  | x :: xs, d, W, h, hx => by
    have := fold_fine hstep xs (step d x) (W + 1) (hstep h (hx x (by simp))) (fun y hy => hx y (by simp [hy]))
    simp only [List.foldl_cons, List.length_cons]
    exact this.mono (by omega)
theorem fold_take_succ {β : Type} {step : β → Deed → β} {xs : List Deed} {k : Nat} (hk : k < xs.length) (d : β) : (xs.take (k + 1)).foldl step d = step ((xs.take k).foldl step d) xs[k] := by
  rw [List.take_add_one, List.foldl_append, List.getElem?_eq_getElem hk]; rfl

def SomeRel (b bs bm : Nat) (xs : List Deed) (w0 : World) (vi : Value) (wr : World) : Prop :=
  ∃ k : Nat, vi = .int .i64 (k : Int) ∧ k ≤ xs.length ∧ k ≤ 30 ∧ SH (fun _ => False) w0 wr [DiskA b bs bm ((xs.take k).foldl someStep (DS.new 9))]

theorem info47 : (Try.prog.info? 47).map (·.size) = some 5 := by kernel_rfl

set_option maxRecDepth 100000 in
set_option maxHeartbeats 1000000 in
theorem some_any (v : Value) (xs : List Deed) (w0 : World) (hr : RdS Deed.cells 5 w0 v xs) (hx : ∀ x ∈ xs, x.Ok) : Calls Try.prog 23 #[v] w0 (GivesDisk w0 (someD xs)) := by
  obtain ⟨A, cap, rfl, hcap⟩ := hr.len
  have H : SH (fun _ => False) w0 w0 [] := SH.nil _ _
  have hnew := new_any 9 w0
  rw [show min (9 : Int).toNat 4096 = 9 from rfl] at hnew
  have HX := Lib.hid hx
  clear hx
  go_enter Try.func23, Try.ntmps23
  go_wp2_with (first | (go_at_call 34; refine hnew.mono ?_; rintro e w ⟨b, bs, bm, rfl, h⟩; replace H := H.cat h; clear h; simp only [List.cons_append, List.nil_append] at H))
  clear hnew
  go_loopw [4] (fun vi wr => SomeRel b bs bm xs w0 vi wr) (fun vi _ => xs.length - (intOf vi).toNat)
  case atStart => exact ⟨0, rfl, Nat.zero_le _, Nat.zero_le _, H⟩
  case round =>
    clear H
    obtain ⟨k, rfl, hk, hk30, H⟩ := hrel
    by_cases hkn : k < xs.length
    · by_cases hk3 : k < 30
      · have hxo := HX.out xs[k] (List.getElem_mem hkn)
        have hfine : ((xs.take k).foldl someStep (DS.new 9)).Fine 30 := (fold_fine someStep_fine (xs.take k) _ _ (DS.Fine.new 9 (by omega)) (fun y hy => HX.out y (List.mem_of_mem_take hy))).mono (by rw [List.length_take]; omega)
        have hstep := fold_take_succ (step := someStep) hkn (DS.new 9)
        obtain ⟨bb, off, cs, T, fr, rfl, hb, hcs⟩ := hr.cell hkn
        have HS := Lib.hid hstep
        clear hstep
        generalize (xs.take k).foldl someStep (DS.new 9) = d at *
        generalize xs[k] = x at *
        have hkd := hxo.kind.1
        have hk3i : ((k : Int) < 30) := by omega
        have hkind : wr.cell? ⟨bb, off + k * 5, none⟩ = some (.int .u8 x.kind) := by
          rw [cell_of_row wr bb _ cs T fr (H.ext.keep hb (fun e => e))]
          have := hcs 0 (by omega); rw [Nat.add_zero] at this; rw [this]; rfl
        cases hb5 : (x.kind % 5 == 0)
        · have hst : someStep d x = (d.writeR x.at_ x.bytes).1 := by unfold someStep; rw [if_neg (by simpa using hb5)]
          rw [hst] at HS
          clear hst hr
          go_wp2_with fail
          have hv1 : cs[off + k * 5 + 1]? = some (.int .i64 x.at_) := by rw [hcs 1 (by omega)]; rfl
          have hbx := fun (W : World) => Lib.hid hb
          clear hkind hbx
          have H1 := H.drop (L' := []) (List.nil_sublist _)
          refine D_start H1 (by kernel_rfl) (fun hS => ?_)
          try simp only [Act.put, List.setIfInBounds_toArray, List.set_cons_succ, List.set_cons_zero]
          refine D_take 0 (v := ?_) rfl (by kernel_rfl) (by kernel_rfl) (by kernel_rfl) (fun _ _ _ h => h) rfl (by rfl) (fun W hS => ?_) hS ?_
          rotate_left; (focus (first | (go_simp; done) | (go_simp; with_reducible rfl) | (go_simp; rfl))); all_goals skip; (try simp only [List.set_cons_succ, List.set_cons_zero])
          refine D_take 1 (v := ?_) rfl (by kernel_rfl) (by kernel_rfl) (by kernel_rfl) (fun _ _ _ h => h) rfl (by rfl) (fun W hS => ?_) hS ?_
          rotate_left; (focus (first | (go_simp; done) | (go_simp; with_reducible rfl) | (go_simp; rfl))); all_goals skip; (try simp only [List.set_cons_succ, List.set_cons_zero])
          refine D_take 2 (v := ?_) rfl (by kernel_rfl) (by kernel_rfl) (by kernel_rfl) (fun _ _ _ h => h) rfl (by rfl) (fun W hS => ?_) hS ?_
          rotate_left; (focus (first | (go_simp; done) | (go_simp; with_reducible rfl) | (go_simp; rfl))); all_goals skip; (try simp only [List.set_cons_succ, List.set_cons_zero])
          refine D_take 3 (v := ?_) rfl (by kernel_rfl) (by kernel_rfl) (by kernel_rfl) (fun _ _ _ h => h) rfl (by rfl) (fun W hS => ?_) hS ?_
          rotate_left; (focus (first | (go_simp; done) | (go_simp; with_reducible rfl) | (go_simp; rfl))); all_goals skip; (try simp only [List.set_cons_succ, List.set_cons_zero])
          refine D_take 4 (v := ?_) rfl (by kernel_rfl) (by kernel_rfl) (by kernel_rfl) (fun _ _ _ h => h) rfl (by rfl) (fun W hS => ?_) hS ?_
          rotate_left; (focus (first | (go_simp; done) | (go_simp; with_reducible rfl) | (go_simp; rfl))); all_goals skip; (try simp only [List.set_cons_succ, List.set_cons_zero])
          refine D_take 5 (v := (.int .i64 x.at_)) rfl (by kernel_rfl) (by kernel_rfl) (by kernel_rfl) (fun _ _ _ h => h) rfl (by rfl) (fun W hS => R_load1r (ty := 3) (x := .tmp 29) (off := off + k * 5 + 1) rfl hS rfl hb (fun e => e) hv1 Try.isAgg3) hS ?_; (try simp only [List.set_cons_succ, List.set_cons_zero])
          refine D_take 6 (v := ?_) rfl (by kernel_rfl) (by kernel_rfl) (by kernel_rfl) (fun _ _ _ h => h) rfl (by rfl) (fun W hS => ?_) hS ?_
          rotate_left; (focus (first | (go_simp; done) | (go_simp; with_reducible rfl) | (go_simp; rfl))); all_goals skip; (try simp only [List.set_cons_succ, List.set_cons_zero])
          refine D_take 7 (v := ?_) rfl (by kernel_rfl) (by kernel_rfl) (by kernel_rfl) (fun _ _ _ h => h) rfl (by rfl) (fun W hS => ?_) hS ?_
          rotate_left; (focus (first | (go_simp; done) | (go_simp; with_reducible rfl) | (go_simp; rfl))); all_goals skip; (try simp only [List.set_cons_succ, List.set_cons_zero])
          refine D_take 8 (v := ?_) rfl (by kernel_rfl) (by kernel_rfl) (by kernel_rfl) (fun _ _ _ h => h) rfl (by rfl) (fun W hS => ?_) hS ?_
          rotate_left; (focus (first | (go_simp; done) | (go_simp; with_reducible rfl) | (go_simp; rfl))); all_goals skip; (try simp only [List.set_cons_succ, List.set_cons_zero])
          refine D_take 9 (v := x.val) rfl (by kernel_rfl) (by kernel_rfl) (by kernel_rfl) (fun _ _ _ h => h) rfl (by rfl) (fun W hS => R_loadmid (ty := 47) (x := .tmp 33) (b := bb) (off := off + k * 5) rfl rfl (hS.ext.keep hb (fun e => e)) Try.underlying47 rfl info47 x.cells rfl hcs) hS ?_; (try simp only [List.set_cons_succ, List.set_cons_zero])
          refine D_one 10 rfl (by kernel_rfl) (by rfl) ?_
          refine R_call (f := 28) (args := #[x.val]) (by first | (go_simp; done) | (go_simp; rfl)) (wrote_any x hxo _) ?_
          clear hS
          rintro e w ⟨g, rfl, h⟩
          have HW := H.drew.cat h
          simp only [List.cons_append, List.nil_append] at HW
          have hS := HW.drop (L' := []) (List.nil_sublist _)
          refine ⟨_, rfl, hS, ?_⟩
          try simp only [Act.put, List.getElem_toArray, List.getElem_cons_succ, List.getElem_cons_zero, List.setIfInBounds_toArray, List.set_cons_succ, List.set_cons_zero]
          refine D_one 11 rfl (by kernel_rfl) (by rfl) ?_
          refine R_call (f := 27) (args := #[.pointer (some ⟨b, 0, none⟩), .int .i64 x.at_, .slice (some ⟨g, 0, none⟩) x.bytes.length x.bytes.length]) (by first | (go_simp; done) | (go_simp; rfl)) (dwrite (HW.get 1 rfl) hfine (by omega) x.at_ (bytesRd (HW.at_ 0 rfl)) (ownSep HW 0 1 (by omega) rfl rfl)) ?_
          clear hS
          rintro e w ⟨rfl, h1, h2⟩
          replace HW := (HW.disk 1 rfl h1 h2).drop (L' := [_]) (List.sublist_cons_self _ _)
          have hS := HW.drop (L' := []) (List.nil_sublist _)
          refine ⟨_, rfl, hS, ?_⟩
          try simp only [Act.put, List.getElem_toArray, List.getElem_cons_succ, List.getElem_cons_zero, List.setIfInBounds_toArray, List.set_cons_succ, List.set_cons_zero]
          refine wpAnyH_done (by kernel_rfl) ?_ _
          clear H H1 hS h h1 h2
          have H := HW
          clear HW
          go_wp2_with fail
          go_roundw
          case rel => exact ⟨k + 1, by go_num, by omega, by omega, by rw [HS.out]; exact H⟩
          case measure => simp [intOf]; omega
        · have hst : someStep d x = d.flushR.1 := by unfold someStep; rw [if_pos (by simpa using hb5)]
          rw [hst] at HS
          clear hst hr
          go_wp2_with (first | (go_at_call 24; refine (dflush (H.get 0 rfl) hfine).mono ?_; rintro e w ⟨rfl, h1, h2⟩; replace H := H.disk 0 rfl h1 h2; clear h1 h2; simp only [List.set_cons_zero] at H))
          go_roundw
          case rel => exact ⟨k + 1, by go_num, by omega, by omega, by rw [HS.out]; exact H⟩
          case measure => simp [intOf]; omega
      · obtain rfl : k = 30 := by omega
        go_wp2_with fail
        go_ret
        exact ⟨b, bs, bm, rfl, H⟩
    · obtain rfl : k = xs.length := by omega
      go_wp2_with fail
      go_ret
      have hE : someD xs = (xs.take xs.length).foldl someStep (DS.new 9) := by unfold someD; rw [List.take_of_length_le hk30, List.take_of_length_le (Nat.le_refl _)]
      exact ⟨b, bs, bm, rfl, by rw [hE]; exact H⟩
end Go.Proofs.Ytjdfeagjbhdceaa
