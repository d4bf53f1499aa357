/- DiskBurns: of all that is done behind a fuse of n just the first n things are done; nothing that is refused changes anything. For every input. -/
import Derived.Test.YtjdfeagjbhdceaaFlushed
import Derived.Laws.BitsLemmas
namespace Go.Proofs.Ytjdfeagjbhdceaa
set_option linter.unusedVariables false
set_option linter.unusedSimpArgs false
open Go.RowKit

/-! ### The plain law -/
def burnStep (d : DS) (x : Deed) : DS × Int := if x.kind % 3 = 0 then d.flushR else d.writeR (x.c % 9) (List.replicate 32 x.c)
theorem burn_zero {d : DS} (h : d.fuse = 0) (hl : d.sure.length = 9) {x : Deed} (hx : x.Ok) : burnStep d x = (d, 10) := by
  have hc := hx.c
  unfold burnStep
  split
  · unfold DS.flushR; rw [if_pos h]
  · unfold DS.writeR; rw [if_neg (fun hh => hh ⟨⟨by omega, by rw [hl]; omega⟩, by simp⟩), if_pos h]
theorem spend_pos {d : DS} (h : 0 < d.fuse) : d.spend.1.fuse = d.fuse - 1 ∧ d.spend.1.sure = d.sure := by
  unfold DS.spend
  rw [if_neg (by omega), if_neg (by omega)]
  exact ⟨rfl, rfl⟩
theorem burn_pos {d : DS} (h : 0 < d.fuse) (hl : d.sure.length = 9) {x : Deed} (hx : x.Ok) : (burnStep d x).2 = 0 ∧ (burnStep d x).1.fuse = d.fuse - 1 ∧ (burnStep d x).1.sure.length = 9 := by
  have hc := hx.c
  have hs := spend_pos h
  unfold burnStep
  split
  · rw [DS.flushR_on (by omega)]
    exact ⟨rfl, hs.1, by simp only [DS.flush, applyAll_length]; exact hl⟩
  · rw [DS.writeR_on ⟨by omega, by rw [hl]; omega⟩ (by simp) (by omega)]
    exact ⟨rfl, hs.1, by show d.spend.1.sure.length = 9; rw [hs.2]; exact hl⟩
theorem burn_fine {d : DS} {W : Int} (h : d.Fine W) {x : Deed} (hx : x.Ok) : (burnStep d x).1.Fine (W + 1) := by
  unfold burnStep
  split
  · exact h.flushR.mono (by omega)
  · exact h.writeR (rep_bytes _ _ hx.c)
def burnD (d : DS) (xs : List Deed) : DS := xs.foldl (fun d x => (burnStep d x).1) d
theorem burnD_fuse (m : Nat) : ∀ (xs : List Deed) (d : DS), d.fuse = (m : Int) → d.sure.length = 9 → (∀ x ∈ xs, x.Ok) → (burnD d xs).fuse = ((m - xs.length : Nat) : Int) ∧ (burnD d xs).sure.length = 9 := by
  induction m with
  | zero =>
    intro xs
    induction xs with
    | nil => intro d h hl _; exact ⟨by simpa [burnD] using h, hl⟩
    | cons x xs ih =>
      intro d h hl hx
      have hz := burn_zero (by simpa using h) hl (hx x (by simp))
      have := ih d h hl (fun y hy => hx y (by simp [hy]))
      simp only [burnD, List.foldl_cons, hz] at this ⊢
      simpa using this
  | succ m ih =>
    intro xs d h hl hx
    cases xs with
    | nil => exact ⟨by simpa [burnD] using h, hl⟩
    | cons x xs =>
      have hz := burn_pos (by omega) hl (hx x (by simp))
      have := ih xs (burnStep d x).1 (by omega) hz.2.2 (fun y hy => hx y (by simp [hy]))
      simp only [burnD, List.foldl_cons, List.length_cons] at this ⊢
      exact ⟨by rw [this.1]; omega, this.2⟩

def BurnRel (b bs bm m : Nat) (d0 : DS) (xs : List Deed) (w0 : World) (vd vi : Value) (wr : World) : Prop :=
  ∃ k : Nat, vi = .int .i64 (k : Int) ∧ vd = .int .i64 ((min k m : Nat) : Int) ∧ k ≤ xs.length ∧ k ≤ 50 ∧ SH (fun _ => False) w0 wr [DiskA b bs bm (burnD d0 (xs.take k))]
def BurnRel0 (b bs bm : Nat) (d : DS) (w0 : World) (vi : Value) (wr : World) : Prop :=
  ∃ k : Nat, vi = .int .i64 (k : Int) ∧ k ≤ 9 ∧ SH (fun _ => False) w0 wr [DiskA b bs bm d]
def BurnRel3 (b bs bm : Nat) (d : DS) (A9 : Option Addr) (c9 : Nat) (A11 : Option Addr) (c11 : Nat) (al : List (List Int)) (w0 : World) (vj : Value) (wr : World) : Prop :=
  ∃ j : Nat, vj = .int .i64 (j : Int) ∧ j ≤ 9 ∧ SH (fun _ => False) w0 wr [ownA 9 1 (.slice A11 9 c11) 9 (cellsOf encS al), ownA 9 1 (.slice A9 9 c9) 9 (cellsOf encS al), DiskA b bs bm d]

set_option maxRecDepth 100000 in
set_option maxHeartbeats 1000000 in
theorem burns_walk (n : Int) (v : Value) (xs : List Deed) (w0 : World) (hn : 0 ≤ n ∧ n ≤ 255) (hr : RdS Deed.cells 5 w0 v xs) (hx : ∀ x ∈ xs, x.Ok) :
    Calls Try.prog 10 #[.int .u8 n, v] w0 fun e w' => e = .returned (.bool true) ∧ Ext0 w0 w' := by
  obtain ⟨m, hm⟩ : ∃ m : Nat, n % 25 = (m : Int) := ⟨(n % 25).toNat, by omega⟩
  have hm25 : m < 25 := by omega
  obtain ⟨A, cap, rfl, hcap⟩ := hr.len
  have H : SH (fun _ => False) w0 w0 [] := SH.nil _ _
  have hnew := fun {w : World} => new_any 9 w
  rw [show min (9 : Int).toNat 4096 = 9 from rfl] at hnew
  have hfuse := fun {b bs bm : Nat} {w : World} (h : (DiskA b bs bm (DS.new 9)).says w) => fuse_any b bs bm (DS.new 9) (m : Int) w h
  have hF0 := ((DS.Fine.new 9 (by omega)).setFuse (m : Int) (by omega))
  rw [show max (m : Int) (-1) = m by omega] at hfuse hF0
  have hl0 : (DS.mk (m : Int) (DS.new 9).sure (DS.new 9).pend (DS.new 9).writes).sure.length = 9 := by simp [DS.new]
  have hfu0 : (DS.mk (m : Int) (DS.new 9).sure (DS.new 9).pend (DS.new 9).writes).fuse = (m : Int) := rfl
  generalize (DS.mk (m : Int) (DS.new 9).sure (DS.new 9).pend (DS.new 9).writes) = d0 at *
  have HX := Lib.hid hx
  have HF := Lib.hid (And.intro hF0 (And.intro hl0 hfu0))
  have hf1 := full_row 1
  obtain ⟨b1, hb1e⟩ : ∃ b1, List.replicate 32 (1 : Int) = b1 := ⟨_, rfl⟩
  replace hf1 := hf1 b1 hb1e
  have hb1l : b1.length = 32 := by rw [← hb1e]; simp
  have HB := Lib.hid (And.intro hf1 hb1l)
  have HX2 := Lib.hid hb1e
  have hn0 := hn.1
  clear hx hF0 hl0 hfu0 hf1 hb1l hb1e
  go_enter Try.func10, Try.ntmps10
  go_wp2_with (first
    | (go_at_call 34; refine hnew.mono ?_; rintro e w ⟨b, bs, bm, rfl, h⟩; replace H := H.cat h; clear h; simp only [List.cons_append, List.nil_append] at H)
    | (go_at_call 39; refine (hfuse (H.get 0 rfl)).mono ?_; rintro e w ⟨rfl, h1, h2⟩; replace H := H.disk 0 rfl (h1.mono (fun i _ h => .inl h)) h2; clear h1 h2; simp only [List.set_cons_zero] at H))
  clear hnew hfuse
  go_loopw [7, 8] (fun vd vi wr => BurnRel b bs bm m d0 xs w0 vd vi wr) (fun _ vi _ => xs.length - (intOf vi).toNat)
  case atStart => exact ⟨0, rfl, by simp, by omega, by omega, H⟩
  case round =>
    clear H hm hn hn0
    obtain ⟨k, rfl, rfl, hk, hk50, H⟩ := hrel
    have hend : ∀ k', k' ≤ 50 → (burnD d0 (xs.take k')).Fine 60 ∧ (burnD d0 (xs.take k')).fuse = ((m - min k' xs.length : Nat) : Int) ∧ (burnD d0 (xs.take k')).sure.length = 9 := fun k' hk' => by
      have htk : ∀ y ∈ xs.take k', y.Ok := fun y hy => HX.out y (List.mem_of_mem_take hy)
      have h1 := burnD_fuse m (xs.take k') d0 HF.out.2.2 HF.out.2.1 htk
      rw [List.length_take] at h1
      refine ⟨(fold_fine (step := fun d x => (burnStep d x).1) burn_fine (xs.take k') d0 0 HF.out.1 htk).mono ?_, h1⟩
      rw [List.length_take]; omega
    by_cases hkn : k < xs.length ∧ k < 50
    · obtain ⟨hkn, hk5⟩ := hkn
      have hxo := HX.out xs[k] (List.getElem_mem hkn)
      obtain ⟨hfine, hfu, hlen⟩ := hend k (by omega)
      clear hend
      have hstep : burnD d0 (xs.take (k + 1)) = (burnStep (burnD d0 (xs.take k)) xs[k]).1 := fold_take_succ (step := fun d x => (burnStep d x).1) hkn d0
      obtain ⟨bb, off, cs, T, fr, rfl, hb, hcs⟩ := hr.cell hkn
      have HS := Lib.hid hstep
      clear hstep
      generalize burnD d0 (xs.take k) = d at *
      generalize xs[k] = x at *
      have hkd := hxo.kind.1
      have hxc := hxo.c.1
      have hcm : (IntKind.i64.wrap x.c).tmod 9 = x.c % 9 := by
        have h1 := hxo.c
        rw [IntKind.wrap_i64, show (x.c + 9223372036854775808) % 18446744073709551616 - 9223372036854775808 = x.c by omega, Int.tmod_eq_emod_of_nonneg h1.1]
      have HCM := Lib.hid hcm
      clear hcm
      have hk5i : ((k : Int) < 50) := by omega
      have hki : ((k : Int) < xs.length) := by omega
      have hv0 : cs[off + k * 5]? = some (.int .u8 x.kind) := by
        have := hcs 0 (by omega); rw [Nat.add_zero] at this; rw [this]; rfl
      have hall := fun {w : World} (h : (DiskA b bs bm d).says w) => all_any h hfine
      have hal : (allD d).length = 9 := by rw [allD_length, hlen]
      rw [hlen] at hall
      by_cases hkm : k < m
      · have hpos : 0 < d.fuse := by rw [hfu]; omega
        have hp := burn_pos hpos hlen hxo
        obtain ⟨dd, r, hres⟩ : ∃ dd r, burnStep d x = (dd, r) := ⟨_, _, rfl⟩
        have hfd := burn_fine hfine hxo
        rw [hres] at hp hfd HS
        dsimp only at hp hfd HS
        obtain ⟨rfl, _, hld⟩ := hp
        have hall2 := fun {w : World} (h : (DiskA b bs bm dd).says w) => all_any h hfd
        have hal2 : (allD dd).length = 9 := by rw [allD_length, hld]
        rw [hld] at hall2
        generalize allD d = al at *
        generalize allD dd = al2 at *
        have hmin : (min (k + 1) m : Nat) = min k m + 1 := by omega
        have hmk : ¬ ((m : Int) ≤ (k : Int)) := by omega
        have hmink : min k m = k := by omega
        clear hpos hfd hld hfu
        by_cases h0 : x.kind % 3 = 0
        · skip
          have hb0 : (x.kind % 3 == 0) = true := by simp [h0]
          have hflc := fun {w : World} (h : (DiskA b bs bm d).says w) => dflush h hfine
          have hst : burnStep d x = d.flushR := by unfold burnStep; rw [if_pos h0]
          rw [hst] at hres
          rw [hres] at hflc
          dsimp only at hflc
          clear hst hres h0 hr
          go_wp2_with (first | (go_at_call 26; refine (hall (H.get 0 rfl)).mono ?_; rintro e w ⟨v9, rfl, h1, h2⟩; obtain ⟨A9, c9, rfl⟩ := rowLen h1 hal; replace H := H.addOwn h2 h1; clear h1 h2) | (refine L_load1r rfl rfl H rfl hb (fun e => e) hv0 Try.isAgg5 ?_) | (go_at_call 24; refine (hflc (H.get 1 rfl)).mono ?_; rintro e w ⟨rfl, h1, h2⟩; replace H := H.disk 1 rfl h1 h2; clear h1 h2; simp only [List.set_cons_succ, List.set_cons_zero] at H) | (go_at_call 26; refine (hall2 (H.get 1 rfl)).mono ?_; rintro e w ⟨v11, rfl, h1, h2⟩; obtain ⟨A11, c11, rfl⟩ := rowLen h1 hal2; replace H := H.addOwn h2 h1; clear h1 h2))
          go_loopw [12] (fun vj wr2 => BurnRel0 b bs bm dd w0 vj wr2) (fun vj _ => 9 - (intOf vj).toNat)
          case atStart => exact ⟨0, rfl, by omega, (H.drop (List.sublist_cons_self _ _)).perm (.swap _ _ _) |>.drop (List.Sublist.cons_cons _ (List.nil_sublist _))⟩
          case round =>
            clear H
            obtain ⟨j, rfl, hj, H⟩ := hrel
            by_cases hj9 : j < 9
            · have hji : (j : Int) < 9 := by omega
              go_wp2_with fail
              go_roundw
              case rel => exact ⟨k + 1, by go_num, by rw [show (min (k + 1) m : Nat) = k + 1 by omega]; go_num, by omega, by omega, by rw [HS.out]; exact H⟩
              case measure => simp [intOf]; omega
            · obtain rfl : j = 9 := by omega
              go_wp2_with fail
              go_roundw
              case rel => exact ⟨k + 1, by go_num, by rw [show (min (k + 1) m : Nat) = k + 1 by omega]; go_num, by omega, by omega, by rw [HS.out]; exact H⟩
              case measure => simp [intOf]; omega

        · skip
          have hb0 : (x.kind % 3 == 0) = false := by simp [h0]
          have hst : burnStep d x = d.writeR (x.c % 9) (List.replicate 32 x.c) := by unfold burnStep; rw [if_neg h0]
          rw [hst] at hres
          obtain ⟨bytes, hbb⟩ : ∃ bytes, List.replicate 32 x.c = bytes := ⟨_, rfl⟩
          have hfull := full_row x.c bytes hbb
          have hbl : bytes.length = 32 := by rw [← hbb]; simp
          rw [hbb] at hres
          have hwr := fun {w : World} {v : Value} (h : (DiskA b bs bm d).says w) (hrd : RdS (encInt .u8) 1 w v bytes) (hap : ∀ j, v.ownBlock = some j → ¬ (DiskA b bs bm d).fp j) => dwrite h hfine (by omega) (x.c % 9) hrd hap
          rw [hres] at hwr
          dsimp only at hwr
          clear hst hres h0 hr hbb
          go_wp2_with (first | (go_at_call 26; refine (hall (H.get 0 rfl)).mono ?_; rintro e w ⟨v9, rfl, h1, h2⟩; obtain ⟨A9, c9, rfl⟩ := rowLen h1 hal; replace H := H.addOwn h2 h1; clear h1 h2) | (refine L_load1r rfl rfl H rfl hb (fun e => e) hv0 Try.isAgg5 ?_))
          have hv2 : cs[off + k * 5 + 2]? = some (.int .u8 x.c) := by rw [hcs 2 (by omega)]; rfl
          have H1 := H.drop (L' := []) (List.nil_sublist _)
          refine D_start H1 (by kernel_rfl) (fun hS => ?_)
          try simp only [Act.put, List.setIfInBounds_toArray, List.set_cons_succ, List.set_cons_zero]
          refine D_take 0 (v := ?_) rfl (by kernel_rfl) (by kernel_rfl) (by kernel_rfl) (fun _ _ _ h => h) rfl (by rfl) (fun W hS => ?_) hS ?_
          rotate_left; (focus (first | (go_simp; done) | (go_simp; with_reducible rfl) | (go_simp; rfl))); all_goals skip; (try simp only [List.set_cons_succ, List.set_cons_zero])
          refine D_take 1 (v := ?_) rfl (by kernel_rfl) (by kernel_rfl) (by kernel_rfl) (fun _ _ _ h => h) rfl (by rfl) (fun W hS => ?_) hS ?_
          rotate_left; (focus (first | (go_simp; done) | (go_simp; with_reducible rfl) | (go_simp; rfl))); all_goals skip; (try simp only [List.set_cons_succ, List.set_cons_zero])
          refine D_take 2 (v := ?_) rfl (by kernel_rfl) (by kernel_rfl) (by kernel_rfl) (fun _ _ _ h => h) rfl (by rfl) (fun W hS => ?_) hS ?_
          rotate_left; (focus (first | (go_simp; done) | (go_simp; with_reducible rfl) | (go_simp; rfl))); all_goals skip; (try simp only [List.set_cons_succ, List.set_cons_zero])
          refine D_take 3 (v := ?_) rfl (by kernel_rfl) (by kernel_rfl) (by kernel_rfl) (fun _ _ _ h => h) rfl (by rfl) (fun W hS => ?_) hS ?_
          rotate_left; (focus (first | (go_simp; done) | (go_simp; with_reducible rfl) | (go_simp; rfl))); all_goals skip; (try simp only [List.set_cons_succ, List.set_cons_zero])
          refine D_take 4 (v := ?_) rfl (by kernel_rfl) (by kernel_rfl) (by kernel_rfl) (fun _ _ _ h => h) rfl (by rfl) (fun W hS => ?_) hS ?_
          rotate_left; (focus (first | (go_simp; done) | (go_simp; with_reducible rfl) | (go_simp; rfl))); all_goals skip; (try simp only [List.set_cons_succ, List.set_cons_zero])
          refine D_take 5 (v := (.int .u8 x.c)) rfl (by kernel_rfl) (by kernel_rfl) (by kernel_rfl) (fun _ _ _ h => h) rfl (by rfl) (fun W hS => R_load1r (ty := 5) (x := .tmp 45) (off := off + k * 5 + 2) rfl hS rfl hb (fun e => e) hv2 Try.isAgg5) hS ?_; (try simp only [List.set_cons_succ, List.set_cons_zero])
          refine D_take 6 (v := ?_) rfl (by kernel_rfl) (by kernel_rfl) (by kernel_rfl) (fun _ _ _ h => h) rfl (by rfl) (fun W hS => ?_) hS ?_
          rotate_left; (focus (first | (go_simp; done) | (go_simp; with_reducible rfl) | (go_simp; rfl))); all_goals skip; (try simp only [List.set_cons_succ, List.set_cons_zero])
          refine D_take 7 (v := ?_) rfl (by kernel_rfl) (by kernel_rfl) (by kernel_rfl) (fun _ _ _ h => h) rfl (by rfl) (fun W hS => ?_) hS ?_
          rotate_left; (focus (first | (go_simp; done) | (go_simp; with_reducible rfl) | (go_simp; rfl))); all_goals skip; (try simp only [List.set_cons_succ, List.set_cons_zero])
          refine D_take 8 (v := ?_) rfl (by kernel_rfl) (by kernel_rfl) (by kernel_rfl) (fun _ _ _ h => h) rfl (by rfl) (fun W hS => ?_) hS ?_
          rotate_left; (focus (first | (go_simp; done) | (go_simp; with_reducible rfl) | (go_simp; rfl))); all_goals skip; (try simp only [List.set_cons_succ, List.set_cons_zero])
          refine D_take 9 (v := ?_) rfl (by kernel_rfl) (by kernel_rfl) (by kernel_rfl) (fun _ _ _ h => h) rfl (by rfl) (fun W hS => ?_) hS ?_
          rotate_left; (focus (first | (go_simp; done) | (go_simp; with_reducible rfl) | (go_simp; rfl))); all_goals skip; (try simp only [List.set_cons_succ, List.set_cons_zero])
          refine D_take 10 (v := ?_) rfl (by kernel_rfl) (by kernel_rfl) (by kernel_rfl) (fun _ _ _ h => h) rfl (by rfl) (fun W hS => ?_) hS ?_
          rotate_left; (focus (first | (go_simp; done) | (go_simp; with_reducible rfl) | (go_simp; rfl))); all_goals skip; (try simp only [List.set_cons_succ, List.set_cons_zero])
          refine D_take 11 (v := ?_) rfl (by kernel_rfl) (by kernel_rfl) (by kernel_rfl) (fun _ _ _ h => h) rfl (by rfl) (fun W hS => ?_) hS ?_
          rotate_left; (focus (first | (go_simp; done) | (go_simp; with_reducible rfl) | (go_simp; rfl))); all_goals skip; (try simp only [List.set_cons_succ, List.set_cons_zero])
          refine D_take 12 (v := (.int .u8 x.c)) rfl (by kernel_rfl) (by kernel_rfl) (by kernel_rfl) (fun _ _ _ h => h) rfl (by rfl) (fun W hS => R_load1r (ty := 5) (x := .tmp 52) (off := off + k * 5 + 2) rfl hS rfl hb (fun e => e) hv2 Try.isAgg5) hS ?_; (try simp only [List.set_cons_succ, List.set_cons_zero])
          refine D_one 13 rfl (by kernel_rfl) (by rfl) ?_
          refine R_call (f := 32) (args := #[.int .u8 x.c]) (by first | (go_simp; done) | (go_simp; rfl)) (hfull _) ?_
          clear hS
          rintro e w ⟨g2, rfl, h⟩
          have HW := H.drew.cat h
          simp only [List.cons_append, List.nil_append] at HW
          have hS := HW.drop (L' := []) (List.nil_sublist _)
          refine ⟨_, rfl, hS, ?_⟩
          try simp only [Act.put, List.getElem_toArray, List.getElem_cons_succ, List.getElem_cons_zero, List.setIfInBounds_toArray, List.set_cons_succ, List.set_cons_zero]
          refine D_one 14 rfl (by kernel_rfl) (by rfl) ?_
          refine R_call (f := 27) (args := #[.pointer (some ⟨b, 0, none⟩), .int .i64 (x.c % 9), .slice (some ⟨g2, 0, none⟩) 32 32]) (by first | (go_simp; done) | (go_simp; rfl) | (go_simp; exact HCM.out)) (hwr (HW.get 2 rfl) (by have := bytesRd (HW.at_ 0 rfl); rwa [hbl] at this) (ownSep HW 0 2 (by omega) rfl rfl)) ?_
          clear hS
          rintro e w ⟨rfl, h1, h2⟩
          replace HW := (HW.disk 2 rfl h1 h2).drop (List.sublist_cons_self _ _)
          have hS := HW.drop (L' := []) (List.nil_sublist _)
          refine ⟨_, rfl, hS, ?_⟩
          try simp only [Act.put, List.getElem_toArray, List.getElem_cons_succ, List.getElem_cons_zero, List.setIfInBounds_toArray, List.set_cons_succ, List.set_cons_zero]
          refine D_take 15 (v := ?_) rfl (by kernel_rfl) (by kernel_rfl) (by kernel_rfl) (fun _ _ _ h => h) rfl (by rfl) (fun W hS => ?_) hS ?_
          rotate_left; (focus (first | (go_simp; done) | (go_simp; with_reducible rfl) | (go_simp; rfl))); all_goals skip; (try simp only [List.set_cons_succ, List.set_cons_zero])
          refine wpAnyH_done (by kernel_rfl) ?_ _
          clear H H1 hS h h1 h2
          have H := HW
          clear HW
          go_wp2_with (first | (go_at_call 26; refine (hall2 (H.get 1 rfl)).mono ?_; rintro e w ⟨v11, rfl, h1, h2⟩; obtain ⟨A11, c11, rfl⟩ := rowLen h1 hal2; replace H := H.addOwn h2 h1; clear h1 h2))
          go_loopw [12] (fun vj wr2 => BurnRel0 b bs bm dd w0 vj wr2) (fun vj _ => 9 - (intOf vj).toNat)
          case atStart => exact ⟨0, rfl, by omega, (H.drop (List.sublist_cons_self _ _)).perm (.swap _ _ _) |>.drop (List.Sublist.cons_cons _ (List.nil_sublist _))⟩
          case round =>
            clear H
            obtain ⟨j, rfl, hj, H⟩ := hrel
            by_cases hj9 : j < 9
            · have hji : (j : Int) < 9 := by omega
              go_wp2_with fail
              go_roundw
              case rel => exact ⟨k + 1, by go_num, by rw [show (min (k + 1) m : Nat) = k + 1 by omega]; go_num, by omega, by omega, by rw [HS.out]; exact H⟩
              case measure => simp [intOf]; omega
            · obtain rfl : j = 9 := by omega
              go_wp2_with fail
              go_roundw
              case rel => exact ⟨k + 1, by go_num, by rw [show (min (k + 1) m : Nat) = k + 1 by omega]; go_num, by omega, by omega, by rw [HS.out]; exact H⟩
              case measure => simp [intOf]; omega

      · have hzero : d.fuse = 0 := by rw [hfu]; omega
        have hres := burn_zero hzero hlen hxo
        rw [hres] at HS
        dsimp only at HS
        have hall2 := fun {w : World} (h : (DiskA b bs bm d).says w) => all_any h hfine
        rw [hlen] at hall2
        have hal2 := hal
        generalize allD d = al at *
        have hmin : (min (k + 1) m : Nat) = min k m := by omega
        have hmk : (m : Int) ≤ (k : Int) := by omega
        clear hzero hfu
        by_cases h0 : x.kind % 3 = 0
        · skip
          have hb0 : (x.kind % 3 == 0) = true := by simp [h0]
          have hflc := fun {w : World} (h : (DiskA b bs bm d).says w) => dflush h hfine
          have hst : burnStep d x = d.flushR := by unfold burnStep; rw [if_pos h0]
          rw [hst] at hres
          rw [hres] at hflc
          dsimp only at hflc
          clear hst hres h0 hr
          go_wp2_with (first | (go_at_call 26; refine (hall (H.get 0 rfl)).mono ?_; rintro e w ⟨v9, rfl, h1, h2⟩; obtain ⟨A9, c9, rfl⟩ := rowLen h1 hal; replace H := H.addOwn h2 h1; clear h1 h2) | (refine L_load1r rfl rfl H rfl hb (fun e => e) hv0 Try.isAgg5 ?_) | (go_at_call 24; refine (hflc (H.get 1 rfl)).mono ?_; rintro e w ⟨rfl, h1, h2⟩; replace H := H.disk 1 rfl h1 h2; clear h1 h2; simp only [List.set_cons_succ, List.set_cons_zero] at H) | (go_at_call 26; refine (hall2 (H.get 1 rfl)).mono ?_; rintro e w ⟨v11, rfl, h1, h2⟩; obtain ⟨A11, c11, rfl⟩ := rowLen h1 hal2; replace H := H.addOwn h2 h1; clear h1 h2))
          go_loopw [12] (fun vj wr2 => BurnRel3 b bs bm d A9 c9 A11 c11 al w0 vj wr2) (fun vj _ => 9 - (intOf vj).toNat)
          case atStart => exact ⟨0, rfl, by omega, H⟩
          case round =>
            clear H
            obtain ⟨j, rfl, hj, H⟩ := hrel
            by_cases hj9 : j < 9
            · have hji : (j : Int) < 9 := by omega
              have hja : j < al.length := by rw [hal]; exact hj9
              obtain ⟨b9, o9, _, _, _, rfl, _, _⟩ := (rdAll hal.symm (H.get 1 rfl)).cell hja
              obtain ⟨b11, o11, _, _, _, rfl, _, _⟩ := (rdAll hal.symm (H.get 0 rfl)).cell hja
              obtain ⟨s1, hv1⟩ : ∃ s1, encS al[j] = [.string s1] := ⟨_, rfl⟩
              go_wp2_with fail
              refine D_start H (by kernel_rfl) (fun hS => ?_)
              try simp only [Act.put, List.setIfInBounds_toArray, List.set_cons_succ, List.set_cons_zero]
              refine D_take 0 (v := ?_) rfl (by kernel_rfl) (by kernel_rfl) (by kernel_rfl) (fun _ _ _ h => h) rfl (by rfl) (fun W hS => ?_) hS ?_
              rotate_left; (focus (first | (go_simp; done) | (go_simp; with_reducible rfl) | (go_simp; rfl))); all_goals skip; (try simp only [List.set_cons_succ, List.set_cons_zero])
              refine D_take 1 (v := ?_) rfl (by kernel_rfl) (by kernel_rfl) (by kernel_rfl) (fun _ _ _ h => h) rfl (by rfl) (fun W hS => ?_) hS ?_
              rotate_left; (focus (first | (go_simp; done) | (go_simp; with_reducible rfl) | (go_simp; rfl))); all_goals skip; (try simp only [List.set_cons_succ, List.set_cons_zero])
              refine D_take 2 (v := ?_) rfl (by kernel_rfl) (by kernel_rfl) (by kernel_rfl) (fun _ _ _ h => h) rfl (by rfl) (fun W hS => ?_) hS ?_
              rotate_left; (focus (first | (go_simp; done) | (go_simp; with_reducible rfl) | (go_simp; rfl))); all_goals skip; (try simp only [List.set_cons_succ, List.set_cons_zero])
              refine D_take 3 (v := (.string s1)) rfl (by kernel_rfl) (by kernel_rfl) (by kernel_rfl) (fun _ _ _ h => h) rfl (by rfl) (fun W hS => R_loadRd (ty := 9) (x := .tmp 80) rfl (rdAll hal.symm (hS.get 0 rfl)) hja rfl hv1 Try.isAgg9) hS ?_; (try simp only [List.set_cons_succ, List.set_cons_zero])
              refine D_take 4 (v := ?_) rfl (by kernel_rfl) (by kernel_rfl) (by kernel_rfl) (fun _ _ _ h => h) rfl (by rfl) (fun W hS => ?_) hS ?_
              rotate_left; (focus (first | (go_simp; done) | (go_simp; with_reducible rfl) | (go_simp; rfl))); all_goals skip; (try simp only [List.set_cons_succ, List.set_cons_zero])
              refine D_take 5 (v := ?_) rfl (by kernel_rfl) (by kernel_rfl) (by kernel_rfl) (fun _ _ _ h => h) rfl (by rfl) (fun W hS => ?_) hS ?_
              rotate_left; (focus (first | (go_simp; done) | (go_simp; with_reducible rfl) | (go_simp; rfl))); all_goals skip; (try simp only [List.set_cons_succ, List.set_cons_zero])
              refine D_take 6 (v := ?_) rfl (by kernel_rfl) (by kernel_rfl) (by kernel_rfl) (fun _ _ _ h => h) rfl (by rfl) (fun W hS => ?_) hS ?_
              rotate_left; (focus (first | (go_simp; done) | (go_simp; with_reducible rfl) | (go_simp; rfl))); all_goals skip; (try simp only [List.set_cons_succ, List.set_cons_zero])
              refine D_take 7 (v := (.string s1)) rfl (by kernel_rfl) (by kernel_rfl) (by kernel_rfl) (fun _ _ _ h => h) rfl (by rfl) (fun W hS => R_loadRd (ty := 9) (x := .tmp 84) rfl (rdAll hal.symm (hS.get 1 rfl)) hja rfl hv1 Try.isAgg9) hS ?_; (try simp only [List.set_cons_succ, List.set_cons_zero])
              refine D_take 8 (v := (.bool false)) rfl (by kernel_rfl) (by kernel_rfl) (by kernel_rfl) (fun _ _ _ h => h) rfl (by rfl) (fun W hS => by first | (go_simp; done) | (go_simp; rfl)) hS ?_; (try simp only [List.set_cons_succ, List.set_cons_zero])
              refine wpAnyH_done (by kernel_rfl) ?_ _
              replace H := H.drew
              go_wp2_with fail
              go_roundw
              case rel => exact ⟨j + 1, by go_num, by omega, H⟩
              case measure => simp [intOf]; omega
            · obtain rfl : j = 9 := by omega
              go_wp2_with fail
              go_roundw
              case rel => exact ⟨k + 1, by go_num, by rw [hmin], by omega, by omega, by rw [HS.out]; exact (H.drop (List.sublist_cons_self _ _)).drop (List.sublist_cons_self _ _)⟩
              case measure => simp [intOf]; omega

        · skip
          have hb0 : (x.kind % 3 == 0) = false := by simp [h0]
          have hst : burnStep d x = d.writeR (x.c % 9) (List.replicate 32 x.c) := by unfold burnStep; rw [if_neg h0]
          rw [hst] at hres
          obtain ⟨bytes, hbb⟩ : ∃ bytes, List.replicate 32 x.c = bytes := ⟨_, rfl⟩
          have hfull := full_row x.c bytes hbb
          have hbl : bytes.length = 32 := by rw [← hbb]; simp
          rw [hbb] at hres
          have hwr := fun {w : World} {v : Value} (h : (DiskA b bs bm d).says w) (hrd : RdS (encInt .u8) 1 w v bytes) (hap : ∀ j, v.ownBlock = some j → ¬ (DiskA b bs bm d).fp j) => dwrite h hfine (by omega) (x.c % 9) hrd hap
          rw [hres] at hwr
          dsimp only at hwr
          clear hst hres h0 hr hbb
          go_wp2_with (first | (go_at_call 26; refine (hall (H.get 0 rfl)).mono ?_; rintro e w ⟨v9, rfl, h1, h2⟩; obtain ⟨A9, c9, rfl⟩ := rowLen h1 hal; replace H := H.addOwn h2 h1; clear h1 h2) | (refine L_load1r rfl rfl H rfl hb (fun e => e) hv0 Try.isAgg5 ?_))
          have hv2 : cs[off + k * 5 + 2]? = some (.int .u8 x.c) := by rw [hcs 2 (by omega)]; rfl
          have H1 := H.drop (L' := []) (List.nil_sublist _)
          refine D_start H1 (by kernel_rfl) (fun hS => ?_)
          try simp only [Act.put, List.setIfInBounds_toArray, List.set_cons_succ, List.set_cons_zero]
          refine D_take 0 (v := ?_) rfl (by kernel_rfl) (by kernel_rfl) (by kernel_rfl) (fun _ _ _ h => h) rfl (by rfl) (fun W hS => ?_) hS ?_
          rotate_left; (focus (first | (go_simp; done) | (go_simp; with_reducible rfl) | (go_simp; rfl))); all_goals skip; (try simp only [List.set_cons_succ, List.set_cons_zero])
          refine D_take 1 (v := ?_) rfl (by kernel_rfl) (by kernel_rfl) (by kernel_rfl) (fun _ _ _ h => h) rfl (by rfl) (fun W hS => ?_) hS ?_
          rotate_left; (focus (first | (go_simp; done) | (go_simp; with_reducible rfl) | (go_simp; rfl))); all_goals skip; (try simp only [List.set_cons_succ, List.set_cons_zero])
          refine D_take 2 (v := ?_) rfl (by kernel_rfl) (by kernel_rfl) (by kernel_rfl) (fun _ _ _ h => h) rfl (by rfl) (fun W hS => ?_) hS ?_
          rotate_left; (focus (first | (go_simp; done) | (go_simp; with_reducible rfl) | (go_simp; rfl))); all_goals skip; (try simp only [List.set_cons_succ, List.set_cons_zero])
          refine D_take 3 (v := ?_) rfl (by kernel_rfl) (by kernel_rfl) (by kernel_rfl) (fun _ _ _ h => h) rfl (by rfl) (fun W hS => ?_) hS ?_
          rotate_left; (focus (first | (go_simp; done) | (go_simp; with_reducible rfl) | (go_simp; rfl))); all_goals skip; (try simp only [List.set_cons_succ, List.set_cons_zero])
          refine D_take 4 (v := ?_) rfl (by kernel_rfl) (by kernel_rfl) (by kernel_rfl) (fun _ _ _ h => h) rfl (by rfl) (fun W hS => ?_) hS ?_
          rotate_left; (focus (first | (go_simp; done) | (go_simp; with_reducible rfl) | (go_simp; rfl))); all_goals skip; (try simp only [List.set_cons_succ, List.set_cons_zero])
          refine D_take 5 (v := (.int .u8 x.c)) rfl (by kernel_rfl) (by kernel_rfl) (by kernel_rfl) (fun _ _ _ h => h) rfl (by rfl) (fun W hS => R_load1r (ty := 5) (x := .tmp 45) (off := off + k * 5 + 2) rfl hS rfl hb (fun e => e) hv2 Try.isAgg5) hS ?_; (try simp only [List.set_cons_succ, List.set_cons_zero])
          refine D_take 6 (v := ?_) rfl (by kernel_rfl) (by kernel_rfl) (by kernel_rfl) (fun _ _ _ h => h) rfl (by rfl) (fun W hS => ?_) hS ?_
          rotate_left; (focus (first | (go_simp; done) | (go_simp; with_reducible rfl) | (go_simp; rfl))); all_goals skip; (try simp only [List.set_cons_succ, List.set_cons_zero])
          refine D_take 7 (v := ?_) rfl (by kernel_rfl) (by kernel_rfl) (by kernel_rfl) (fun _ _ _ h => h) rfl (by rfl) (fun W hS => ?_) hS ?_
          rotate_left; (focus (first | (go_simp; done) | (go_simp; with_reducible rfl) | (go_simp; rfl))); all_goals skip; (try simp only [List.set_cons_succ, List.set_cons_zero])
          refine D_take 8 (v := ?_) rfl (by kernel_rfl) (by kernel_rfl) (by kernel_rfl) (fun _ _ _ h => h) rfl (by rfl) (fun W hS => ?_) hS ?_
          rotate_left; (focus (first | (go_simp; done) | (go_simp; with_reducible rfl) | (go_simp; rfl))); all_goals skip; (try simp only [List.set_cons_succ, List.set_cons_zero])
          refine D_take 9 (v := ?_) rfl (by kernel_rfl) (by kernel_rfl) (by kernel_rfl) (fun _ _ _ h => h) rfl (by rfl) (fun W hS => ?_) hS ?_
          rotate_left; (focus (first | (go_simp; done) | (go_simp; with_reducible rfl) | (go_simp; rfl))); all_goals skip; (try simp only [List.set_cons_succ, List.set_cons_zero])
          refine D_take 10 (v := ?_) rfl (by kernel_rfl) (by kernel_rfl) (by kernel_rfl) (fun _ _ _ h => h) rfl (by rfl) (fun W hS => ?_) hS ?_
          rotate_left; (focus (first | (go_simp; done) | (go_simp; with_reducible rfl) | (go_simp; rfl))); all_goals skip; (try simp only [List.set_cons_succ, List.set_cons_zero])
          refine D_take 11 (v := ?_) rfl (by kernel_rfl) (by kernel_rfl) (by kernel_rfl) (fun _ _ _ h => h) rfl (by rfl) (fun W hS => ?_) hS ?_
          rotate_left; (focus (first | (go_simp; done) | (go_simp; with_reducible rfl) | (go_simp; rfl))); all_goals skip; (try simp only [List.set_cons_succ, List.set_cons_zero])
          refine D_take 12 (v := (.int .u8 x.c)) rfl (by kernel_rfl) (by kernel_rfl) (by kernel_rfl) (fun _ _ _ h => h) rfl (by rfl) (fun W hS => R_load1r (ty := 5) (x := .tmp 52) (off := off + k * 5 + 2) rfl hS rfl hb (fun e => e) hv2 Try.isAgg5) hS ?_; (try simp only [List.set_cons_succ, List.set_cons_zero])
          refine D_one 13 rfl (by kernel_rfl) (by rfl) ?_
          refine R_call (f := 32) (args := #[.int .u8 x.c]) (by first | (go_simp; done) | (go_simp; rfl)) (hfull _) ?_
          clear hS
          rintro e w ⟨g2, rfl, h⟩
          have HW := H.drew.cat h
          simp only [List.cons_append, List.nil_append] at HW
          have hS := HW.drop (L' := []) (List.nil_sublist _)
          refine ⟨_, rfl, hS, ?_⟩
          try simp only [Act.put, List.getElem_toArray, List.getElem_cons_succ, List.getElem_cons_zero, List.setIfInBounds_toArray, List.set_cons_succ, List.set_cons_zero]
          refine D_one 14 rfl (by kernel_rfl) (by rfl) ?_
          refine R_call (f := 27) (args := #[.pointer (some ⟨b, 0, none⟩), .int .i64 (x.c % 9), .slice (some ⟨g2, 0, none⟩) 32 32]) (by first | (go_simp; done) | (go_simp; rfl) | (go_simp; exact HCM.out)) (hwr (HW.get 2 rfl) (by have := bytesRd (HW.at_ 0 rfl); rwa [hbl] at this) (ownSep HW 0 2 (by omega) rfl rfl)) ?_
          clear hS
          rintro e w ⟨rfl, h1, h2⟩
          replace HW := (HW.disk 2 rfl h1 h2).drop (List.sublist_cons_self _ _)
          have hS := HW.drop (L' := []) (List.nil_sublist _)
          refine ⟨_, rfl, hS, ?_⟩
          try simp only [Act.put, List.getElem_toArray, List.getElem_cons_succ, List.getElem_cons_zero, List.setIfInBounds_toArray, List.set_cons_succ, List.set_cons_zero]
          refine D_take 15 (v := ?_) rfl (by kernel_rfl) (by kernel_rfl) (by kernel_rfl) (fun _ _ _ h => h) rfl (by rfl) (fun W hS => ?_) hS ?_
          rotate_left; (focus (first | (go_simp; done) | (go_simp; with_reducible rfl) | (go_simp; rfl))); all_goals skip; (try simp only [List.set_cons_succ, List.set_cons_zero])
          refine wpAnyH_done (by kernel_rfl) ?_ _
          clear H H1 hS h h1 h2
          have H := HW
          clear HW
          go_wp2_with (first | (go_at_call 26; refine (hall2 (H.get 1 rfl)).mono ?_; rintro e w ⟨v11, rfl, h1, h2⟩; obtain ⟨A11, c11, rfl⟩ := rowLen h1 hal2; replace H := H.addOwn h2 h1; clear h1 h2))
          go_loopw [12] (fun vj wr2 => BurnRel3 b bs bm d A9 c9 A11 c11 al w0 vj wr2) (fun vj _ => 9 - (intOf vj).toNat)
          case atStart => exact ⟨0, rfl, by omega, H⟩
          case round =>
            clear H
            obtain ⟨j, rfl, hj, H⟩ := hrel
            by_cases hj9 : j < 9
            · have hji : (j : Int) < 9 := by omega
              have hja : j < al.length := by rw [hal]; exact hj9
              obtain ⟨b9, o9, _, _, _, rfl, _, _⟩ := (rdAll hal.symm (H.get 1 rfl)).cell hja
              obtain ⟨b11, o11, _, _, _, rfl, _, _⟩ := (rdAll hal.symm (H.get 0 rfl)).cell hja
              obtain ⟨s1, hv1⟩ : ∃ s1, encS al[j] = [.string s1] := ⟨_, rfl⟩
              go_wp2_with fail
              refine D_start H (by kernel_rfl) (fun hS => ?_)
              try simp only [Act.put, List.setIfInBounds_toArray, List.set_cons_succ, List.set_cons_zero]
              refine D_take 0 (v := ?_) rfl (by kernel_rfl) (by kernel_rfl) (by kernel_rfl) (fun _ _ _ h => h) rfl (by rfl) (fun W hS => ?_) hS ?_
              rotate_left; (focus (first | (go_simp; done) | (go_simp; with_reducible rfl) | (go_simp; rfl))); all_goals skip; (try simp only [List.set_cons_succ, List.set_cons_zero])
              refine D_take 1 (v := ?_) rfl (by kernel_rfl) (by kernel_rfl) (by kernel_rfl) (fun _ _ _ h => h) rfl (by rfl) (fun W hS => ?_) hS ?_
              rotate_left; (focus (first | (go_simp; done) | (go_simp; with_reducible rfl) | (go_simp; rfl))); all_goals skip; (try simp only [List.set_cons_succ, List.set_cons_zero])
              refine D_take 2 (v := ?_) rfl (by kernel_rfl) (by kernel_rfl) (by kernel_rfl) (fun _ _ _ h => h) rfl (by rfl) (fun W hS => ?_) hS ?_
              rotate_left; (focus (first | (go_simp; done) | (go_simp; with_reducible rfl) | (go_simp; rfl))); all_goals skip; (try simp only [List.set_cons_succ, List.set_cons_zero])
              refine D_take 3 (v := (.string s1)) rfl (by kernel_rfl) (by kernel_rfl) (by kernel_rfl) (fun _ _ _ h => h) rfl (by rfl) (fun W hS => R_loadRd (ty := 9) (x := .tmp 80) rfl (rdAll hal.symm (hS.get 0 rfl)) hja rfl hv1 Try.isAgg9) hS ?_; (try simp only [List.set_cons_succ, List.set_cons_zero])
              refine D_take 4 (v := ?_) rfl (by kernel_rfl) (by kernel_rfl) (by kernel_rfl) (fun _ _ _ h => h) rfl (by rfl) (fun W hS => ?_) hS ?_
              rotate_left; (focus (first | (go_simp; done) | (go_simp; with_reducible rfl) | (go_simp; rfl))); all_goals skip; (try simp only [List.set_cons_succ, List.set_cons_zero])
              refine D_take 5 (v := ?_) rfl (by kernel_rfl) (by kernel_rfl) (by kernel_rfl) (fun _ _ _ h => h) rfl (by rfl) (fun W hS => ?_) hS ?_
              rotate_left; (focus (first | (go_simp; done) | (go_simp; with_reducible rfl) | (go_simp; rfl))); all_goals skip; (try simp only [List.set_cons_succ, List.set_cons_zero])
              refine D_take 6 (v := ?_) rfl (by kernel_rfl) (by kernel_rfl) (by kernel_rfl) (fun _ _ _ h => h) rfl (by rfl) (fun W hS => ?_) hS ?_
              rotate_left; (focus (first | (go_simp; done) | (go_simp; with_reducible rfl) | (go_simp; rfl))); all_goals skip; (try simp only [List.set_cons_succ, List.set_cons_zero])
              refine D_take 7 (v := (.string s1)) rfl (by kernel_rfl) (by kernel_rfl) (by kernel_rfl) (fun _ _ _ h => h) rfl (by rfl) (fun W hS => R_loadRd (ty := 9) (x := .tmp 84) rfl (rdAll hal.symm (hS.get 1 rfl)) hja rfl hv1 Try.isAgg9) hS ?_; (try simp only [List.set_cons_succ, List.set_cons_zero])
              refine D_take 8 (v := (.bool false)) rfl (by kernel_rfl) (by kernel_rfl) (by kernel_rfl) (fun _ _ _ h => h) rfl (by rfl) (fun W hS => by first | (go_simp; done) | (go_simp; rfl)) hS ?_; (try simp only [List.set_cons_succ, List.set_cons_zero])
              refine wpAnyH_done (by kernel_rfl) ?_ _
              replace H := H.drew
              go_wp2_with fail
              go_roundw
              case rel => exact ⟨j + 1, by go_num, by omega, H⟩
              case measure => simp [intOf]; omega
            · obtain rfl : j = 9 := by omega
              go_wp2_with fail
              go_roundw
              case rel => exact ⟨k + 1, by go_num, by rw [hmin], by omega, by omega, by rw [HS.out]; exact (H.drop (List.sublist_cons_self _ _)).drop (List.sublist_cons_self _ _)⟩
              case measure => simp [intOf]; omega

    · have hkk : burnD d0 (xs.take k) = burnD d0 (xs.take k) := rfl
      clear hkk
      obtain ⟨hfine, _, hlen⟩ := hend k hk50
      clear hend
      generalize burnD d0 (xs.take k) = d at *
      have hcr := fun {w : World} (h : (DiskA b bs bm d).says w) => crash_on b bs bm d 0 0 0 w h hfine.good
      have hfc := hfine.crash 0 0 0
      have hoc := DS.Open.crash hlen 0 0 0
      generalize d.crash 0 0 0 = dc at *
      obtain ⟨hf1, hb1l⟩ := HB.out
      have hwr := fun {w : World} {v : Value} (h : (DiskA b bs bm dc).says w) (hrd : RdS (encInt .u8) 1 w v b1) (hap : ∀ j, v.ownBlock = some j → ¬ (DiskA b bs bm dc).fp j) => dwrite h hfc (by omega) 0 hrd hap
      have hw0 := DS.writeR_on (i := 0) (xs := b1) (DS.has_of (i := 0) hoc.2 (by omega)) hb1l hoc.ne
      have hfw := hfc.write (i := 0) (xs := b1) (DS.has_of (i := 0) hoc.2 (by omega)) hb1l (by rw [← HX2.out]; exact rep_bytes 32 1 (by omega))
      have how := hoc.write 0 b1
      rw [hw0] at how
      simp only [hw0] at hwr
      dsimp only at how
      generalize dc.write 0 b1 = dw at *
      have hfl := fun {w : World} (h : (DiskA b bs bm dw).says w) => dflush h hfw
      simp only [DS.flushR_on how.ne] at hfl
      have hle : ((min k m : Nat) : Int) ≤ (m : Int) := by omega
      have hge : ¬ ((m : Int) < ((min k m : Nat) : Int)) := by omega
      generalize hmk : (min k m : Nat) = mk at *
      clear hfine hlen hfc hoc hw0 hfw how hmk
      have hkc : (k = xs.length) ∨ (k = 50) := by omega
      have HL := Lib.hid hb1l
      clear hb1l
      rcases hkc with rfl | rfl
      · go_wp2_with (first
          | (go_at_call 29; refine (hcr (H.get 0 rfl)).mono ?_; rintro e w ⟨rfl, h1, h2⟩; replace H := H.disk 0 rfl h1 h2; clear h1 h2; simp only [List.set_cons_zero] at H)
          | (go_at_call 30; refine (awake_any _).mono ?_; rintro e w ⟨rfl, h⟩; replace H := H.calls h; clear h)
          | (go_at_call 32; refine (hf1 _).mono ?_; rintro e w ⟨g, rfl, h⟩; replace H := H.cat h; clear h; simp only [List.cons_append, List.nil_append] at H)
          | (go_at_call 27; refine (hwr (H.get 1 rfl) (by have := bytesRd (H.at_ 0 rfl); rwa [HL.out] at this) (ownSep H 0 1 (by omega) rfl rfl)).mono ?_; rintro e w ⟨rfl, h1, h2⟩; replace H := H.disk 1 rfl h1 h2; clear h1 h2; simp only [List.set_cons_succ, List.set_cons_zero] at H)
          | (go_at_call 24; refine (hfl (H.get 1 rfl)).mono ?_; rintro e w ⟨rfl, h1, h2⟩; replace H := H.disk 1 rfl h1 h2; clear h1 h2))
        all_goals (go_ret; exact ⟨rfl, H.ext⟩)
      · go_wp2_with (first
          | (go_at_call 29; refine (hcr (H.get 0 rfl)).mono ?_; rintro e w ⟨rfl, h1, h2⟩; replace H := H.disk 0 rfl h1 h2; clear h1 h2; simp only [List.set_cons_zero] at H)
          | (go_at_call 30; refine (awake_any _).mono ?_; rintro e w ⟨rfl, h⟩; replace H := H.calls h; clear h)
          | (go_at_call 32; refine (hf1 _).mono ?_; rintro e w ⟨g, rfl, h⟩; replace H := H.cat h; clear h; simp only [List.cons_append, List.nil_append] at H)
          | (go_at_call 27; refine (hwr (H.get 1 rfl) (by have := bytesRd (H.at_ 0 rfl); rwa [HL.out] at this) (ownSep H 0 1 (by omega) rfl rfl)).mono ?_; rintro e w ⟨rfl, h1, h2⟩; replace H := H.disk 1 rfl h1 h2; clear h1 h2; simp only [List.set_cons_succ, List.set_cons_zero] at H)
          | (go_at_call 24; refine (hfl (H.get 1 rfl)).mono ?_; rintro e w ⟨rfl, h1, h2⟩; replace H := H.disk 1 rfl h1 h2; clear h1 h2))
        all_goals (go_ret; exact ⟨rfl, H.ext⟩)

theorem burns_row (w : World) (a : Int) (ha : (Lit.int .u8 a).wf = true) (v : Value) (h1 : ∃ xs : List Deed, RdS Deed.cells 5 w v xs ∧ ∀ x ∈ xs, x.Ok) : Calls Try.prog 10 #[.int .u8 a, v] w fun e w' => e = .returned (.bool true) ∧ Below w.heap.size w w' := by
  obtain ⟨xs, hr, hx⟩ := h1
  exact (burns_walk a v xs w (wf_bounds ha) hr hx).mono fun _ _ h => ⟨h.1, h.2.below⟩
section
open Go.ChangeShapes Go.WideShapes Go.ChangeAt Go.RowKit
open Go.ChangeMaps (open_string shut_string)
theorem diskBurns_own : ownKnob Try.prog.godebug = none := by kernel_rfl
theorem diskBurns_laidOut : laidOutB Try.prog = true := by kernel_rfl
set_option maxRecDepth 100000 in
theorem diskBurns_lifted (os : Os) (started : os.Started) (H : Type) (enc : TypeId × Value → H) :
    ReturnsInHanded {} Try.checked os 10 .any (Rows.diskBurnsSpec.pre6 enc Try.prog Try.f10 Rows.diskBurnsRow.domain false) (Rows.diskBurnsSpec.post enc Try.prog Try.f10 false true false false) := by
  refine returnsInHanded_of_change (C := Try.checked) diskBurns_own started (by kernel_rfl) Try.func10
    (ChangeSpec.witness6 (enc := enc) (C := Try.checked) false ⟨#[], #[.int .u8 0, .slice none 0 0], []⟩ 8 (by kernel_rfl) (by kernel_rfl) (by kernel_rfl) (by kernel_rfl)) ?_
  intro W base args ds gs before hval0 hW hcnd _
  have hval : ∀ (j : Nat) t v, Try.f10.params[j]? = some t → args[j]? = some v → Value.okWide Try.prog W .any base t v := hval0
  have hW' := hW
  obtain ⟨p, q, hA0, hV, rfl, hfz, hnd⟩ := hW
  have hA : DataW.TrodAll enc Try.prog W 0 (fun _ => true) true Try.f10.params.toList args.toList ds p := hA0
  rw [Try.params10] at hA hval
  obtain ⟨v0, vs0, d0, ds0, p0, q0, hargs, rfl, rfl, h0, r0⟩ := trodAll_cons hA
  obtain ⟨v1, vs1, d1, ds1, p1, q1, rfl, rfl, rfl, h1, r1⟩ := trodAll_cons r0
  obtain ⟨rfl, rfl, rfl⟩ := trodAll_nil r1
  obtain rfl : args = #[v0, v1] := by cases args; simp_all
  obtain ⟨rfl, rfl⟩ := trodVars_none hV
  obtain ⟨a0, rfl, rfl, rfl, w0⟩ := open_int Try.underlying5 (hval 0 5 v0 rfl rfl) h0
  have k1 := h1
  have lt1 : ∀ x ∈ p1, x.block < W.heap.size := by obtain ⟨m, hm⟩ := k1; exact DataW.trod_lt m _ _ _ hm
  have w1 := deeds_of (hval 1 37 v1 rfl rfl) h1
  clear hA0 hval0
  refine (burns_row W a0 w0 v1 w1).mono fun e W' ⟨he, bel⟩ => ?_
  subst he
  exact ⟨_, rfl, _, _, _, [], _, [], hW', trodAll_mk1 (shut_bool Try.underlying4 _), (trodAll_cons_mk (shut_int Try.underlying5 w0) (trodAll_cons_mk (Below.trod diskBurns_laidOut (by kernel_rfl) (of_decide_eq_true (by kernel_rfl)) k1 bel lt1) trodAll_mk0)), rfl, bel.frame _, fun h => by cases h⟩
theorem diskBurns_over : Rows.diskBurnsRow.holds Try.pinned (OpenSpec.ofChange Rows.diskBurnsSpec) :=
  OpenClaim.holds_of_wide 10 Try.f10 rfl rfl rfl rfl rfl rfl rfl ⟨rfl, rfl, rfl, rfl, rfl⟩ rfl rfl rfl rfl rfl (by kernel_rfl) Try.func10 (by kernel_rfl)
    (of_decide_eq_true (by kernel_rfl)) (by unfold Func.isWrapper; first | (rw [if_pos (by decide +kernel)]; kernel_rfl) | (rw [if_neg (by decide +kernel)]; exact ⟨rfl, rfl⟩))
    (fun os started H enc _ => diskBurns_lifted os started H enc)
/-- THE STATEMENT. -/
theorem diskBurns_holds : Rows.DiskBurnsSaid := diskBurns_over
#print axioms diskBurns_holds
end
end Go.Proofs.Ytjdfeagjbhdceaa
