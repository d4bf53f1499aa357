/- DiskFlushed: what was flushed is there behind any crash, unless it was written again. For every input. -/
import Derived.Test.YtjdfeagjbhdceaaLaw14F
import Derived.Test.YtjdfeagjbhdceaaRows
import Derived.Deep.RegionWith
import Derived.WalkKit
import Derived.ProofKit
import Derived.OpenShut
import Derived.ShutString
import Derived.ChangeOld
import Derived.Below
namespace Go.Proofs.Ytjdfeagjbhdceaa
set_option linter.unusedVariables false
set_option linter.unusedSimpArgs false
open Go.RowKit

/-! ### The plain law -/
theorem DS.is_sure {d : DS} (hp : d.pend = []) (i : Int) : d.is i = d.sure.getD i.toNat St.zero := by
  unfold DS.is; rw [hp]; rfl
theorem flush_pend (d : DS) : d.flush.pend = [] := rfl
theorem crash_pend (d : DS) (keep torn cut : Int) : (d.crash keep torn cut).pend = [] := rfl
theorem putE_nil (i : Int) (s : St) : putE ([] : List (Int × St)) i s = [(i, s)] := rfl
theorem sortedKeys_one (i : Int) (s : St) : sortedKeys [(i, s)] = [i] := by simp [sortedKeys, List.mergeSort]
/-- Behind a write and a crash, another sector is as it was. -/
theorem other_kept {d : DS} (ho : d.Open 9) (hp : d.pend = []) (a : Int) (xs : List Int) (keep torn cut : Int) {i : Nat} (hi : i < 9) (h : ¬ ((d.writeR a xs).2 = 0 ∧ (i : Int) = a)) :
    (((d.writeR a xs).1.crash keep torn cut).readR i).1 = (d.readR i).1 := by
  have hoc : ((d.writeR a xs).1.crash keep torn cut).Open 9 := DS.Open.crash (ho.write a xs).2 _ _ _
  unfold DS.readR
  rw [if_pos (DS.has_of hoc.2 hi), if_pos (DS.has_of ho.2 hi)]
  show (DS.is _ _).bytes = (DS.is _ _).bytes
  rw [DS.is_sure (crash_pend _ _ _ _), DS.is_sure hp, Int.toNat_natCast]
  unfold DS.writeR at h ⊢
  split
  · have : (d.crash keep torn cut).sure = d.sure := by simp only [DS.crash, hp]; rfl
    rw [this]
  · rename_i hc
    have hc := Decidable.not_not.1 hc
    rw [if_neg ho.ne] at h ⊢
    rw [if_neg (by simpa using hc)] at h
    have hs : (d.write a xs).sure = d.sure := by show d.spend.1.sure = _; rw [DS.spend_free ho.1]
    have hpd : (d.write a xs).pend = [(a, ⟨xs, d.writes + 1⟩)] := by simp only [DS.write, hp]; rfl
    have hcr : ((d.write a xs).crash keep torn cut).sure = crashTo (d.write a xs) keep torn cut 1 := by simp only [DS.crash, hpd]; rfl
    rw [hcr, crashTo_succ, hpd, sortedKeys_one]
    have hne : ((i : Int) ≠ a) := fun e => h ⟨rfl, e⟩
    have ha := hc.1.1
    have hne2 : a.toNat ≠ i := by omega
    simp only [List.getD_cons_zero]
    rw [List.getD_eq_getElem?_getD, List.getElem?_set_ne hne2, ← List.getD_eq_getElem?_getD]
    show ((d.write a xs).sure.getD i St.zero).bytes = _
    rw [hs]

theorem rowLen {w : World} {base : Nat} {v : Value} {n : Nat} {xs : List (List Int)} (h : w.ownsRow base 9 1 v n (cellsOf encS xs)) (hn : xs.length = n) : ∃ A cap, v = .slice A n cap := by
  obtain ⟨A, cap, hv, _⟩ := (rdAll hn.symm h).len
  exact ⟨A, cap, by rw [hv, hn]⟩
def FlRel (w0 : World) (A1 : Option Addr) (c1 : Nat) (A3 : Option Addr) (c3 : Nat) (ws is : List (List Int)) (g : Nat) (x : Deed) (vi : Value) (wr : World) : Prop :=
  ∃ k : Nat, vi = .int .i64 (k : Int) ∧ k ≤ 9 ∧ SH (fun _ => False) w0 wr [ownA 9 1 (.slice A3 9 c3) 9 (cellsOf encS is), ownA 9 1 (.slice A1 9 c1) 9 (cellsOf encS ws), pt g (.cells #[.int .u8 x.kind, .int .i64 x.at_, .int .u8 x.c, .int .i64 x.n, .int .i64 x.keep] 47 (0, 0))]

set_option maxRecDepth 100000 in
set_option maxHeartbeats 1000000 in
theorem flushed_walk (v : Value) (xs : List Deed) (x : Deed) (keep torn cut : Int) (w0 : World) (hr : RdS Deed.cells 5 w0 v xs) (hx : ∀ x ∈ xs, x.Ok) (hxo : x.Ok) :
    Calls Try.prog 7 #[v, .agg #[.int .u8 x.kind, .int .i64 x.at_, .int .u8 x.c, .int .i64 x.n, .int .i64 x.keep], .int .i64 keep, .int .i64 torn, .int .i64 cut] w0 fun e w' => e = .returned (.bool true) ∧ Ext0 w0 w' := by
  have hsome := fun {w : World} (h : Ext0 w0 w) => some_any v xs w (hr.keep h) hx
  have hF0 := someD_fine hx
  have hO0 := someD_open xs
  generalize someD xs = D0 at *
  have hfl := DS.flushR_on hO0.ne
  have hflc := fun {b bs bm : Nat} {w : World} (h : (DiskA b bs bm D0).says w) => dflush h hF0
  have hF1 := hF0.flushR
  have hO1 := hO0.flush
  simp only [hfl] at hflc hF1 hO1
  have hp1 := flush_pend D0
  generalize D0.flush = D1 at *
  have hkept := fun {i : Nat} => other_kept hO1 hp1 x.at_ x.bytes keep torn cut (i := i)
  have hF2 := hF1.writeR (i := x.at_) (Deed.bytes_ok hxo)
  have hO2 := hO1.write x.at_ x.bytes
  obtain ⟨D2, r, hw⟩ : ∃ D2 r, D1.writeR x.at_ x.bytes = (D2, r) := ⟨_, _, rfl⟩
  rw [hw] at hkept hF2 hO2
  dsimp only at hkept hF2 hO2
  have hF3 := hF2.crash keep torn cut
  have hO3 := DS.Open.crash hO2.2 keep torn cut
  have hcc := fun {b bs bm : Nat} {w : World} (h : (DiskA b bs bm D2).says w) => crash_on b bs bm D2 keep torn cut w h hF2.good
  generalize D2.crash keep torn cut = D3 at *
  have hall1 := fun {b bs bm : Nat} {w : World} (h : (DiskA b bs bm D1).says w) => all_any h hF1
  have hall3 := fun {b bs bm : Nat} {w : World} (h : (DiskA b bs bm D3).says w) => all_any h hF3
  rw [hO1.2] at hall1
  rw [hO3.2] at hall3
  have hl1 : (allD D1).length = 9 := by rw [allD_length, hO1.2]
  have hl3 : (allD D3).length = 9 := by rw [allD_length, hO3.2]
  have hsame : ∀ i (h1 : i < (allD D1).length) (h3 : i < (allD D3).length), ¬ (r = 0 ∧ (i : Int) = x.at_) → (allD D3)[i] = (allD D1)[i] := fun i h1 h3 hn => by
    rw [allD_at, allD_at]; exact hkept (by omega) hn
  generalize allD D1 = ws at *
  generalize allD D3 = is at *
  have HQ := Lib.hid (And.intro hF1 (And.intro hxo (And.intro hw (And.intro hl1 (And.intro hl3 hsame)))))
  clear hF0 hO0 hF1 hO1 hkept hF2 hO2 hF3 hO3 hfl hp1 hw hl1 hl3 hsame hxo hr hx
  have H : SH (fun _ => False) w0 w0 [] := SH.nil _ _
  go_enter Try.func7, Try.ntmps7
  go_wp2_with (first
    | (refine L_box rfl rfl H rfl rfl ?_; clear H; intro g w H; (try simp only [Act.eval, Array.getD_eq_getD_getElem?, List.getElem?_toArray, List.getElem?_cons_succ, List.getElem?_cons_zero, Option.getD_some, Value.cells] at H); (try simp only [Act.put, List.setIfInBounds_toArray, List.set_cons_succ, List.set_cons_zero, List.getElem_toArray, List.getElem_cons_succ, List.getElem_cons_zero]))
    | (go_at_call 23; refine (hsome H.ext).mono ?_; rintro e w ⟨b, bs, bm, rfl, h⟩; replace H := H.cat h; clear h; simp only [List.cons_append, List.nil_append] at H)
    | (go_at_call 24; refine (hflc (H.get 0 rfl)).mono ?_; rintro e w ⟨rfl, h1, h2⟩; replace H := H.disk 0 rfl h1 h2; clear h1 h2; simp only [List.set_cons_zero] at H)
    | (go_at_call 26; refine (hall1 (H.get 0 rfl)).mono ?_; rintro e w ⟨v1, rfl, h1, h2⟩; obtain ⟨A1, c1, rfl⟩ := rowLen h1 HQ.out.2.2.2.1; replace H := H.addOwn h2 h1; clear h1 h2))
  clear hsome hflc hall1
  have H1 := H.drop (L' := [_]) (List.Sublist.cons _ (List.Sublist.cons _ (List.Sublist.refl _)))
  refine D_start H1 (by kernel_rfl) (fun hS => ?_)
  try simp only [Act.put, List.setIfInBounds_toArray, List.set_cons_succ, List.set_cons_zero]
  refine D_take 0 (v := ?_) rfl (by kernel_rfl) (by kernel_rfl) (by kernel_rfl) (fun _ _ _ h => h) rfl (by rfl) (fun W hS => ?_) hS ?_
  rotate_left; (focus (first | (go_simp; done) | (go_simp; with_reducible rfl) | (go_simp; rfl))); all_goals skip; (try simp only [List.set_cons_succ, List.set_cons_zero])
  refine D_take 1 (v := ?_) rfl (by kernel_rfl) (by kernel_rfl) (by kernel_rfl) (fun _ _ _ h => h) rfl (by rfl) (fun W hS => ?_) hS ?_
  rotate_left; (focus (first | (go_simp; done) | (go_simp; with_reducible rfl) | (go_simp; rfl))); all_goals skip; (try simp only [List.set_cons_succ, List.set_cons_zero])
  refine D_take 2 (v := ?_) rfl (by kernel_rfl) (by kernel_rfl) (by kernel_rfl) (fun _ _ _ h => h) rfl (by rfl) (fun W hS => ?_) hS ?_
  rotate_left; (focus (first | (refine R_load1 (ty := 3) (x := Operand.tmp 24) rfl hS 0 rfl rfl ?_ Try.isAgg3; rfl))); all_goals skip; (try simp only [List.set_cons_succ, List.set_cons_zero, List.getElem_toArray, List.getElem_cons_succ, List.getElem_cons_zero])
  refine D_take 3 (v := x.val) rfl (by kernel_rfl) (by kernel_rfl) (by kernel_rfl) (fun _ _ _ h => h) rfl (by rfl) (fun W hS => R_loadrow (ty := 47) (x := .tmp 6) rfl hS 0 rfl rfl Try.underlying47 rfl info47 rfl) hS ?_; (try simp only [List.set_cons_succ, List.set_cons_zero])
  refine D_one 4 rfl (by kernel_rfl) (by rfl) ?_
  refine R_call (f := 28) (args := #[x.val]) (by first | (go_simp; done) | (go_simp; rfl)) (wrote_any x HQ.out.2.1 _) ?_
  clear hS
  rintro e w ⟨g2, rfl, h⟩
  have HW := H.drew.cat h
  simp only [List.cons_append, List.nil_append] at HW
  have hS := HW.drop (L' := [_]) (List.Sublist.cons _ (List.Sublist.cons _ (List.Sublist.cons _ (List.Sublist.refl _))))
  refine ⟨_, rfl, hS, ?_⟩
  try simp only [Act.put, List.getElem_toArray, List.getElem_cons_succ, List.getElem_cons_zero, List.setIfInBounds_toArray, List.set_cons_succ, List.set_cons_zero]
  refine D_one 5 rfl (by kernel_rfl) (by rfl) ?_
  refine R_call (f := 27) (args := #[.pointer (some ⟨b, 0, none⟩), .int .i64 x.at_, .slice (some ⟨g2, 0, none⟩) x.bytes.length x.bytes.length]) (by first | (go_simp; done) | (go_simp; rfl)) (dwrite (HW.get 2 rfl) HQ.out.1 (by omega) x.at_ (bytesRd (HW.at_ 0 rfl)) (ownSep HW 0 2 (by omega) rfl rfl)) ?_
  rw [HQ.out.2.2.1]
  clear hS
  rintro e w ⟨rfl, h1, h2⟩
  replace HW := (HW.disk 2 rfl h1 h2).drop (List.sublist_cons_self _ _)
  have hS := HW.drop (L' := [_]) (List.Sublist.cons _ (List.Sublist.cons _ (List.Sublist.refl _)))
  refine ⟨_, rfl, hS, ?_⟩
  try simp only [Act.put, List.getElem_toArray, List.getElem_cons_succ, List.getElem_cons_zero, List.setIfInBounds_toArray, List.set_cons_succ, List.set_cons_zero]
  refine D_take 6 (v := ?_) rfl (by kernel_rfl) (by kernel_rfl) (by kernel_rfl) (fun _ _ _ h => h) rfl (by rfl) (fun W hS => ?_) hS ?_
  rotate_left; (focus (first | (go_simp; done) | (go_simp; with_reducible rfl) | (go_simp; rfl))); all_goals skip; (try simp only [List.set_cons_succ, List.set_cons_zero])
  refine wpAnyH_done (by kernel_rfl) ?_ _
  clear H H1 hS h h1 h2
  have H := HW
  clear HW
  go_wp2_with (first
    | (go_at_call 29; refine (hcc (H.get 1 rfl)).mono ?_; rintro e w ⟨rfl, h1, h2⟩; replace H := H.disk 1 rfl h1 h2; clear h1 h2; simp only [List.set_cons_succ, List.set_cons_zero] at H)
    | (go_at_call 26; refine (hall3 (H.get 1 rfl)).mono ?_; rintro e w ⟨v3, rfl, h1, h2⟩; obtain ⟨A3, c3, rfl⟩ := rowLen h1 HQ.out.2.2.2.2.1; replace H := H.addOwn h2 h1; clear h1 h2))
  clear hcc hall3
  replace H := H.drop (L' := [_, _, _]) (List.Sublist.cons_cons _ (List.Sublist.cons_cons _ (List.sublist_cons_self _ _)))
  go_loopw [15] (fun vi wr => FlRel w0 A1 c1 A3 c3 ws is g x vi wr) (fun vi _ => 9 - (intOf vi).toNat)
  case atStart => exact ⟨0, rfl, by omega, H⟩
  case round =>
    clear H
    obtain ⟨k, rfl, hk, H⟩ := hrel
    by_cases hkn : k < 9
    · have hki : (k : Int) < 9 := by omega
      have hk1 : k < ws.length := by rw [HQ.out.2.2.2.1]; exact hkn
      have hk3 : k < is.length := by rw [HQ.out.2.2.2.2.1]; exact hkn
      obtain ⟨b1, o1, _, _, _, rfl, _, _⟩ := (rdAll HQ.out.2.2.2.1.symm (H.get 1 rfl)).cell hk1
      obtain ⟨b3, o3, _, _, _, rfl, _, _⟩ := (rdAll HQ.out.2.2.2.2.1.symm (H.get 0 rfl)).cell hk3
      have hsm := HQ.out.2.2.2.2.2 k hk1 hk3
      obtain ⟨s1, hs1⟩ : ∃ s1, strOfNums ws[k] = s1 := ⟨_, rfl⟩
      obtain ⟨s3, hs3⟩ : ∃ s3, strOfNums is[k] = s3 := ⟨_, rfl⟩
      have hv1 : encS ws[k] = [.string s1] := by rw [← hs1]; rfl
      have hv3 : encS is[k] = [.string s3] := by rw [← hs3]; rfl
      by_cases hss : s3.toList = s1.toList
      · clear hsm hs1 hs3
        go_wp2_with fail
        refine D_start H (by kernel_rfl) (fun hS => ?_)
        try simp only [Act.put, List.setIfInBounds_toArray, List.set_cons_succ, List.set_cons_zero]
        refine D_take 0 (v := ?_) rfl (by kernel_rfl) (by kernel_rfl) (by kernel_rfl) (fun _ _ _ h => h) rfl (by rfl) (fun W hS => ?_) hS ?_
        rotate_left; (focus (first | (go_simp; done) | (go_simp; with_reducible rfl) | (go_simp; rfl))); all_goals skip; (try simp only [List.set_cons_succ, List.set_cons_zero])
        refine D_take 1 (v := ?_) rfl (by kernel_rfl) (by kernel_rfl) (by kernel_rfl) (fun _ _ _ h => h) rfl (by rfl) (fun W hS => ?_) hS ?_
        rotate_left; (focus (first | (go_simp; done) | (go_simp; with_reducible rfl) | (go_simp; rfl))); all_goals skip; (try simp only [List.set_cons_succ, List.set_cons_zero])
        refine D_take 2 (v := ?_) rfl (by kernel_rfl) (by kernel_rfl) (by kernel_rfl) (fun _ _ _ h => h) rfl (by rfl) (fun W hS => ?_) hS ?_
        rotate_left; (focus (first | (go_simp; done) | (go_simp; with_reducible rfl) | (go_simp; rfl))); all_goals skip; (try simp only [List.set_cons_succ, List.set_cons_zero])
        refine D_take 3 (v := (.string s3)) rfl (by kernel_rfl) (by kernel_rfl) (by kernel_rfl) (fun _ _ _ h => h) rfl (by rfl) (fun W hS => R_loadRd (ty := 9) (x := .tmp 50) rfl (rdAll HQ.out.2.2.2.2.1.symm (hS.get 0 rfl)) hk3 rfl hv3 Try.isAgg9) hS ?_; (try simp only [List.set_cons_succ, List.set_cons_zero])
        refine D_take 4 (v := ?_) rfl (by kernel_rfl) (by kernel_rfl) (by kernel_rfl) (fun _ _ _ h => h) rfl (by rfl) (fun W hS => ?_) hS ?_
        rotate_left; (focus (first | (go_simp; done) | (go_simp; with_reducible rfl) | (go_simp; rfl))); all_goals skip; (try simp only [List.set_cons_succ, List.set_cons_zero])
        refine D_take 5 (v := ?_) rfl (by kernel_rfl) (by kernel_rfl) (by kernel_rfl) (fun _ _ _ h => h) rfl (by rfl) (fun W hS => ?_) hS ?_
        rotate_left; (focus (first | (go_simp; done) | (go_simp; with_reducible rfl) | (go_simp; rfl))); all_goals skip; (try simp only [List.set_cons_succ, List.set_cons_zero])
        refine D_take 6 (v := ?_) rfl (by kernel_rfl) (by kernel_rfl) (by kernel_rfl) (fun _ _ _ h => h) rfl (by rfl) (fun W hS => ?_) hS ?_
        rotate_left; (focus (first | (go_simp; done) | (go_simp; with_reducible rfl) | (go_simp; rfl))); all_goals skip; (try simp only [List.set_cons_succ, List.set_cons_zero])
        refine D_take 7 (v := (.string s1)) rfl (by kernel_rfl) (by kernel_rfl) (by kernel_rfl) (fun _ _ _ h => h) rfl (by rfl) (fun W hS => R_loadRd (ty := 9) (x := .tmp 54) rfl (rdAll HQ.out.2.2.2.1.symm (hS.get 1 rfl)) hk1 rfl hv1 Try.isAgg9) hS ?_; (try simp only [List.set_cons_succ, List.set_cons_zero])
        refine D_take 8 (v := (.bool false)) rfl (by kernel_rfl) (by kernel_rfl) (by kernel_rfl) (fun _ _ _ h => h) rfl (by rfl) (fun W hS => by first | (go_simp; done) | (go_simp; exact hss)) hS ?_; (try simp only [List.set_cons_succ, List.set_cons_zero])
        refine D_take 9 (v := ?_) rfl (by kernel_rfl) (by kernel_rfl) (by kernel_rfl) (fun _ _ _ h => h) rfl (by rfl) (fun W hS => ?_) hS ?_
        rotate_left; (focus (first | (go_simp; done) | (go_simp; with_reducible rfl) | (go_simp; rfl))); all_goals skip; (try simp only [List.set_cons_succ, List.set_cons_zero])
        refine D_skip 10 rfl (by kernel_rfl) (by kernel_rfl) (by kernel_rfl) (fun _ _ _ h => h) rfl (by rfl) hS ?_; (try simp only [List.set_cons_succ, List.set_cons_zero])
        refine D_skip 11 rfl (by kernel_rfl) (by kernel_rfl) (by kernel_rfl) (fun _ _ _ h => h) rfl (by rfl) hS ?_; (try simp only [List.set_cons_succ, List.set_cons_zero])
        refine D_skip 12 rfl (by kernel_rfl) (by kernel_rfl) (by kernel_rfl) (fun _ _ _ h => h) rfl (by rfl) hS ?_; (try simp only [List.set_cons_succ, List.set_cons_zero])
        refine D_skip 13 rfl (by kernel_rfl) (by kernel_rfl) (by kernel_rfl) (fun _ _ _ h => h) rfl (by rfl) hS ?_; (try simp only [List.set_cons_succ, List.set_cons_zero])
        refine D_skip 14 rfl (by kernel_rfl) (by kernel_rfl) (by kernel_rfl) (fun _ _ _ h => h) rfl (by rfl) hS ?_; (try simp only [List.set_cons_succ, List.set_cons_zero])
        refine D_skip 15 rfl (by kernel_rfl) (by kernel_rfl) (by kernel_rfl) (fun _ _ _ h => h) rfl (by rfl) hS ?_; (try simp only [List.set_cons_succ, List.set_cons_zero])
        refine D_skip 16 rfl (by kernel_rfl) (by kernel_rfl) (by kernel_rfl) (fun _ _ _ h => h) rfl (by rfl) hS ?_; (try simp only [List.set_cons_succ, List.set_cons_zero])
        refine D_skip 17 rfl (by kernel_rfl) (by kernel_rfl) (by kernel_rfl) (fun _ _ _ h => h) rfl (by rfl) hS ?_; (try simp only [List.set_cons_succ, List.set_cons_zero])
        refine D_take 18 (v := ?_) rfl (by kernel_rfl) (by kernel_rfl) (by kernel_rfl) (fun _ _ _ h => h) rfl (by rfl) (fun W hS => ?_) hS ?_
        rotate_left; (focus (first | (go_simp; done) | (go_simp; with_reducible rfl) | (go_simp; rfl))); all_goals skip; (try simp only [List.set_cons_succ, List.set_cons_zero])
        refine wpAnyH_done (by kernel_rfl) ?_ _
        replace H := H.drew
        go_wp2_with fail
        go_roundw
        case rel => exact ⟨k + 1, by go_num, by omega, H⟩
        case measure => simp [intOf]; omega
      · have hsafe : r = 0 ∧ (k : Int) = x.at_ := by
          refine Decidable.byContradiction fun hn => hss ?_
          rw [← hs1, ← hs3, hsm hn]
        have hb1 : (r != 0) = false := by simp [hsafe.1]
        have hb2 : ((k : Int) != x.at_) = false := by simp [hsafe.2]
        clear hsm hs1 hs3 hsafe
        go_wp2_with fail
        refine D_start H (by kernel_rfl) (fun hS => ?_)
        try simp only [Act.put, List.setIfInBounds_toArray, List.set_cons_succ, List.set_cons_zero]
        refine D_take 0 (v := ?_) rfl (by kernel_rfl) (by kernel_rfl) (by kernel_rfl) (fun _ _ _ h => h) rfl (by rfl) (fun W hS => ?_) hS ?_
        rotate_left; (focus (first | (go_simp; done) | (go_simp; with_reducible rfl) | (go_simp; rfl))); all_goals skip; (try simp only [List.set_cons_succ, List.set_cons_zero])
        refine D_take 1 (v := ?_) rfl (by kernel_rfl) (by kernel_rfl) (by kernel_rfl) (fun _ _ _ h => h) rfl (by rfl) (fun W hS => ?_) hS ?_
        rotate_left; (focus (first | (go_simp; done) | (go_simp; with_reducible rfl) | (go_simp; rfl))); all_goals skip; (try simp only [List.set_cons_succ, List.set_cons_zero])
        refine D_take 2 (v := ?_) rfl (by kernel_rfl) (by kernel_rfl) (by kernel_rfl) (fun _ _ _ h => h) rfl (by rfl) (fun W hS => ?_) hS ?_
        rotate_left; (focus (first | (go_simp; done) | (go_simp; with_reducible rfl) | (go_simp; rfl))); all_goals skip; (try simp only [List.set_cons_succ, List.set_cons_zero])
        refine D_take 3 (v := (.string s3)) rfl (by kernel_rfl) (by kernel_rfl) (by kernel_rfl) (fun _ _ _ h => h) rfl (by rfl) (fun W hS => R_loadRd (ty := 9) (x := .tmp 50) rfl (rdAll HQ.out.2.2.2.2.1.symm (hS.get 0 rfl)) hk3 rfl hv3 Try.isAgg9) hS ?_; (try simp only [List.set_cons_succ, List.set_cons_zero])
        refine D_take 4 (v := ?_) rfl (by kernel_rfl) (by kernel_rfl) (by kernel_rfl) (fun _ _ _ h => h) rfl (by rfl) (fun W hS => ?_) hS ?_
        rotate_left; (focus (first | (go_simp; done) | (go_simp; with_reducible rfl) | (go_simp; rfl))); all_goals skip; (try simp only [List.set_cons_succ, List.set_cons_zero])
        refine D_take 5 (v := ?_) rfl (by kernel_rfl) (by kernel_rfl) (by kernel_rfl) (fun _ _ _ h => h) rfl (by rfl) (fun W hS => ?_) hS ?_
        rotate_left; (focus (first | (go_simp; done) | (go_simp; with_reducible rfl) | (go_simp; rfl))); all_goals skip; (try simp only [List.set_cons_succ, List.set_cons_zero])
        refine D_take 6 (v := ?_) rfl (by kernel_rfl) (by kernel_rfl) (by kernel_rfl) (fun _ _ _ h => h) rfl (by rfl) (fun W hS => ?_) hS ?_
        rotate_left; (focus (first | (go_simp; done) | (go_simp; with_reducible rfl) | (go_simp; rfl))); all_goals skip; (try simp only [List.set_cons_succ, List.set_cons_zero])
        refine D_take 7 (v := (.string s1)) rfl (by kernel_rfl) (by kernel_rfl) (by kernel_rfl) (fun _ _ _ h => h) rfl (by rfl) (fun W hS => R_loadRd (ty := 9) (x := .tmp 54) rfl (rdAll HQ.out.2.2.2.1.symm (hS.get 1 rfl)) hk1 rfl hv1 Try.isAgg9) hS ?_; (try simp only [List.set_cons_succ, List.set_cons_zero])
        refine D_take 8 (v := (.bool true)) rfl (by kernel_rfl) (by kernel_rfl) (by kernel_rfl) (fun _ _ _ h => h) rfl (by rfl) (fun W hS => by first | (go_simp; done) | (go_simp; exact hss)) hS ?_; (try simp only [List.set_cons_succ, List.set_cons_zero])
        refine D_take 9 (v := ?_) rfl (by kernel_rfl) (by kernel_rfl) (by kernel_rfl) (fun _ _ _ h => h) rfl (by rfl) (fun W hS => ?_) hS ?_
        rotate_left; (focus (first | (go_simp; done) | (go_simp; with_reducible rfl) | (go_simp; rfl))); all_goals skip; (try simp only [List.set_cons_succ, List.set_cons_zero])
        refine D_take 10 (v := ?_) rfl (by kernel_rfl) (by kernel_rfl) (by kernel_rfl) (fun _ _ _ h => h) rfl (by rfl) (fun W hS => ?_) hS ?_
        rotate_left; (focus (first | (go_simp; done) | (go_simp; with_reducible rfl) | (go_simp; rfl))); all_goals skip; (try simp only [List.set_cons_succ, List.set_cons_zero])
        refine D_take 11 (v := ?_) rfl (by kernel_rfl) (by kernel_rfl) (by kernel_rfl) (fun _ _ _ h => h) rfl (by rfl) (fun W hS => ?_) hS ?_
        rotate_left; (focus (first | (go_simp; done) | (go_simp; with_reducible rfl) | (go_simp; rfl))); all_goals skip; (try simp only [List.set_cons_succ, List.set_cons_zero])
        refine D_take 12 (v := ?_) rfl (by kernel_rfl) (by kernel_rfl) (by kernel_rfl) (fun _ _ _ h => h) rfl (by rfl) (fun W hS => ?_) hS ?_
        rotate_left; (focus (first | (go_simp; done) | (go_simp; with_reducible rfl) | (go_simp; rfl))); all_goals skip; (try simp only [List.set_cons_succ, List.set_cons_zero])
        refine D_take 13 (v := ?_) rfl (by kernel_rfl) (by kernel_rfl) (by kernel_rfl) (fun _ _ _ h => h) rfl (by rfl) (fun W hS => ?_) hS ?_
        rotate_left; (focus (first | (go_simp; done) | (go_simp; with_reducible rfl) | (go_simp; rfl))); all_goals skip; (try simp only [List.set_cons_succ, List.set_cons_zero])
        refine D_take 14 (v := ?_) rfl (by kernel_rfl) (by kernel_rfl) (by kernel_rfl) (fun _ _ _ h => h) rfl (by rfl) (fun W hS => ?_) hS ?_
        rotate_left; (focus (first | (go_simp; done) | (go_simp; with_reducible rfl) | (go_simp; rfl))); all_goals skip; (try simp only [List.set_cons_succ, List.set_cons_zero])
        refine D_take 15 (v := ?_) rfl (by kernel_rfl) (by kernel_rfl) (by kernel_rfl) (fun _ _ _ h => h) rfl (by rfl) (fun W hS => ?_) hS ?_
        rotate_left; (focus (first | (refine R_load1 (ty := 3) (x := Operand.tmp 62) rfl hS 2 rfl rfl ?_ Try.isAgg3; rfl))); all_goals skip; (try simp only [List.set_cons_succ, List.set_cons_zero, List.getElem_toArray, List.getElem_cons_succ, List.getElem_cons_zero])
        refine D_take 16 (v := ?_) rfl (by kernel_rfl) (by kernel_rfl) (by kernel_rfl) (fun _ _ _ h => h) rfl (by rfl) (fun W hS => ?_) hS ?_
        rotate_left; (focus (first | (go_simp; done) | (go_simp; with_reducible rfl) | (go_simp; rfl))); all_goals skip; (try simp only [List.set_cons_succ, List.set_cons_zero])
        refine D_take 17 (v := ?_) rfl (by kernel_rfl) (by kernel_rfl) (by kernel_rfl) (fun _ _ _ h => h) rfl (by rfl) (fun W hS => ?_) hS ?_
        rotate_left; (focus (first | (go_simp; done) | (go_simp; with_reducible rfl) | (go_simp; rfl))); all_goals skip; (try simp only [List.set_cons_succ, List.set_cons_zero])
        refine D_take 18 (v := ?_) rfl (by kernel_rfl) (by kernel_rfl) (by kernel_rfl) (fun _ _ _ h => h) rfl (by rfl) (fun W hS => ?_) hS ?_
        rotate_left; (focus (first | (go_simp; done) | (go_simp; with_reducible rfl) | (go_simp; rfl))); all_goals skip; (try simp only [List.set_cons_succ, List.set_cons_zero])
        refine wpAnyH_done (by kernel_rfl) ?_ _
        replace H := H.drew
        go_wp2_with fail
        go_roundw
        case rel => exact ⟨k + 1, by go_num, by omega, H⟩
        case measure => simp [intOf]; omega
    · obtain rfl : k = 9 := by omega
      go_wp2_with (first | (go_at_call 30; refine (awake_any _).mono ?_; rintro e w ⟨rfl, h⟩; replace H := H.calls h; clear h))
      go_ret
      exact ⟨rfl, H.ext⟩

theorem flushed_row (w : World) (v : Value) (h1 : ∃ xs : List Deed, RdS Deed.cells 5 w v xs ∧ ∀ x ∈ xs, x.Ok) (v2 : Value) (h2 : ∃ x : Deed, v2 = x.val ∧ x.Ok) (a : Int) (_ : (Lit.int .i64 a).wf = true) (b : Int) (_ : (Lit.int .i64 b).wf = true) (c : Int) (_ : (Lit.int .i64 c).wf = true) :
    Calls Try.prog 7 #[v, v2, .int .i64 a, .int .i64 b, .int .i64 c] w fun e w' => e = .returned (.bool true) ∧ Below w.heap.size w w' := by
  obtain ⟨xs, hr, hx⟩ := h1
  obtain ⟨x, rfl, hxo⟩ := h2
  exact (flushed_walk v xs x a b c w hr hx hxo).mono fun _ _ h => ⟨h.1, h.2.below⟩
section
open Go.ChangeShapes Go.WideShapes Go.ChangeAt Go.RowKit
open Go.ChangeMaps (open_string shut_string)
theorem diskFlushed_own : ownKnob Try.prog.godebug = none := by kernel_rfl
theorem diskFlushed_laidOut : laidOutB Try.prog = true := by kernel_rfl
set_option maxRecDepth 100000 in
theorem diskFlushed_lifted (os : Os) (started : os.Started) (H : Type) (enc : TypeId × Value → H) :
    ReturnsInHanded {} Try.checked os 7 .any (Rows.diskFlushedSpec.pre6 enc Try.prog Try.f7 Rows.diskFlushedRow.domain false) (Rows.diskFlushedSpec.post enc Try.prog Try.f7 false true false false) := by
  refine returnsInHanded_of_change (C := Try.checked) diskFlushed_own started (by kernel_rfl) Try.func7
    (ChangeSpec.witness6 (enc := enc) (C := Try.checked) false ⟨#[], #[.slice none 0 0, .agg #[.int .u8 0,.int .i64 0,.int .u8 0,.int .i64 0,.int .i64 0], .int .i64 0, .int .i64 0, .int .i64 0], []⟩ 8 (by kernel_rfl) (by kernel_rfl) (by kernel_rfl) (by kernel_rfl)) ?_
  intro W base args ds gs before hval0 hW hcnd _
  have hval : ∀ (j : Nat) t v, Try.f7.params[j]? = some t → args[j]? = some v → Value.okWide Try.prog W .any base t v := hval0
  have hW' := hW
  obtain ⟨p, q, hA0, hV, rfl, hfz, hnd⟩ := hW
  have hA : DataW.TrodAll enc Try.prog W 0 (fun _ => true) true Try.f7.params.toList args.toList ds p := hA0
  rw [Try.params7] at hA hval
  obtain ⟨v0, vs0, d0, ds0, p0, q0, hargs, rfl, rfl, h0, r0⟩ := trodAll_cons hA
  obtain ⟨v1, vs1, d1, ds1, p1, q1, rfl, rfl, rfl, h1, r1⟩ := trodAll_cons r0
  obtain ⟨v2, vs2, d2, ds2, p2, q2, rfl, rfl, rfl, h2, r2⟩ := trodAll_cons r1
  obtain ⟨v3, vs3, d3, ds3, p3, q3, rfl, rfl, rfl, h3, r3⟩ := trodAll_cons r2
  obtain ⟨v4, vs4, d4, ds4, p4, q4, rfl, rfl, rfl, h4, r4⟩ := trodAll_cons r3
  obtain ⟨rfl, rfl, rfl⟩ := trodAll_nil r4
  obtain rfl : args = #[v0, v1, v2, v3, v4] := by cases args; simp_all
  obtain ⟨rfl, rfl⟩ := trodVars_none hV
  have k0 := h0
  have lt0 : ∀ x ∈ p0, x.block < W.heap.size := by obtain ⟨m, hm⟩ := k0; exact DataW.trod_lt m _ _ _ hm
  have w0 := deeds_of (hval 0 37 v0 rfl rfl) h0
  have k1 := h1
  have lt1 : ∀ x ∈ p1, x.block < W.heap.size := by obtain ⟨m, hm⟩ := k1; exact DataW.trod_lt m _ _ _ hm
  have w1 := deed_arg (hval 1 47 v1 rfl rfl) h1
  obtain ⟨a2, rfl, rfl, rfl, w2⟩ := open_int Try.underlying3 (hval 2 3 v2 rfl rfl) h2
  obtain ⟨a3, rfl, rfl, rfl, w3⟩ := open_int Try.underlying3 (hval 3 3 v3 rfl rfl) h3
  obtain ⟨a4, rfl, rfl, rfl, w4⟩ := open_int Try.underlying3 (hval 4 3 v4 rfl rfl) h4
  clear hA0 hval0
  refine (flushed_row W v0 w0 v1 w1 a2 w2 a3 w3 a4 w4).mono fun e W' ⟨he, bel⟩ => ?_
  subst he
  exact ⟨_, rfl, _, _, _, [], _, [], hW', trodAll_mk1 (shut_bool Try.underlying4 _), (trodAll_cons_mk (Below.trod diskFlushed_laidOut (by kernel_rfl) (of_decide_eq_true (by kernel_rfl)) k0 bel lt0) (trodAll_cons_mk (Below.trod diskFlushed_laidOut (by kernel_rfl) (of_decide_eq_true (by kernel_rfl)) k1 bel lt1) (trodAll_cons_mk (shut_int Try.underlying3 w2) (trodAll_cons_mk (shut_int Try.underlying3 w3) (trodAll_cons_mk (shut_int Try.underlying3 w4) trodAll_mk0))))), rfl, bel.frame _, fun h => by cases h⟩
theorem diskFlushed_over : Rows.diskFlushedRow.holds Try.pinned (OpenSpec.ofChange Rows.diskFlushedSpec) :=
  OpenClaim.holds_of_wide 7 Try.f7 rfl rfl rfl rfl rfl rfl rfl ⟨rfl, rfl, rfl, rfl, rfl⟩ rfl rfl rfl rfl rfl (by kernel_rfl) Try.func7 (by kernel_rfl)
    (of_decide_eq_true (by kernel_rfl)) (by unfold Func.isWrapper; first | (rw [if_pos (by decide +kernel)]; kernel_rfl) | (rw [if_neg (by decide +kernel)]; exact ⟨rfl, rfl⟩))
    (fun os started H enc _ => diskFlushed_lifted os started H enc)
/-- THE STATEMENT. -/
theorem diskFlushed_holds : Rows.DiskFlushedSaid := diskFlushed_over
#print axioms diskFlushed_holds
end
end Go.Proofs.Ytjdfeagjbhdceaa
