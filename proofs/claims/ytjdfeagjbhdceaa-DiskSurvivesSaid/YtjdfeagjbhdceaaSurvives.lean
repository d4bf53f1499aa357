/- DiskSurvives: behind a crash each sector is as it was sure, or as it was written; but one at most, which begins as the one and ends as the other. For every input. -/
import Derived.Test.YtjdfeagjbhdceaaSurvP
namespace Go.Proofs.Ytjdfeagjbhdceaa
set_option linter.unusedVariables false
set_option linter.unusedSimpArgs false
open Go.RowKit

theorem strOfNums_size (xs : List Int) : (strOfNums xs).size = xs.length := by simp [strOfNums, ByteArray.size]
theorem strOfNums_cut (a b : List Int) (c : Nat) (hb : b.length = 32) (hc : c ≤ 32) : strOfNums (a.take c ++ b.drop c) = (strOfNums a).extract 0 c ++ (strOfNums b).extract c 32 := by
  have h1 : (strOfNums (a.take c ++ b.drop c)).data = ((strOfNums a).extract 0 c ++ (strOfNums b).extract c 32).data := by
    rw [ByteArray.data_append, ByteArray.data_extract, ByteArray.data_extract]
    simp only [strOfNums, List.map_append, List.map_take, List.map_drop]
    apply Array.toList_inj.1
    simp [← hb]
    rw [List.take_of_length_le (by simp)]
  exact ByteArray.ext h1
def writeStep (d : DS) (x : Deed) : DS := (d.writeR x.at_ x.bytes).1
theorem writeStep_fine {d : DS} {W : Int} (h : d.Fine W) {x : Deed} (hx : x.Ok) : (writeStep d x).Fine (W + 1) := h.writeR (Deed.bytes_ok hx)
theorem writeStep_open {d : DS} {n : Nat} (h : d.Open n) (x : Deed) : (writeStep d x).Open n := h.write _ _
theorem writeStep_sure {d : DS} {n : Nat} (h : d.Open n) (x : Deed) : (writeStep d x).sure = d.sure := by
  unfold writeStep DS.writeR
  split
  · rfl
  · rw [if_neg h.ne]
    show d.spend.1.sure = _; rw [DS.spend_free h.1]
theorem fold_sure {n : Nat} : ∀ (xs : List Deed) (d : DS), d.Open n → (xs.foldl writeStep d).sure = d.sure
  | [], _, _ => rfl
  | x :: xs, d, h => by rw [List.foldl_cons, fold_sure xs _ (writeStep_open h x), writeStep_sure h]
theorem readR_has {d : DS} {i : Nat} (h : i < d.sure.length) : (d.readR (i : Int)).1 = (d.is (i : Int)).bytes := by
  unfold DS.readR; rw [if_pos (DS.has_of rfl h)]

def SvRel1 (b bs bm : Nat) (d : DS) (xs : List Deed) (v1 : Value) (ws : List (List Int)) (w0 : World) (vi : Value) (wr : World) : Prop :=
  ∃ k : Nat, vi = .int .i64 (k : Int) ∧ k ≤ xs.length ∧ k ≤ 20 ∧ SH (fun _ => False) w0 wr [ownA 9 1 v1 9 (cellsOf encS ws), DiskA b bs bm ((xs.take k).foldl writeStep d)]
def SvRel2 (b bs bm : Nat) (d : DS) (T : Int) (A1 A2 A3 : Option Addr) (c1 c2 c3 : Nat) (su no is : List (List Int)) (w0 : World) (vm vi : Value) (wr : World) : Prop :=
  ∃ i m : Nat, vi = .int .i64 (i : Int) ∧ vm = .int .i64 (m : Int) ∧ i ≤ 9 ∧ m ≤ 1 ∧ (m = 1 → T < i) ∧ SH (fun _ => False) w0 wr [ownA 9 1 (.slice A3 9 c3) 9 (cellsOf encS is), ownA 9 1 (.slice A2 9 c2) 9 (cellsOf encS no), ownA 9 1 (.slice A1 9 c1) 9 (cellsOf encS su), DiskA b bs bm d]

set_option maxRecDepth 100000 in
set_option maxHeartbeats 4000000 in
theorem survives_walk (v v2 : Value) (xs ys : List Deed) (keep torn cut : Int) (w0 : World) (hr : RdS Deed.cells 5 w0 v xs) (hx : ∀ x ∈ xs, x.Ok) (hr2 : RdS Deed.cells 5 w0 v2 ys) (hy : ∀ x ∈ ys, x.Ok) :
    Calls Try.prog 6 #[v, v2, .int .i64 keep, .int .i64 torn, .int .i64 cut] w0 fun e w' => e = .returned (.bool true) ∧ Ext0 w0 w' := by
  have hsome := fun {w : World} (h : Ext0 w0 w) => some_any v xs w (hr.keep h) hx
  obtain ⟨Ay, capy, rfl, hcapy⟩ := hr2.len
  have hF0 := someD_fine hx
  have hO0 := someD_open xs
  generalize someD xs = D0 at *
  have hfl := DS.flushR_on hO0.ne
  have hflc := fun {b bs bm : Nat} {w : World} (h : (DiskA b bs bm D0).says w) => dflush h hF0
  have hF1 := hF0.flushR
  have hO1 := hO0.flush
  simp only [hfl] at hflc hF1 hO1
  have hp1 := flush_pend D0
  generalize D0.flush = D1 at *
  have hpn : D1.pend.length = 0 := by rw [hp1]; rfl
  have hpc := fun {b bs bm : Nat} {w : World} (h : (DiskA b bs bm D1).says w) => pending_any b bs bm D1 w h
  rw [hpn] at hpc
  have hall1 := fun {b bs bm : Nat} {w : World} (h : (DiskA b bs bm D1).says w) => all_any h hF1
  have hl1 : (allD D1).length = 9 := by rw [allD_length, hO1.2]
  rw [hO1.2] at hall1
  have hs1 : ∀ i (h : i < (allD D1).length), (allD D1)[i] = (D1.sure.getD i St.zero).bytes := fun i h => by
    rw [allD_at, readR_has (by rw [allD_length] at h; exact h), DS.is_sure hp1, Int.toNat_natCast]
  generalize allD D1 = su at *
  have HQ := Lib.hid (And.intro hF1 (And.intro hO1 (And.intro hl1 hs1)))
  have HY := Lib.hid hy
  clear hF0 hO0 hF1 hO1 hfl hp1 hpn hl1 hs1 hr hx hy
  have H : SH (fun _ => False) w0 w0 [] := SH.nil _ _
  go_enter Try.func6, Try.ntmps6
  go_wp2_with (first
    | (go_at_call 23; refine (hsome H.ext).mono ?_; rintro e w ⟨b, bs, bm, rfl, h⟩; replace H := H.cat h; clear h; simp only [List.cons_append, List.nil_append] at H)
    | (go_at_call 24; refine (hflc (H.get 0 rfl)).mono ?_; rintro e w ⟨rfl, h1, h2⟩; replace H := H.disk 0 rfl h1 h2; clear h1 h2; simp only [List.set_cons_zero] at H)
    | (go_at_call 25; refine (hpc (H.get 0 rfl)).mono ?_; rintro e w' ⟨rfl, rfl⟩)
    | (go_at_call 26; refine (hall1 (H.get 0 rfl)).mono ?_; rintro e w ⟨v1, rfl, h1, h2⟩; obtain ⟨A1, c1, rfl⟩ := rowLen h1 HQ.out.2.2.1; replace H := H.addOwn h2 h1; clear h1 h2))
  clear hsome hflc hall1 hpc
  go_loopw [13] (fun vi wr => SvRel1 b bs bm D1 ys (.slice A1 9 c1) su w0 vi wr) (fun vi _ => ys.length - (intOf vi).toNat)
  case atStart => exact ⟨0, rfl, Nat.zero_le _, Nat.zero_le _, H⟩
  case round =>
    clear H
    obtain ⟨k, rfl, hk, hk20, H⟩ := hrel
    have hend : ∀ k', k' ≤ 20 → ((ys.take k').foldl writeStep D1).Fine 60 ∧ ((ys.take k').foldl writeStep D1).Open 9 ∧ ((ys.take k').foldl writeStep D1).sure = D1.sure := fun k' hk' => by
      have htk : ∀ y ∈ ys.take k', y.Ok := fun y hy => HY.out y (List.mem_of_mem_take hy)
      refine ⟨(fold_fine writeStep_fine (ys.take k') D1 _ HQ.out.1 htk).mono ?_, fold_open (fun h x => writeStep_open h x) _ _ HQ.out.2.1, fold_sure _ _ HQ.out.2.1⟩
      rw [List.length_take]; omega
    by_cases hkn : k < ys.length ∧ k < 20
    · obtain ⟨hkn, hk2⟩ := hkn
      have hxo := HY.out ys[k] (List.getElem_mem hkn)
      obtain ⟨hfine, _, _⟩ := hend k (by omega)
      clear hend
      have hstep := fold_take_succ (step := writeStep) hkn D1
      obtain ⟨bb, off, cs, T, fr, rfl, hb, hcs⟩ := hr2.cell hkn
      have HS := Lib.hid hstep
      clear hstep
      generalize (ys.take k).foldl writeStep D1 = d at *
      generalize ys[k] = x at *
      have hk2i : ((k : Int) < 20) := by omega
      have hki : ((k : Int) < ys.length) := by omega
      have hv1 : cs[off + k * 5 + 1]? = some (.int .i64 x.at_) := by rw [hcs 1 (by omega)]; rfl
      clear hr2
      go_wp2_with fail
      have H1 := H.drop (L' := []) (List.nil_sublist _)
      refine D_start H1 (by kernel_rfl) (fun hS => ?_)
      try simp only [Act.put, List.setIfInBounds_toArray, List.set_cons_succ, List.set_cons_zero]
      refine D_take 0 (v := ?_) rfl (by kernel_rfl) (by kernel_rfl) (by kernel_rfl) (fun _ _ _ h => h) rfl (by rfl) (fun W hS => ?_) hS ?_
      rotate_left; (focus (first | (go_simp; done) | (go_simp; with_reducible rfl) | (go_simp; rfl))); all_goals skip; (try simp only [List.set_cons_succ, List.set_cons_zero])
      refine D_take 1 (v := ?_) rfl (by kernel_rfl) (by kernel_rfl) (by kernel_rfl) (fun _ _ _ h => h) rfl (by rfl) (fun W hS => ?_) hS ?_
      rotate_left; (focus (first | (go_simp; done) | (go_simp; with_reducible rfl) | (go_simp; rfl))); all_goals skip; (try simp only [List.set_cons_succ, List.set_cons_zero])
      refine D_take 2 (v := ?_) rfl (by kernel_rfl) (by kernel_rfl) (by kernel_rfl) (fun _ _ _ h => h) rfl (by rfl) (fun W hS => ?_) hS ?_
      rotate_left; (focus (first | (go_simp; done) | (go_simp; with_reducible rfl) | (go_simp; rfl))); all_goals skip; (try simp only [List.set_cons_succ, List.set_cons_zero])
      refine D_take 3 (v := ?_) rfl (by kernel_rfl) (by kernel_rfl) (by kernel_rfl) (fun _ _ _ h => h) rfl (by rfl) (fun W hS => ?_) hS ?_
      rotate_left; (focus (first | (go_simp; done) | (go_simp; with_reducible rfl) | (go_simp; rfl))); all_goals skip; (try simp only [List.set_cons_succ, List.set_cons_zero])
      refine D_take 4 (v := ?_) rfl (by kernel_rfl) (by kernel_rfl) (by kernel_rfl) (fun _ _ _ h => h) rfl (by rfl) (fun W hS => ?_) hS ?_
      rotate_left; (focus (first | (go_simp; done) | (go_simp; with_reducible rfl) | (go_simp; rfl))); all_goals skip; (try simp only [List.set_cons_succ, List.set_cons_zero])
      refine D_take 5 (v := (.int .i64 x.at_)) rfl (by kernel_rfl) (by kernel_rfl) (by kernel_rfl) (fun _ _ _ h => h) rfl (by rfl) (fun W hS => R_load1r (ty := 3) (x := .tmp 45) (off := off + k * 5 + 1) rfl hS rfl hb (fun e => e) hv1 Try.isAgg3) hS ?_; (try simp only [List.set_cons_succ, List.set_cons_zero])
      refine D_take 6 (v := ?_) rfl (by kernel_rfl) (by kernel_rfl) (by kernel_rfl) (fun _ _ _ h => h) rfl (by rfl) (fun W hS => ?_) hS ?_
      rotate_left; (focus (first | (go_simp; done) | (go_simp; with_reducible rfl) | (go_simp; rfl))); all_goals skip; (try simp only [List.set_cons_succ, List.set_cons_zero])
      refine D_take 7 (v := ?_) rfl (by kernel_rfl) (by kernel_rfl) (by kernel_rfl) (fun _ _ _ h => h) rfl (by rfl) (fun W hS => ?_) hS ?_
      rotate_left; (focus (first | (go_simp; done) | (go_simp; with_reducible rfl) | (go_simp; rfl))); all_goals skip; (try simp only [List.set_cons_succ, List.set_cons_zero])
      refine D_take 8 (v := ?_) rfl (by kernel_rfl) (by kernel_rfl) (by kernel_rfl) (fun _ _ _ h => h) rfl (by rfl) (fun W hS => ?_) hS ?_
      rotate_left; (focus (first | (go_simp; done) | (go_simp; with_reducible rfl) | (go_simp; rfl))); all_goals skip; (try simp only [List.set_cons_succ, List.set_cons_zero])
      refine D_take 9 (v := x.val) rfl (by kernel_rfl) (by kernel_rfl) (by kernel_rfl) (fun _ _ _ h => h) rfl (by rfl) (fun W hS => R_loadmid (ty := 47) (x := .tmp 49) (b := bb) (off := off + k * 5) rfl rfl (hS.ext.keep hb (fun e => e)) Try.underlying47 rfl info47 x.cells rfl hcs) hS ?_; (try simp only [List.set_cons_succ, List.set_cons_zero])
      refine D_one 10 rfl (by kernel_rfl) (by rfl) ?_
      refine R_call (f := 28) (args := #[x.val]) (by first | (go_simp; done) | (go_simp; rfl)) (wrote_any x hxo _) ?_
      clear hS
      rintro e w ⟨g, rfl, h⟩
      have HW := H.drew.cat h
      simp only [List.cons_append, List.nil_append] at HW
      have hS := HW.drop (L' := []) (List.nil_sublist _)
      refine ⟨_, rfl, hS, ?_⟩
      try simp only [Act.put, List.getElem_toArray, List.getElem_cons_succ, List.getElem_cons_zero, List.setIfInBounds_toArray, List.set_cons_succ, List.set_cons_zero]
      refine D_one 11 rfl (by kernel_rfl) (by rfl) ?_
      refine R_call (f := 27) (args := #[.pointer (some ⟨b, 0, none⟩), .int .i64 x.at_, .slice (some ⟨g, 0, none⟩) x.bytes.length x.bytes.length]) (by first | (go_simp; done) | (go_simp; rfl)) (dwrite (HW.get 2 rfl) hfine (by omega) x.at_ (bytesRd (HW.at_ 0 rfl)) (ownSep HW 0 2 (by omega) rfl rfl)) ?_
      clear hS
      rintro e w ⟨rfl, h1, h2⟩
      replace HW := (HW.disk 2 rfl h1 h2).drop (List.sublist_cons_self _ _)
      have hS := HW.drop (L' := []) (List.nil_sublist _)
      refine ⟨_, rfl, hS, ?_⟩
      try simp only [Act.put, List.getElem_toArray, List.getElem_cons_succ, List.getElem_cons_zero, List.setIfInBounds_toArray, List.set_cons_succ, List.set_cons_zero]
      refine wpAnyH_done (by kernel_rfl) ?_ _
      clear H H1 hS h h1 h2
      have H := HW
      clear HW
      go_wp2_with fail
      go_roundw
      case rel => exact ⟨k + 1, by go_num, by omega, by omega, by rw [HS.out]; exact H⟩
      case measure => simp [intOf]; omega
    · obtain ⟨hF2, hO2, hsu⟩ := hend k hk20
      clear hend
      generalize (ys.take k).foldl writeStep D1 = D2 at *
      have hall2 := fun {b bs bm : Nat} {w : World} (h : (DiskA b bs bm D2).says w) => all_any h hF2
      have hl2 : (allD D2).length = 9 := by rw [allD_length, hO2.2]
      rw [hO2.2] at hall2
      have hcc := fun {b bs bm : Nat} {w : World} (h : (DiskA b bs bm D2).says w) => crash_on b bs bm D2 keep torn cut w h hF2.good
      have hsv := fun {i : Nat} (hi : i < 9) => survives_at hF2 keep torn cut (i := i) (by rw [hO2.2]; exact hi)
      have hF3 := hF2.crash keep torn cut
      have hO3 := DS.Open.crash hO2.2 keep torn cut
      have hlen3 : ∀ i (h : i < (allD (D2.crash keep torn cut)).length), (allD (D2.crash keep torn cut))[i].length = 32 := fun i h => by
        rw [allD_at, readR_has (by rw [allD_length] at h; exact h)]
        exact (DS.is_ok hF3.sure (fun p hp => (hF3.pend p hp).1) (by omega) (by rw [allD_length] at h; omega)).1
      have hp3 := crash_pend D2 keep torn cut
      have hread : ∀ i, i < 9 → ∀ (h1 : i < su.length) (h2 : i < (allD D2).length) (h3 : i < (allD (D2.crash keep torn cut)).length), (allD (D2.crash keep torn cut))[i] = su[i] ∨ (allD (D2.crash keep torn cut))[i] = (allD D2)[i] ∨ ((i : Int) = tornKey D2 torn ∧ 0 ≤ cut ∧ cut < 32 ∧ (allD (D2.crash keep torn cut))[i] = (allD D2)[i].take cut.toNat ++ su[i].drop cut.toNat ∧ (allD D2)[i].length = 32 ∧ su[i].length = 32) := fun i hi h1 h2 h3 => by
        rw [allD_at, allD_at, readR_has (by rw [hO3.2]; exact hi), readR_has (by rw [hO2.2]; exact hi), HQ.out.2.2.2 i h1, ← hsu]
        have hok2 : (D2.is (i : Int)).Ok := DS.is_ok hF2.sure (fun p hp => (hF2.pend p hp).1) (by omega) (by rw [hO2.2]; omega)
        have hok1 : (D2.sure.getD i St.zero).Ok := getD_ok hF2.sure i
        rcases hsv hi with h | h | ⟨a, b, c, e⟩
        · exact .inl h
        · exact .inr (.inl h)
        · exact .inr (.inr ⟨a, b, c, e, hok2.1, hok1.1⟩)
      have hpc3 := fun {b bs bm : Nat} {w : World} (h : (DiskA b bs bm (D2.crash keep torn cut)).says w) => pending_any b bs bm (D2.crash keep torn cut) w h
      have hfc3 := fun {b bs bm : Nat} {w : World} (h : (DiskA b bs bm (D2.crash keep torn cut)).says w) => dflush h hF3
      simp only [DS.flushR_on hO3.ne] at hfc3
      rw [show (D2.crash keep torn cut).pend.length = 0 from rfl] at hpc3
      have hall3 := fun {b bs bm : Nat} {w : World} (h : (DiskA b bs bm (D2.crash keep torn cut)).says w) => all_any h hF3
      have hl3 : (allD (D2.crash keep torn cut)).length = 9 := by rw [allD_length, hO3.2]
      rw [hO3.2] at hall3
      generalize D2.crash keep torn cut = D3 at *
      generalize allD D2 = no at *
      generalize allD D3 = is at *
      generalize tornKey D2 torn = TK at *
      have HR := Lib.hid (And.intro hread (And.intro hl2 (And.intro hl3 hlen3)))
      have hkc : (k = ys.length) ∨ (k = 20) := by omega
      clear hread hl2 hl3 hlen3 hsv hF2 hO2 hF3 hO3 hp3 hsu hkn
      have hone : ∃ o : Bool, o = true := ⟨true, rfl⟩
      clear hone
      by_cases hlt : (k : Int) < ys.length
      · have h20 : ¬ ((k : Int) < 20) := by omega
        go_wp2_with (first
          | (go_at_call 26; refine (hall3 (H.get 2 rfl)).mono ?_; rintro e w ⟨v3, rfl, h1, h2⟩; obtain ⟨A3, c3, rfl⟩ := rowLen h1 HR.out.2.2.1; replace H := H.addOwn h2 h1; clear h1 h2)
          | (go_at_call 26; refine (hall2 (H.get 1 rfl)).mono ?_; rintro e w ⟨v2', rfl, h1, h2⟩; obtain ⟨A2, c2, rfl⟩ := rowLen h1 HR.out.2.1; replace H := H.addOwn h2 h1; clear h1 h2)
          | (go_at_call 29; refine (hcc (H.get 2 rfl)).mono ?_; rintro e w ⟨rfl, h1, h2⟩; replace H := H.disk 2 rfl h1 h2; clear h1 h2; simp only [List.set_cons_succ, List.set_cons_zero] at H))
        clear hall2 hall3 hcc
        go_loopw [16, 17] (fun vm vi wr => SvRel2 b bs bm D3 TK A1 A2 A3 c1 c2 c3 su no is w0 vm vi wr) (fun _ vi _ => 9 - (intOf vi).toNat)
        case atStart => exact ⟨0, 0, rfl, rfl, by omega, by omega, fun h => by omega, H⟩
        case round =>
          clear H
          obtain ⟨i, m, rfl, rfl, hi, hm1, hmT, H⟩ := hrel
          by_cases hi9 : i < 9
          · have hii : (i : Int) < 9 := by omega
            have hi1 : i < su.length := by rw [HQ.out.2.2.1]; exact hi9
            have hi2 : i < no.length := by rw [HR.out.2.1]; exact hi9
            have hi3 : i < is.length := by rw [HR.out.2.2.1]; exact hi9
            obtain ⟨p1, o1, _, _, _, rfl, _, _⟩ := (rdAll HQ.out.2.2.1.symm (H.get 2 rfl)).cell hi1
            obtain ⟨p2, o2, _, _, _, rfl, _, _⟩ := (rdAll HR.out.2.1.symm (H.get 1 rfl)).cell hi2
            obtain ⟨p3, o3, _, _, _, rfl, _, _⟩ := (rdAll HR.out.2.2.1.symm (H.get 0 rfl)).cell hi3
            have hrd := HR.out.1 i hi9 hi1 hi2 hi3
            have hl32 := HR.out.2.2.2 i hi3
            obtain ⟨s1, hs1⟩ : ∃ s1, strOfNums su[i] = s1 := ⟨_, rfl⟩
            obtain ⟨s2, hs2⟩ : ∃ s2, strOfNums no[i] = s2 := ⟨_, rfl⟩
            obtain ⟨s3, hs3⟩ : ∃ s3, strOfNums is[i] = s3 := ⟨_, rfl⟩
            have hv1 : encS su[i] = [.string s1] := by rw [← hs1]; rfl
            have hv2 : encS no[i] = [.string s2] := by rw [← hs2]; rfl
            have hv3 : encS is[i] = [.string s3] := by rw [← hs3]; rfl
            by_cases hA : s3.toList = s1.toList
            · clear hrd hl32 hs1 hs2 hs3
              go_wp2_with fail
              refine D_start H (by kernel_rfl) (fun hS => ?_)
              try simp only [Act.put, List.setIfInBounds_toArray, List.set_cons_succ, List.set_cons_zero]
              refine D_take 0 (v := ?_) rfl (by kernel_rfl) (by kernel_rfl) (by kernel_rfl) (fun _ _ _ h => h) rfl (by rfl) (fun W hS => ?_) hS ?_
              rotate_left; (focus (first | (go_simp; done) | (go_simp; with_reducible rfl) | (go_simp; rfl))); all_goals skip; (try simp only [List.set_cons_succ, List.set_cons_zero])
              refine D_take 1 (v := ?_) rfl (by kernel_rfl) (by kernel_rfl) (by kernel_rfl) (fun _ _ _ h => h) rfl (by rfl) (fun W hS => ?_) hS ?_
              rotate_left; (focus (first | (go_simp; done) | (go_simp; with_reducible rfl) | (go_simp; rfl))); all_goals skip; (try simp only [List.set_cons_succ, List.set_cons_zero])
              refine D_take 2 (v := ?_) rfl (by kernel_rfl) (by kernel_rfl) (by kernel_rfl) (fun _ _ _ h => h) rfl (by rfl) (fun W hS => ?_) hS ?_
              rotate_left; (focus (first | (go_simp; done) | (go_simp; with_reducible rfl) | (go_simp; rfl))); all_goals skip; (try simp only [List.set_cons_succ, List.set_cons_zero])
              refine D_take 3 (v := (.string s3)) rfl (by kernel_rfl) (by kernel_rfl) (by kernel_rfl) (fun _ _ _ h => h) rfl (by rfl) (fun W hS => R_loadRd (ty := 9) (x := .tmp 82) rfl (rdAll HR.out.2.2.1.symm (hS.get 0 rfl)) hi3 rfl hv3 Try.isAgg9) hS ?_; (try simp only [List.set_cons_succ, List.set_cons_zero])
              refine D_take 4 (v := ?_) rfl (by kernel_rfl) (by kernel_rfl) (by kernel_rfl) (fun _ _ _ h => h) rfl (by rfl) (fun W hS => ?_) hS ?_
              rotate_left; (focus (first | (go_simp; done) | (go_simp; with_reducible rfl) | (go_simp; rfl))); all_goals skip; (try simp only [List.set_cons_succ, List.set_cons_zero])
              refine D_take 5 (v := ?_) rfl (by kernel_rfl) (by kernel_rfl) (by kernel_rfl) (fun _ _ _ h => h) rfl (by rfl) (fun W hS => ?_) hS ?_
              rotate_left; (focus (first | (go_simp; done) | (go_simp; with_reducible rfl) | (go_simp; rfl))); all_goals skip; (try simp only [List.set_cons_succ, List.set_cons_zero])
              refine D_take 6 (v := ?_) rfl (by kernel_rfl) (by kernel_rfl) (by kernel_rfl) (fun _ _ _ h => h) rfl (by rfl) (fun W hS => ?_) hS ?_
              rotate_left; (focus (first | (go_simp; done) | (go_simp; with_reducible rfl) | (go_simp; rfl))); all_goals skip; (try simp only [List.set_cons_succ, List.set_cons_zero])
              refine D_take 7 (v := (.string s1)) rfl (by kernel_rfl) (by kernel_rfl) (by kernel_rfl) (fun _ _ _ h => h) rfl (by rfl) (fun W hS => R_loadRd (ty := 9) (x := .tmp 86) rfl (rdAll HQ.out.2.2.1.symm (hS.get 2 rfl)) hi1 rfl hv1 Try.isAgg9) hS ?_; (try simp only [List.set_cons_succ, List.set_cons_zero])
              refine D_take 8 (v := (.bool true)) rfl (by kernel_rfl) (by kernel_rfl) (by kernel_rfl) (fun _ _ _ h => h) rfl (by rfl) (fun W hS => by first | (go_simp; done) | (go_simp; exact hA)) hS ?_; (try simp only [List.set_cons_succ, List.set_cons_zero])
              refine D_take 9 (v := ?_) rfl (by kernel_rfl) (by kernel_rfl) (by kernel_rfl) (fun _ _ _ h => h) rfl (by rfl) (fun W hS => ?_) hS ?_
              rotate_left; (focus (first | (go_simp; done) | (go_simp; with_reducible rfl) | (go_simp; rfl))); all_goals skip; (try simp only [List.set_cons_succ, List.set_cons_zero])
              refine D_skip 10 rfl (by kernel_rfl) (by kernel_rfl) (by kernel_rfl) (fun _ _ _ h => h) rfl (by rfl) hS ?_; (try simp only [List.set_cons_succ, List.set_cons_zero])
              refine D_skip 11 rfl (by kernel_rfl) (by kernel_rfl) (by kernel_rfl) (fun _ _ _ h => h) rfl (by rfl) hS ?_; (try simp only [List.set_cons_succ, List.set_cons_zero])
              refine D_skip 12 rfl (by kernel_rfl) (by kernel_rfl) (by kernel_rfl) (fun _ _ _ h => h) rfl (by rfl) hS ?_; (try simp only [List.set_cons_succ, List.set_cons_zero])
              refine D_skip 13 rfl (by kernel_rfl) (by kernel_rfl) (by kernel_rfl) (fun _ _ _ h => h) rfl (by rfl) hS ?_; (try simp only [List.set_cons_succ, List.set_cons_zero])
              refine D_skip 14 rfl (by kernel_rfl) (by kernel_rfl) (by kernel_rfl) (fun _ _ _ h => h) rfl (by rfl) hS ?_; (try simp only [List.set_cons_succ, List.set_cons_zero])
              refine D_skip 15 rfl (by kernel_rfl) (by kernel_rfl) (by kernel_rfl) (fun _ _ _ h => h) rfl (by rfl) hS ?_; (try simp only [List.set_cons_succ, List.set_cons_zero])
              refine D_skip 16 rfl (by kernel_rfl) (by kernel_rfl) (by kernel_rfl) (fun _ _ _ h => h) rfl (by rfl) hS ?_; (try simp only [List.set_cons_succ, List.set_cons_zero])
              refine D_skip 17 rfl (by kernel_rfl) (by kernel_rfl) (by kernel_rfl) (fun _ _ _ h => h) rfl (by rfl) hS ?_; (try simp only [List.set_cons_succ, List.set_cons_zero])
              refine D_skip 18 rfl (by kernel_rfl) (by kernel_rfl) (by kernel_rfl) (fun _ _ _ h => h) rfl (by rfl) hS ?_; (try simp only [List.set_cons_succ, List.set_cons_zero])
              refine D_take 19 (v := ?_) rfl (by kernel_rfl) (by kernel_rfl) (by kernel_rfl) (fun _ _ _ h => h) rfl (by rfl) (fun W hS => ?_) hS ?_
              rotate_left; (focus (first | (go_simp; done) | (go_simp; with_reducible rfl) | (go_simp; rfl))); all_goals skip; (try simp only [List.set_cons_succ, List.set_cons_zero])
              refine wpAnyH_done (by kernel_rfl) ?_ _
              replace H := H.drew
              go_wp2_with fail
              go_roundw
              case rel => exact ⟨i + 1, m, by go_num, rfl, by omega, hm1, fun h => by have := hmT h; omega, H⟩
              case measure => simp [intOf]; omega
            · by_cases hB : s3.toList = s2.toList
              · clear hrd hl32 hs1 hs2 hs3
                have hA2 : ¬ s2.toList = s1.toList := fun h => hA (hB.trans h)
                go_wp2_with fail
                refine D_start H (by kernel_rfl) (fun hS => ?_)
                try simp only [Act.put, List.setIfInBounds_toArray, List.set_cons_succ, List.set_cons_zero]
                refine D_take 0 (v := ?_) rfl (by kernel_rfl) (by kernel_rfl) (by kernel_rfl) (fun _ _ _ h => h) rfl (by rfl) (fun W hS => ?_) hS ?_
                rotate_left; (focus (first | (go_simp; done) | (go_simp; with_reducible rfl) | (go_simp; rfl))); all_goals skip; (try simp only [List.set_cons_succ, List.set_cons_zero])
                refine D_take 1 (v := ?_) rfl (by kernel_rfl) (by kernel_rfl) (by kernel_rfl) (fun _ _ _ h => h) rfl (by rfl) (fun W hS => ?_) hS ?_
                rotate_left; (focus (first | (go_simp; done) | (go_simp; with_reducible rfl) | (go_simp; rfl))); all_goals skip; (try simp only [List.set_cons_succ, List.set_cons_zero])
                refine D_take 2 (v := ?_) rfl (by kernel_rfl) (by kernel_rfl) (by kernel_rfl) (fun _ _ _ h => h) rfl (by rfl) (fun W hS => ?_) hS ?_
                rotate_left; (focus (first | (go_simp; done) | (go_simp; with_reducible rfl) | (go_simp; rfl))); all_goals skip; (try simp only [List.set_cons_succ, List.set_cons_zero])
                refine D_take 3 (v := (.string s3)) rfl (by kernel_rfl) (by kernel_rfl) (by kernel_rfl) (fun _ _ _ h => h) rfl (by rfl) (fun W hS => R_loadRd (ty := 9) (x := .tmp 82) rfl (rdAll HR.out.2.2.1.symm (hS.get 0 rfl)) hi3 rfl hv3 Try.isAgg9) hS ?_; (try simp only [List.set_cons_succ, List.set_cons_zero])
                refine D_take 4 (v := ?_) rfl (by kernel_rfl) (by kernel_rfl) (by kernel_rfl) (fun _ _ _ h => h) rfl (by rfl) (fun W hS => ?_) hS ?_
                rotate_left; (focus (first | (go_simp; done) | (go_simp; with_reducible rfl) | (go_simp; rfl))); all_goals skip; (try simp only [List.set_cons_succ, List.set_cons_zero])
                refine D_take 5 (v := ?_) rfl (by kernel_rfl) (by kernel_rfl) (by kernel_rfl) (fun _ _ _ h => h) rfl (by rfl) (fun W hS => ?_) hS ?_
                rotate_left; (focus (first | (go_simp; done) | (go_simp; with_reducible rfl) | (go_simp; rfl))); all_goals skip; (try simp only [List.set_cons_succ, List.set_cons_zero])
                refine D_take 6 (v := ?_) rfl (by kernel_rfl) (by kernel_rfl) (by kernel_rfl) (fun _ _ _ h => h) rfl (by rfl) (fun W hS => ?_) hS ?_
                rotate_left; (focus (first | (go_simp; done) | (go_simp; with_reducible rfl) | (go_simp; rfl))); all_goals skip; (try simp only [List.set_cons_succ, List.set_cons_zero])
                refine D_take 7 (v := (.string s1)) rfl (by kernel_rfl) (by kernel_rfl) (by kernel_rfl) (fun _ _ _ h => h) rfl (by rfl) (fun W hS => R_loadRd (ty := 9) (x := .tmp 86) rfl (rdAll HQ.out.2.2.1.symm (hS.get 2 rfl)) hi1 rfl hv1 Try.isAgg9) hS ?_; (try simp only [List.set_cons_succ, List.set_cons_zero])
                refine D_take 8 (v := (.bool false)) rfl (by kernel_rfl) (by kernel_rfl) (by kernel_rfl) (fun _ _ _ h => h) rfl (by rfl) (fun W hS => by first | (go_simp; done) | (go_simp; exact hA) | (go_simp; exact hA2)) hS ?_; (try simp only [List.set_cons_succ, List.set_cons_zero])
                refine D_take 9 (v := ?_) rfl (by kernel_rfl) (by kernel_rfl) (by kernel_rfl) (fun _ _ _ h => h) rfl (by rfl) (fun W hS => ?_) hS ?_
                rotate_left; (focus (first | (go_simp; done) | (go_simp; with_reducible rfl) | (go_simp; rfl))); all_goals skip; (try simp only [List.set_cons_succ, List.set_cons_zero])
                refine D_take 10 (v := ?_) rfl (by kernel_rfl) (by kernel_rfl) (by kernel_rfl) (fun _ _ _ h => h) rfl (by rfl) (fun W hS => ?_) hS ?_
                rotate_left; (focus (first | (go_simp; done) | (go_simp; with_reducible rfl) | (go_simp; rfl))); all_goals skip; (try simp only [List.set_cons_succ, List.set_cons_zero])
                refine D_take 11 (v := ?_) rfl (by kernel_rfl) (by kernel_rfl) (by kernel_rfl) (fun _ _ _ h => h) rfl (by rfl) (fun W hS => ?_) hS ?_
                rotate_left; (focus (first | (go_simp; done) | (go_simp; with_reducible rfl) | (go_simp; rfl))); all_goals skip; (try simp only [List.set_cons_succ, List.set_cons_zero])
                refine D_take 12 (v := ?_) rfl (by kernel_rfl) (by kernel_rfl) (by kernel_rfl) (fun _ _ _ h => h) rfl (by rfl) (fun W hS => ?_) hS ?_
                rotate_left; (focus (first | (go_simp; done) | (go_simp; with_reducible rfl) | (go_simp; rfl))); all_goals skip; (try simp only [List.set_cons_succ, List.set_cons_zero])
                refine D_take 13 (v := (.string s3)) rfl (by kernel_rfl) (by kernel_rfl) (by kernel_rfl) (fun _ _ _ h => h) rfl (by rfl) (fun W hS => R_loadRd (ty := 9) (x := .tmp 92) rfl (rdAll HR.out.2.2.1.symm (hS.get 0 rfl)) hi3 rfl hv3 Try.isAgg9) hS ?_; (try simp only [List.set_cons_succ, List.set_cons_zero])
                refine D_take 14 (v := ?_) rfl (by kernel_rfl) (by kernel_rfl) (by kernel_rfl) (fun _ _ _ h => h) rfl (by rfl) (fun W hS => ?_) hS ?_
                rotate_left; (focus (first | (go_simp; done) | (go_simp; with_reducible rfl) | (go_simp; rfl))); all_goals skip; (try simp only [List.set_cons_succ, List.set_cons_zero])
                refine D_take 15 (v := ?_) rfl (by kernel_rfl) (by kernel_rfl) (by kernel_rfl) (fun _ _ _ h => h) rfl (by rfl) (fun W hS => ?_) hS ?_
                rotate_left; (focus (first | (go_simp; done) | (go_simp; with_reducible rfl) | (go_simp; rfl))); all_goals skip; (try simp only [List.set_cons_succ, List.set_cons_zero])
                refine D_take 16 (v := ?_) rfl (by kernel_rfl) (by kernel_rfl) (by kernel_rfl) (fun _ _ _ h => h) rfl (by rfl) (fun W hS => ?_) hS ?_
                rotate_left; (focus (first | (go_simp; done) | (go_simp; with_reducible rfl) | (go_simp; rfl))); all_goals skip; (try simp only [List.set_cons_succ, List.set_cons_zero])
                refine D_take 17 (v := (.string s2)) rfl (by kernel_rfl) (by kernel_rfl) (by kernel_rfl) (fun _ _ _ h => h) rfl (by rfl) (fun W hS => R_loadRd (ty := 9) (x := .tmp 96) rfl (rdAll HR.out.2.1.symm (hS.get 1 rfl)) hi2 rfl hv2 Try.isAgg9) hS ?_; (try simp only [List.set_cons_succ, List.set_cons_zero])
                refine D_take 18 (v := (.bool true)) rfl (by kernel_rfl) (by kernel_rfl) (by kernel_rfl) (fun _ _ _ h => h) rfl (by rfl) (fun W hS => by first | (go_simp; done) | (go_simp; exact hB)) hS ?_; (try simp only [List.set_cons_succ, List.set_cons_zero])
                refine D_take 19 (v := ?_) rfl (by kernel_rfl) (by kernel_rfl) (by kernel_rfl) (fun _ _ _ h => h) rfl (by rfl) (fun W hS => ?_) hS ?_
                rotate_left; (focus (first | (go_simp; done) | (go_simp; with_reducible rfl) | (go_simp; rfl))); all_goals skip; (try simp only [List.set_cons_succ, List.set_cons_zero])
                refine wpAnyH_done (by kernel_rfl) ?_ _
                replace H := H.drew
                go_wp2_with fail
                go_roundw
                case rel => exact ⟨i + 1, m, by go_num, rfl, by omega, hm1, fun h => by have := hmT h; omega, H⟩
                case measure => simp [intOf]; omega
              · obtain ⟨hT, hc0, hc32, hbytes, hn32, hu32⟩ : (i : Int) = TK ∧ 0 ≤ cut ∧ cut < 32 ∧ is[i] = no[i].take cut.toNat ++ su[i].drop cut.toNat ∧ no[i].length = 32 ∧ su[i].length = 32 := by
                  rcases hrd with h | h | h
                  · exact absurd (by rw [← hs1, ← hs3, h]) hA
                  · exact absurd (by rw [← hs2, ← hs3, h]) hB
                  · exact h
                have HT := Lib.hid (And.intro hT (And.intro hc0 (And.intro hc32 (And.intro hbytes (And.intro hn32 (And.intro hu32 (And.intro hl32 (And.intro hs1 (And.intro hs2 hs3)))))))))
                clear hrd hT hc0 hc32 hbytes hn32 hu32 hl32 hs1 hs2 hs3
                go_wp2_with fail
                refine D_start H (by kernel_rfl) (fun hS => ?_)
                try simp only [Act.put, List.setIfInBounds_toArray, List.set_cons_succ, List.set_cons_zero]
                refine D_take 0 (v := ?_) rfl (by kernel_rfl) (by kernel_rfl) (by kernel_rfl) (fun _ _ _ h => h) rfl (by rfl) (fun W hS => ?_) hS ?_
                rotate_left; (focus (first | (go_simp; done) | (go_simp; with_reducible rfl) | (go_simp; rfl))); all_goals skip; (try simp only [List.set_cons_succ, List.set_cons_zero])
                refine D_take 1 (v := ?_) rfl (by kernel_rfl) (by kernel_rfl) (by kernel_rfl) (fun _ _ _ h => h) rfl (by rfl) (fun W hS => ?_) hS ?_
                rotate_left; (focus (first | (go_simp; done) | (go_simp; with_reducible rfl) | (go_simp; rfl))); all_goals skip; (try simp only [List.set_cons_succ, List.set_cons_zero])
                refine D_take 2 (v := ?_) rfl (by kernel_rfl) (by kernel_rfl) (by kernel_rfl) (fun _ _ _ h => h) rfl (by rfl) (fun W hS => ?_) hS ?_
                rotate_left; (focus (first | (go_simp; done) | (go_simp; with_reducible rfl) | (go_simp; rfl))); all_goals skip; (try simp only [List.set_cons_succ, List.set_cons_zero])
                refine D_take 3 (v := (.string s3)) rfl (by kernel_rfl) (by kernel_rfl) (by kernel_rfl) (fun _ _ _ h => h) rfl (by rfl) (fun W hS => R_loadRd (ty := 9) (x := .tmp 82) rfl (rdAll HR.out.2.2.1.symm (hS.get 0 rfl)) hi3 rfl hv3 Try.isAgg9) hS ?_; (try simp only [List.set_cons_succ, List.set_cons_zero])
                refine D_take 4 (v := ?_) rfl (by kernel_rfl) (by kernel_rfl) (by kernel_rfl) (fun _ _ _ h => h) rfl (by rfl) (fun W hS => ?_) hS ?_
                rotate_left; (focus (first | (go_simp; done) | (go_simp; with_reducible rfl) | (go_simp; rfl))); all_goals skip; (try simp only [List.set_cons_succ, List.set_cons_zero])
                refine D_take 5 (v := ?_) rfl (by kernel_rfl) (by kernel_rfl) (by kernel_rfl) (fun _ _ _ h => h) rfl (by rfl) (fun W hS => ?_) hS ?_
                rotate_left; (focus (first | (go_simp; done) | (go_simp; with_reducible rfl) | (go_simp; rfl))); all_goals skip; (try simp only [List.set_cons_succ, List.set_cons_zero])
                refine D_take 6 (v := ?_) rfl (by kernel_rfl) (by kernel_rfl) (by kernel_rfl) (fun _ _ _ h => h) rfl (by rfl) (fun W hS => ?_) hS ?_
                rotate_left; (focus (first | (go_simp; done) | (go_simp; with_reducible rfl) | (go_simp; rfl))); all_goals skip; (try simp only [List.set_cons_succ, List.set_cons_zero])
                refine D_take 7 (v := (.string s1)) rfl (by kernel_rfl) (by kernel_rfl) (by kernel_rfl) (fun _ _ _ h => h) rfl (by rfl) (fun W hS => R_loadRd (ty := 9) (x := .tmp 86) rfl (rdAll HQ.out.2.2.1.symm (hS.get 2 rfl)) hi1 rfl hv1 Try.isAgg9) hS ?_; (try simp only [List.set_cons_succ, List.set_cons_zero])
                refine D_take 8 (v := (.bool false)) rfl (by kernel_rfl) (by kernel_rfl) (by kernel_rfl) (fun _ _ _ h => h) rfl (by rfl) (fun W hS => by first | (go_simp; done) | (go_simp; exact hA)) hS ?_; (try simp only [List.set_cons_succ, List.set_cons_zero])
                refine D_take 9 (v := ?_) rfl (by kernel_rfl) (by kernel_rfl) (by kernel_rfl) (fun _ _ _ h => h) rfl (by rfl) (fun W hS => ?_) hS ?_
                rotate_left; (focus (first | (go_simp; done) | (go_simp; with_reducible rfl) | (go_simp; rfl))); all_goals skip; (try simp only [List.set_cons_succ, List.set_cons_zero])
                refine D_take 10 (v := ?_) rfl (by kernel_rfl) (by kernel_rfl) (by kernel_rfl) (fun _ _ _ h => h) rfl (by rfl) (fun W hS => ?_) hS ?_
                rotate_left; (focus (first | (go_simp; done) | (go_simp; with_reducible rfl) | (go_simp; rfl))); all_goals skip; (try simp only [List.set_cons_succ, List.set_cons_zero])
                refine D_take 11 (v := ?_) rfl (by kernel_rfl) (by kernel_rfl) (by kernel_rfl) (fun _ _ _ h => h) rfl (by rfl) (fun W hS => ?_) hS ?_
                rotate_left; (focus (first | (go_simp; done) | (go_simp; with_reducible rfl) | (go_simp; rfl))); all_goals skip; (try simp only [List.set_cons_succ, List.set_cons_zero])
                refine D_take 12 (v := ?_) rfl (by kernel_rfl) (by kernel_rfl) (by kernel_rfl) (fun _ _ _ h => h) rfl (by rfl) (fun W hS => ?_) hS ?_
                rotate_left; (focus (first | (go_simp; done) | (go_simp; with_reducible rfl) | (go_simp; rfl))); all_goals skip; (try simp only [List.set_cons_succ, List.set_cons_zero])
                refine D_take 13 (v := (.string s3)) rfl (by kernel_rfl) (by kernel_rfl) (by kernel_rfl) (fun _ _ _ h => h) rfl (by rfl) (fun W hS => R_loadRd (ty := 9) (x := .tmp 92) rfl (rdAll HR.out.2.2.1.symm (hS.get 0 rfl)) hi3 rfl hv3 Try.isAgg9) hS ?_; (try simp only [List.set_cons_succ, List.set_cons_zero])
                refine D_take 14 (v := ?_) rfl (by kernel_rfl) (by kernel_rfl) (by kernel_rfl) (fun _ _ _ h => h) rfl (by rfl) (fun W hS => ?_) hS ?_
                rotate_left; (focus (first | (go_simp; done) | (go_simp; with_reducible rfl) | (go_simp; rfl))); all_goals skip; (try simp only [List.set_cons_succ, List.set_cons_zero])
                refine D_take 15 (v := ?_) rfl (by kernel_rfl) (by kernel_rfl) (by kernel_rfl) (fun _ _ _ h => h) rfl (by rfl) (fun W hS => ?_) hS ?_
                rotate_left; (focus (first | (go_simp; done) | (go_simp; with_reducible rfl) | (go_simp; rfl))); all_goals skip; (try simp only [List.set_cons_succ, List.set_cons_zero])
                refine D_take 16 (v := ?_) rfl (by kernel_rfl) (by kernel_rfl) (by kernel_rfl) (fun _ _ _ h => h) rfl (by rfl) (fun W hS => ?_) hS ?_
                rotate_left; (focus (first | (go_simp; done) | (go_simp; with_reducible rfl) | (go_simp; rfl))); all_goals skip; (try simp only [List.set_cons_succ, List.set_cons_zero])
                refine D_take 17 (v := (.string s2)) rfl (by kernel_rfl) (by kernel_rfl) (by kernel_rfl) (fun _ _ _ h => h) rfl (by rfl) (fun W hS => R_loadRd (ty := 9) (x := .tmp 96) rfl (rdAll HR.out.2.1.symm (hS.get 1 rfl)) hi2 rfl hv2 Try.isAgg9) hS ?_; (try simp only [List.set_cons_succ, List.set_cons_zero])
                refine D_take 18 (v := (.bool false)) rfl (by kernel_rfl) (by kernel_rfl) (by kernel_rfl) (fun _ _ _ h => h) rfl (by rfl) (fun W hS => by first | (go_simp; done) | (go_simp; exact hB)) hS ?_; (try simp only [List.set_cons_succ, List.set_cons_zero])
                refine D_take 19 (v := ?_) rfl (by kernel_rfl) (by kernel_rfl) (by kernel_rfl) (fun _ _ _ h => h) rfl (by rfl) (fun W hS => ?_) hS ?_
                rotate_left; (focus (first | (go_simp; done) | (go_simp; with_reducible rfl) | (go_simp; rfl))); all_goals skip; (try simp only [List.set_cons_succ, List.set_cons_zero])
                refine wpAnyH_done (by kernel_rfl) ?_ _
                replace H := H.drew
                go_wp2_with fail
                have hsz1 : s1.size = 32 := by rw [← HT.out.2.2.2.2.2.2.2.1, strOfNums_size]; exact HT.out.2.2.2.2.2.1
                have hsz2 : s2.size = 32 := by rw [← HT.out.2.2.2.2.2.2.2.2.1, strOfNums_size]; exact HT.out.2.2.2.2.1
                have hsz3 : s3.size = 32 := by rw [← HT.out.2.2.2.2.2.2.2.2.2, strOfNums_size]; exact HT.out.2.2.2.2.2.2.1
                have hc0 := HT.out.2.1
                have hc32 := HT.out.2.2.1
                have hcn : ¬ (cut < 0) := by omega
                have hcn2 : ¬ (32 < cut) := by omega
                have hc33 : cut ≤ 32 := by omega
                have HE : Hid (s3.toList = (s2.extract 0 cut.toNat ++ s1.extract cut.toNat 32).toList) := Lib.hid (by
                  rw [← HT.out.2.2.2.2.2.2.2.1, ← HT.out.2.2.2.2.2.2.2.2.1, ← HT.out.2.2.2.2.2.2.2.2.2, HT.out.2.2.2.1, strOfNums_cut _ _ _ HT.out.2.2.2.2.2.1 (by omega)])
                clear hA hB
                refine D_start H (by kernel_rfl) (fun hS => ?_)
                try simp only [Act.put, List.setIfInBounds_toArray, List.set_cons_succ, List.set_cons_zero]
                refine D_take 0 (v := ?_) rfl (by kernel_rfl) (by kernel_rfl) (by kernel_rfl) (fun _ _ _ h => h) rfl (by rfl) (fun W hS => ?_) hS ?_
                rotate_left; (focus (first | (go_simp; done) | (go_simp; with_reducible rfl) | (go_simp; rfl))); all_goals skip; (try simp only [List.set_cons_succ, List.set_cons_zero])
                refine D_take 1 (v := ?_) rfl (by kernel_rfl) (by kernel_rfl) (by kernel_rfl) (fun _ _ _ h => h) rfl (by rfl) (fun W hS => ?_) hS ?_
                rotate_left; (focus (first | (go_simp; done) | (go_simp; with_reducible rfl) | (go_simp; rfl))); all_goals skip; (try simp only [List.set_cons_succ, List.set_cons_zero])
                refine D_take 2 (v := ?_) rfl (by kernel_rfl) (by kernel_rfl) (by kernel_rfl) (fun _ _ _ h => h) rfl (by rfl) (fun W hS => ?_) hS ?_
                rotate_left; (focus (first | (go_simp; done) | (go_simp; with_reducible rfl) | (go_simp; rfl))); all_goals skip; (try simp only [List.set_cons_succ, List.set_cons_zero])
                refine D_take 3 (v := ?_) rfl (by kernel_rfl) (by kernel_rfl) (by kernel_rfl) (fun _ _ _ h => h) rfl (by rfl) (fun W hS => ?_) hS ?_
                rotate_left; (focus (first | (go_simp; done) | (go_simp; with_reducible rfl) | (go_simp; rfl))); all_goals skip; (try simp only [List.set_cons_succ, List.set_cons_zero])
                refine D_take 4 (v := ?_) rfl (by kernel_rfl) (by kernel_rfl) (by kernel_rfl) (fun _ _ _ h => h) rfl (by rfl) (fun W hS => ?_) hS ?_
                rotate_left; (focus (first | (go_simp; done) | (go_simp; with_reducible rfl) | (go_simp; rfl))); all_goals skip; (try simp only [List.set_cons_succ, List.set_cons_zero])
                refine D_take 5 (v := ?_) rfl (by kernel_rfl) (by kernel_rfl) (by kernel_rfl) (fun _ _ _ h => h) rfl (by rfl) (fun W hS => ?_) hS ?_
                rotate_left; (focus (first | (go_simp; done) | (go_simp; with_reducible rfl) | (go_simp; rfl))); all_goals skip; (try simp only [List.set_cons_succ, List.set_cons_zero])
                refine D_take 6 (v := ?_) rfl (by kernel_rfl) (by kernel_rfl) (by kernel_rfl) (fun _ _ _ h => h) rfl (by rfl) (fun W hS => ?_) hS ?_
                rotate_left; (focus (first | (go_simp; done) | (go_simp; with_reducible rfl) | (go_simp; rfl))); all_goals skip; (try simp only [List.set_cons_succ, List.set_cons_zero])
                refine D_take 7 (v := ?_) rfl (by kernel_rfl) (by kernel_rfl) (by kernel_rfl) (fun _ _ _ h => h) rfl (by rfl) (fun W hS => ?_) hS ?_
                rotate_left; (focus (first | (go_simp; done) | (go_simp; with_reducible rfl) | (go_simp; rfl))); all_goals skip; (try simp only [List.set_cons_succ, List.set_cons_zero])
                refine D_take 8 (v := ?_) rfl (by kernel_rfl) (by kernel_rfl) (by kernel_rfl) (fun _ _ _ h => h) rfl (by rfl) (fun W hS => ?_) hS ?_
                rotate_left; (focus (first | (go_simp; done) | (go_simp; with_reducible rfl) | (go_simp; rfl))); all_goals skip; (try simp only [List.set_cons_succ, List.set_cons_zero])
                refine D_take 9 (v := ?_) rfl (by kernel_rfl) (by kernel_rfl) (by kernel_rfl) (fun _ _ _ h => h) rfl (by rfl) (fun W hS => ?_) hS ?_
                rotate_left; (focus (first | (go_simp; done) | (go_simp; with_reducible rfl) | (go_simp; rfl))); all_goals skip; (try simp only [List.set_cons_succ, List.set_cons_zero])
                refine D_take 10 (v := (.string s3)) rfl (by kernel_rfl) (by kernel_rfl) (by kernel_rfl) (fun _ _ _ h => h) rfl (by rfl) (fun W hS => R_loadRd (ty := 9) (x := .tmp 112) rfl (rdAll HR.out.2.2.1.symm (hS.get 0 rfl)) hi3 rfl hv3 Try.isAgg9) hS ?_; (try simp only [List.set_cons_succ, List.set_cons_zero])
                refine D_take 11 (v := ?_) rfl (by kernel_rfl) (by kernel_rfl) (by kernel_rfl) (fun _ _ _ h => h) rfl (by rfl) (fun W hS => ?_) hS ?_
                rotate_left; (focus (first | (go_simp; done) | (go_simp; with_reducible rfl) | (go_simp; rfl))); all_goals skip; (try simp only [List.set_cons_succ, List.set_cons_zero])
                refine D_take 12 (v := ?_) rfl (by kernel_rfl) (by kernel_rfl) (by kernel_rfl) (fun _ _ _ h => h) rfl (by rfl) (fun W hS => ?_) hS ?_
                rotate_left; (focus (first | (go_simp; done) | (go_simp; with_reducible rfl) | (go_simp; rfl))); all_goals skip; (try simp only [List.set_cons_succ, List.set_cons_zero])
                refine D_take 13 (v := ?_) rfl (by kernel_rfl) (by kernel_rfl) (by kernel_rfl) (fun _ _ _ h => h) rfl (by rfl) (fun W hS => ?_) hS ?_
                rotate_left; (focus (first | (go_simp; done) | (go_simp; with_reducible rfl) | (go_simp; rfl))); all_goals skip; (try simp only [List.set_cons_succ, List.set_cons_zero])
                refine D_take 14 (v := ?_) rfl (by kernel_rfl) (by kernel_rfl) (by kernel_rfl) (fun _ _ _ h => h) rfl (by rfl) (fun W hS => ?_) hS ?_
                rotate_left; (focus (first | (go_simp; done) | (go_simp; with_reducible rfl) | (go_simp; rfl))); all_goals skip; (try simp only [List.set_cons_succ, List.set_cons_zero])
                refine D_take 15 (v := ?_) rfl (by kernel_rfl) (by kernel_rfl) (by kernel_rfl) (fun _ _ _ h => h) rfl (by rfl) (fun W hS => ?_) hS ?_
                rotate_left; (focus (first | (go_simp; done) | (go_simp; with_reducible rfl) | (go_simp; rfl))); all_goals skip; (try simp only [List.set_cons_succ, List.set_cons_zero])
                refine D_take 16 (v := ?_) rfl (by kernel_rfl) (by kernel_rfl) (by kernel_rfl) (fun _ _ _ h => h) rfl (by rfl) (fun W hS => ?_) hS ?_
                rotate_left; (focus (first | (go_simp; done) | (go_simp; with_reducible rfl) | (go_simp; rfl))); all_goals skip; (try simp only [List.set_cons_succ, List.set_cons_zero])
                refine D_take 17 (v := ?_) rfl (by kernel_rfl) (by kernel_rfl) (by kernel_rfl) (fun _ _ _ h => h) rfl (by rfl) (fun W hS => ?_) hS ?_
                rotate_left; (focus (first | (go_simp; done) | (go_simp; with_reducible rfl) | (go_simp; rfl))); all_goals skip; (try simp only [List.set_cons_succ, List.set_cons_zero])
                refine D_take 18 (v := (.string s3)) rfl (by kernel_rfl) (by kernel_rfl) (by kernel_rfl) (fun _ _ _ h => h) rfl (by rfl) (fun W hS => R_loadRd (ty := 9) (x := .tmp 120) rfl (rdAll HR.out.2.2.1.symm (hS.get 0 rfl)) hi3 rfl hv3 Try.isAgg9) hS ?_; (try simp only [List.set_cons_succ, List.set_cons_zero])
                refine D_take 19 (v := ?_) rfl (by kernel_rfl) (by kernel_rfl) (by kernel_rfl) (fun _ _ _ h => h) rfl (by rfl) (fun W hS => ?_) hS ?_
                rotate_left; (focus (first | (go_simp; done) | (go_simp; with_reducible rfl) | (go_simp; rfl))); all_goals skip; (try simp only [List.set_cons_succ, List.set_cons_zero])
                refine D_take 20 (v := ?_) rfl (by kernel_rfl) (by kernel_rfl) (by kernel_rfl) (fun _ _ _ h => h) rfl (by rfl) (fun W hS => ?_) hS ?_
                rotate_left; (focus (first | (go_simp; done) | (go_simp; with_reducible rfl) | (go_simp; rfl))); all_goals skip; (try simp only [List.set_cons_succ, List.set_cons_zero])
                refine D_take 21 (v := ?_) rfl (by kernel_rfl) (by kernel_rfl) (by kernel_rfl) (fun _ _ _ h => h) rfl (by rfl) (fun W hS => ?_) hS ?_
                rotate_left; (focus (first | (go_simp; done) | (go_simp; with_reducible rfl) | (go_simp; rfl))); all_goals skip; (try simp only [List.set_cons_succ, List.set_cons_zero])
                refine D_take 22 (v := (.string s2)) rfl (by kernel_rfl) (by kernel_rfl) (by kernel_rfl) (fun _ _ _ h => h) rfl (by rfl) (fun W hS => R_loadRd (ty := 9) (x := .tmp 124) rfl (rdAll HR.out.2.1.symm (hS.get 1 rfl)) hi2 rfl hv2 Try.isAgg9) hS ?_; (try simp only [List.set_cons_succ, List.set_cons_zero])
                refine D_take 23 (v := ?_) rfl (by kernel_rfl) (by kernel_rfl) (by kernel_rfl) (fun _ _ _ h => h) rfl (by rfl) (fun W hS => ?_) hS ?_
                rotate_left; (focus (first | (go_simp; done) | (go_simp; with_reducible rfl) | (go_simp; rfl))); all_goals skip; (try simp only [List.set_cons_succ, List.set_cons_zero])
                refine D_take 24 (v := ?_) rfl (by kernel_rfl) (by kernel_rfl) (by kernel_rfl) (fun _ _ _ h => h) rfl (by rfl) (fun W hS => ?_) hS ?_
                rotate_left; (focus (first | (go_simp; done) | (go_simp; with_reducible rfl) | (go_simp; rfl))); all_goals skip; (try simp only [List.set_cons_succ, List.set_cons_zero])
                refine D_take 25 (v := ?_) rfl (by kernel_rfl) (by kernel_rfl) (by kernel_rfl) (fun _ _ _ h => h) rfl (by rfl) (fun W hS => ?_) hS ?_
                rotate_left; (focus (first | (go_simp; done) | (go_simp; with_reducible rfl) | (go_simp; rfl))); all_goals skip; (try simp only [List.set_cons_succ, List.set_cons_zero])
                refine D_take 26 (v := ?_) rfl (by kernel_rfl) (by kernel_rfl) (by kernel_rfl) (fun _ _ _ h => h) rfl (by rfl) (fun W hS => ?_) hS ?_
                rotate_left; (focus (first | (go_simp; done) | (go_simp; with_reducible rfl) | (go_simp; rfl))); all_goals skip; (try simp only [List.set_cons_succ, List.set_cons_zero])
                refine D_take 27 (v := ?_) rfl (by kernel_rfl) (by kernel_rfl) (by kernel_rfl) (fun _ _ _ h => h) rfl (by rfl) (fun W hS => ?_) hS ?_
                rotate_left; (focus (first | (go_simp; done) | (go_simp; with_reducible rfl) | (go_simp; rfl))); all_goals skip; (try simp only [List.set_cons_succ, List.set_cons_zero])
                refine D_take 28 (v := (.string s1)) rfl (by kernel_rfl) (by kernel_rfl) (by kernel_rfl) (fun _ _ _ h => h) rfl (by rfl) (fun W hS => R_loadRd (ty := 9) (x := .tmp 130) rfl (rdAll HQ.out.2.2.1.symm (hS.get 2 rfl)) hi1 rfl hv1 Try.isAgg9) hS ?_; (try simp only [List.set_cons_succ, List.set_cons_zero])
                refine D_take 29 (v := ?_) rfl (by kernel_rfl) (by kernel_rfl) (by kernel_rfl) (fun _ _ _ h => h) rfl (by rfl) (fun W hS => ?_) hS ?_
                rotate_left; (focus (first | (go_simp; done) | (go_simp; with_reducible rfl) | (go_simp; rfl))); all_goals skip; (try simp only [List.set_cons_succ, List.set_cons_zero])
                refine D_take 30 (v := ?_) rfl (by kernel_rfl) (by kernel_rfl) (by kernel_rfl) (fun _ _ _ h => h) rfl (by rfl) (fun W hS => ?_) hS ?_
                rotate_left; (focus (first | (go_simp; done) | (go_simp; with_reducible rfl) | (go_simp; rfl))); all_goals skip; (try simp only [List.set_cons_succ, List.set_cons_zero])
                refine D_take 31 (v := ?_) rfl (by kernel_rfl) (by kernel_rfl) (by kernel_rfl) (fun _ _ _ h => h) rfl (by rfl) (fun W hS => ?_) hS ?_
                rotate_left; (focus (first | (go_simp; done) | (go_simp; with_reducible rfl) | (go_simp; rfl))); all_goals skip; (try simp only [List.set_cons_succ, List.set_cons_zero])
                refine D_take 32 (v := (.bool false)) rfl (by kernel_rfl) (by kernel_rfl) (by kernel_rfl) (fun _ _ _ h => h) rfl (by rfl) (fun W hS => by first | (go_simp; exact HE.out) | (go_simp; done)) hS ?_; (try simp only [List.set_cons_succ, List.set_cons_zero])
                refine D_take 33 (v := ?_) rfl (by kernel_rfl) (by kernel_rfl) (by kernel_rfl) (fun _ _ _ h => h) rfl (by rfl) (fun W hS => ?_) hS ?_
                rotate_left; (focus (first | (go_simp; done) | (go_simp; with_reducible rfl) | (go_simp; rfl))); all_goals skip; (try simp only [List.set_cons_succ, List.set_cons_zero])
                refine wpAnyH_done (by kernel_rfl) ?_ _
                replace H := H.drew
                go_wp2_with fail
                refine ⟨⟨i + 1, m + 1, by go_num, by go_num, by omega, ?_, fun h => ?_, H⟩, ?_⟩
                · have h1 := HT.out.1
                  by_cases hmm : m = 1
                  · have := hmT hmm; omega
                  · omega
                · have h1 := HT.out.1; omega
                · simp [intOf]; omega
          · obtain rfl : i = 9 := by omega
            have hm1i : (m : Int) ≤ 1 := by omega
            go_wp2_with (first
              | (go_at_call 30; refine (awake_any _).mono ?_; rintro e w ⟨rfl, h⟩; replace H := H.calls h; clear h)
              | (go_at_call 25; refine (hpc3 (H.get 3 rfl)).mono ?_; rintro e w' ⟨rfl, rfl⟩)
              | (go_at_call 24; refine (hfc3 (H.get 3 rfl)).mono ?_; rintro e w ⟨rfl, h1, h2⟩; replace H := H.disk 3 rfl h1 h2; clear h1 h2))
            all_goals (go_ret; exact ⟨rfl, H.ext⟩)
      · skip
        go_wp2_with (first
          | (go_at_call 26; refine (hall3 (H.get 2 rfl)).mono ?_; rintro e w ⟨v3, rfl, h1, h2⟩; obtain ⟨A3, c3, rfl⟩ := rowLen h1 HR.out.2.2.1; replace H := H.addOwn h2 h1; clear h1 h2)
          | (go_at_call 26; refine (hall2 (H.get 1 rfl)).mono ?_; rintro e w ⟨v2', rfl, h1, h2⟩; obtain ⟨A2, c2, rfl⟩ := rowLen h1 HR.out.2.1; replace H := H.addOwn h2 h1; clear h1 h2)
          | (go_at_call 29; refine (hcc (H.get 2 rfl)).mono ?_; rintro e w ⟨rfl, h1, h2⟩; replace H := H.disk 2 rfl h1 h2; clear h1 h2; simp only [List.set_cons_succ, List.set_cons_zero] at H))
        clear hall2 hall3 hcc
        go_loopw [16, 17] (fun vm vi wr => SvRel2 b bs bm D3 TK A1 A2 A3 c1 c2 c3 su no is w0 vm vi wr) (fun _ vi _ => 9 - (intOf vi).toNat)
        case atStart => exact ⟨0, 0, rfl, rfl, by omega, by omega, fun h => by omega, H⟩
        case round =>
          clear H
          obtain ⟨i, m, rfl, rfl, hi, hm1, hmT, H⟩ := hrel
          by_cases hi9 : i < 9
          · have hii : (i : Int) < 9 := by omega
            have hi1 : i < su.length := by rw [HQ.out.2.2.1]; exact hi9
            have hi2 : i < no.length := by rw [HR.out.2.1]; exact hi9
            have hi3 : i < is.length := by rw [HR.out.2.2.1]; exact hi9
            obtain ⟨p1, o1, _, _, _, rfl, _, _⟩ := (rdAll HQ.out.2.2.1.symm (H.get 2 rfl)).cell hi1
            obtain ⟨p2, o2, _, _, _, rfl, _, _⟩ := (rdAll HR.out.2.1.symm (H.get 1 rfl)).cell hi2
            obtain ⟨p3, o3, _, _, _, rfl, _, _⟩ := (rdAll HR.out.2.2.1.symm (H.get 0 rfl)).cell hi3
            have hrd := HR.out.1 i hi9 hi1 hi2 hi3
            have hl32 := HR.out.2.2.2 i hi3
            obtain ⟨s1, hs1⟩ : ∃ s1, strOfNums su[i] = s1 := ⟨_, rfl⟩
            obtain ⟨s2, hs2⟩ : ∃ s2, strOfNums no[i] = s2 := ⟨_, rfl⟩
            obtain ⟨s3, hs3⟩ : ∃ s3, strOfNums is[i] = s3 := ⟨_, rfl⟩
            have hv1 : encS su[i] = [.string s1] := by rw [← hs1]; rfl
            have hv2 : encS no[i] = [.string s2] := by rw [← hs2]; rfl
            have hv3 : encS is[i] = [.string s3] := by rw [← hs3]; rfl
            by_cases hA : s3.toList = s1.toList
            · clear hrd hl32 hs1 hs2 hs3
              go_wp2_with fail
              refine D_start H (by kernel_rfl) (fun hS => ?_)
              try simp only [Act.put, List.setIfInBounds_toArray, List.set_cons_succ, List.set_cons_zero]
              refine D_take 0 (v := ?_) rfl (by kernel_rfl) (by kernel_rfl) (by kernel_rfl) (fun _ _ _ h => h) rfl (by rfl) (fun W hS => ?_) hS ?_
              rotate_left; (focus (first | (go_simp; done) | (go_simp; with_reducible rfl) | (go_simp; rfl))); all_goals skip; (try simp only [List.set_cons_succ, List.set_cons_zero])
              refine D_take 1 (v := ?_) rfl (by kernel_rfl) (by kernel_rfl) (by kernel_rfl) (fun _ _ _ h => h) rfl (by rfl) (fun W hS => ?_) hS ?_
              rotate_left; (focus (first | (go_simp; done) | (go_simp; with_reducible rfl) | (go_simp; rfl))); all_goals skip; (try simp only [List.set_cons_succ, List.set_cons_zero])
              refine D_take 2 (v := ?_) rfl (by kernel_rfl) (by kernel_rfl) (by kernel_rfl) (fun _ _ _ h => h) rfl (by rfl) (fun W hS => ?_) hS ?_
              rotate_left; (focus (first | (go_simp; done) | (go_simp; with_reducible rfl) | (go_simp; rfl))); all_goals skip; (try simp only [List.set_cons_succ, List.set_cons_zero])
              refine D_take 3 (v := (.string s3)) rfl (by kernel_rfl) (by kernel_rfl) (by kernel_rfl) (fun _ _ _ h => h) rfl (by rfl) (fun W hS => R_loadRd (ty := 9) (x := .tmp 82) rfl (rdAll HR.out.2.2.1.symm (hS.get 0 rfl)) hi3 rfl hv3 Try.isAgg9) hS ?_; (try simp only [List.set_cons_succ, List.set_cons_zero])
              refine D_take 4 (v := ?_) rfl (by kernel_rfl) (by kernel_rfl) (by kernel_rfl) (fun _ _ _ h => h) rfl (by rfl) (fun W hS => ?_) hS ?_
              rotate_left; (focus (first | (go_simp; done) | (go_simp; with_reducible rfl) | (go_simp; rfl))); all_goals skip; (try simp only [List.set_cons_succ, List.set_cons_zero])
              refine D_take 5 (v := ?_) rfl (by kernel_rfl) (by kernel_rfl) (by kernel_rfl) (fun _ _ _ h => h) rfl (by rfl) (fun W hS => ?_) hS ?_
              rotate_left; (focus (first | (go_simp; done) | (go_simp; with_reducible rfl) | (go_simp; rfl))); all_goals skip; (try simp only [List.set_cons_succ, List.set_cons_zero])
              refine D_take 6 (v := ?_) rfl (by kernel_rfl) (by kernel_rfl) (by kernel_rfl) (fun _ _ _ h => h) rfl (by rfl) (fun W hS => ?_) hS ?_
              rotate_left; (focus (first | (go_simp; done) | (go_simp; with_reducible rfl) | (go_simp; rfl))); all_goals skip; (try simp only [List.set_cons_succ, List.set_cons_zero])
              refine D_take 7 (v := (.string s1)) rfl (by kernel_rfl) (by kernel_rfl) (by kernel_rfl) (fun _ _ _ h => h) rfl (by rfl) (fun W hS => R_loadRd (ty := 9) (x := .tmp 86) rfl (rdAll HQ.out.2.2.1.symm (hS.get 2 rfl)) hi1 rfl hv1 Try.isAgg9) hS ?_; (try simp only [List.set_cons_succ, List.set_cons_zero])
              refine D_take 8 (v := (.bool true)) rfl (by kernel_rfl) (by kernel_rfl) (by kernel_rfl) (fun _ _ _ h => h) rfl (by rfl) (fun W hS => by first | (go_simp; done) | (go_simp; exact hA)) hS ?_; (try simp only [List.set_cons_succ, List.set_cons_zero])
              refine D_take 9 (v := ?_) rfl (by kernel_rfl) (by kernel_rfl) (by kernel_rfl) (fun _ _ _ h => h) rfl (by rfl) (fun W hS => ?_) hS ?_
              rotate_left; (focus (first | (go_simp; done) | (go_simp; with_reducible rfl) | (go_simp; rfl))); all_goals skip; (try simp only [List.set_cons_succ, List.set_cons_zero])
              refine D_skip 10 rfl (by kernel_rfl) (by kernel_rfl) (by kernel_rfl) (fun _ _ _ h => h) rfl (by rfl) hS ?_; (try simp only [List.set_cons_succ, List.set_cons_zero])
              refine D_skip 11 rfl (by kernel_rfl) (by kernel_rfl) (by kernel_rfl) (fun _ _ _ h => h) rfl (by rfl) hS ?_; (try simp only [List.set_cons_succ, List.set_cons_zero])
              refine D_skip 12 rfl (by kernel_rfl) (by kernel_rfl) (by kernel_rfl) (fun _ _ _ h => h) rfl (by rfl) hS ?_; (try simp only [List.set_cons_succ, List.set_cons_zero])
              refine D_skip 13 rfl (by kernel_rfl) (by kernel_rfl) (by kernel_rfl) (fun _ _ _ h => h) rfl (by rfl) hS ?_; (try simp only [List.set_cons_succ, List.set_cons_zero])
              refine D_skip 14 rfl (by kernel_rfl) (by kernel_rfl) (by kernel_rfl) (fun _ _ _ h => h) rfl (by rfl) hS ?_; (try simp only [List.set_cons_succ, List.set_cons_zero])
              refine D_skip 15 rfl (by kernel_rfl) (by kernel_rfl) (by kernel_rfl) (fun _ _ _ h => h) rfl (by rfl) hS ?_; (try simp only [List.set_cons_succ, List.set_cons_zero])
              refine D_skip 16 rfl (by kernel_rfl) (by kernel_rfl) (by kernel_rfl) (fun _ _ _ h => h) rfl (by rfl) hS ?_; (try simp only [List.set_cons_succ, List.set_cons_zero])
              refine D_skip 17 rfl (by kernel_rfl) (by kernel_rfl) (by kernel_rfl) (fun _ _ _ h => h) rfl (by rfl) hS ?_; (try simp only [List.set_cons_succ, List.set_cons_zero])
              refine D_skip 18 rfl (by kernel_rfl) (by kernel_rfl) (by kernel_rfl) (fun _ _ _ h => h) rfl (by rfl) hS ?_; (try simp only [List.set_cons_succ, List.set_cons_zero])
              refine D_take 19 (v := ?_) rfl (by kernel_rfl) (by kernel_rfl) (by kernel_rfl) (fun _ _ _ h => h) rfl (by rfl) (fun W hS => ?_) hS ?_
              rotate_left; (focus (first | (go_simp; done) | (go_simp; with_reducible rfl) | (go_simp; rfl))); all_goals skip; (try simp only [List.set_cons_succ, List.set_cons_zero])
              refine wpAnyH_done (by kernel_rfl) ?_ _
              replace H := H.drew
              go_wp2_with fail
              go_roundw
              case rel => exact ⟨i + 1, m, by go_num, rfl, by omega, hm1, fun h => by have := hmT h; omega, H⟩
              case measure => simp [intOf]; omega
            · by_cases hB : s3.toList = s2.toList
              · clear hrd hl32 hs1 hs2 hs3
                have hA2 : ¬ s2.toList = s1.toList := fun h => hA (hB.trans h)
                go_wp2_with fail
                refine D_start H (by kernel_rfl) (fun hS => ?_)
                try simp only [Act.put, List.setIfInBounds_toArray, List.set_cons_succ, List.set_cons_zero]
                refine D_take 0 (v := ?_) rfl (by kernel_rfl) (by kernel_rfl) (by kernel_rfl) (fun _ _ _ h => h) rfl (by rfl) (fun W hS => ?_) hS ?_
                rotate_left; (focus (first | (go_simp; done) | (go_simp; with_reducible rfl) | (go_simp; rfl))); all_goals skip; (try simp only [List.set_cons_succ, List.set_cons_zero])
                refine D_take 1 (v := ?_) rfl (by kernel_rfl) (by kernel_rfl) (by kernel_rfl) (fun _ _ _ h => h) rfl (by rfl) (fun W hS => ?_) hS ?_
                rotate_left; (focus (first | (go_simp; done) | (go_simp; with_reducible rfl) | (go_simp; rfl))); all_goals skip; (try simp only [List.set_cons_succ, List.set_cons_zero])
                refine D_take 2 (v := ?_) rfl (by kernel_rfl) (by kernel_rfl) (by kernel_rfl) (fun _ _ _ h => h) rfl (by rfl) (fun W hS => ?_) hS ?_
                rotate_left; (focus (first | (go_simp; done) | (go_simp; with_reducible rfl) | (go_simp; rfl))); all_goals skip; (try simp only [List.set_cons_succ, List.set_cons_zero])
                refine D_take 3 (v := (.string s3)) rfl (by kernel_rfl) (by kernel_rfl) (by kernel_rfl) (fun _ _ _ h => h) rfl (by rfl) (fun W hS => R_loadRd (ty := 9) (x := .tmp 82) rfl (rdAll HR.out.2.2.1.symm (hS.get 0 rfl)) hi3 rfl hv3 Try.isAgg9) hS ?_; (try simp only [List.set_cons_succ, List.set_cons_zero])
                refine D_take 4 (v := ?_) rfl (by kernel_rfl) (by kernel_rfl) (by kernel_rfl) (fun _ _ _ h => h) rfl (by rfl) (fun W hS => ?_) hS ?_
                rotate_left; (focus (first | (go_simp; done) | (go_simp; with_reducible rfl) | (go_simp; rfl))); all_goals skip; (try simp only [List.set_cons_succ, List.set_cons_zero])
                refine D_take 5 (v := ?_) rfl (by kernel_rfl) (by kernel_rfl) (by kernel_rfl) (fun _ _ _ h => h) rfl (by rfl) (fun W hS => ?_) hS ?_
                rotate_left; (focus (first | (go_simp; done) | (go_simp; with_reducible rfl) | (go_simp; rfl))); all_goals skip; (try simp only [List.set_cons_succ, List.set_cons_zero])
                refine D_take 6 (v := ?_) rfl (by kernel_rfl) (by kernel_rfl) (by kernel_rfl) (fun _ _ _ h => h) rfl (by rfl) (fun W hS => ?_) hS ?_
                rotate_left; (focus (first | (go_simp; done) | (go_simp; with_reducible rfl) | (go_simp; rfl))); all_goals skip; (try simp only [List.set_cons_succ, List.set_cons_zero])
                refine D_take 7 (v := (.string s1)) rfl (by kernel_rfl) (by kernel_rfl) (by kernel_rfl) (fun _ _ _ h => h) rfl (by rfl) (fun W hS => R_loadRd (ty := 9) (x := .tmp 86) rfl (rdAll HQ.out.2.2.1.symm (hS.get 2 rfl)) hi1 rfl hv1 Try.isAgg9) hS ?_; (try simp only [List.set_cons_succ, List.set_cons_zero])
                refine D_take 8 (v := (.bool false)) rfl (by kernel_rfl) (by kernel_rfl) (by kernel_rfl) (fun _ _ _ h => h) rfl (by rfl) (fun W hS => by first | (go_simp; done) | (go_simp; exact hA) | (go_simp; exact hA2)) hS ?_; (try simp only [List.set_cons_succ, List.set_cons_zero])
                refine D_take 9 (v := ?_) rfl (by kernel_rfl) (by kernel_rfl) (by kernel_rfl) (fun _ _ _ h => h) rfl (by rfl) (fun W hS => ?_) hS ?_
                rotate_left; (focus (first | (go_simp; done) | (go_simp; with_reducible rfl) | (go_simp; rfl))); all_goals skip; (try simp only [List.set_cons_succ, List.set_cons_zero])
                refine D_take 10 (v := ?_) rfl (by kernel_rfl) (by kernel_rfl) (by kernel_rfl) (fun _ _ _ h => h) rfl (by rfl) (fun W hS => ?_) hS ?_
                rotate_left; (focus (first | (go_simp; done) | (go_simp; with_reducible rfl) | (go_simp; rfl))); all_goals skip; (try simp only [List.set_cons_succ, List.set_cons_zero])
                refine D_take 11 (v := ?_) rfl (by kernel_rfl) (by kernel_rfl) (by kernel_rfl) (fun _ _ _ h => h) rfl (by rfl) (fun W hS => ?_) hS ?_
                rotate_left; (focus (first | (go_simp; done) | (go_simp; with_reducible rfl) | (go_simp; rfl))); all_goals skip; (try simp only [List.set_cons_succ, List.set_cons_zero])
                refine D_take 12 (v := ?_) rfl (by kernel_rfl) (by kernel_rfl) (by kernel_rfl) (fun _ _ _ h => h) rfl (by rfl) (fun W hS => ?_) hS ?_
                rotate_left; (focus (first | (go_simp; done) | (go_simp; with_reducible rfl) | (go_simp; rfl))); all_goals skip; (try simp only [List.set_cons_succ, List.set_cons_zero])
                refine D_take 13 (v := (.string s3)) rfl (by kernel_rfl) (by kernel_rfl) (by kernel_rfl) (fun _ _ _ h => h) rfl (by rfl) (fun W hS => R_loadRd (ty := 9) (x := .tmp 92) rfl (rdAll HR.out.2.2.1.symm (hS.get 0 rfl)) hi3 rfl hv3 Try.isAgg9) hS ?_; (try simp only [List.set_cons_succ, List.set_cons_zero])
                refine D_take 14 (v := ?_) rfl (by kernel_rfl) (by kernel_rfl) (by kernel_rfl) (fun _ _ _ h => h) rfl (by rfl) (fun W hS => ?_) hS ?_
                rotate_left; (focus (first | (go_simp; done) | (go_simp; with_reducible rfl) | (go_simp; rfl))); all_goals skip; (try simp only [List.set_cons_succ, List.set_cons_zero])
                refine D_take 15 (v := ?_) rfl (by kernel_rfl) (by kernel_rfl) (by kernel_rfl) (fun _ _ _ h => h) rfl (by rfl) (fun W hS => ?_) hS ?_
                rotate_left; (focus (first | (go_simp; done) | (go_simp; with_reducible rfl) | (go_simp; rfl))); all_goals skip; (try simp only [List.set_cons_succ, List.set_cons_zero])
                refine D_take 16 (v := ?_) rfl (by kernel_rfl) (by kernel_rfl) (by kernel_rfl) (fun _ _ _ h => h) rfl (by rfl) (fun W hS => ?_) hS ?_
                rotate_left; (focus (first | (go_simp; done) | (go_simp; with_reducible rfl) | (go_simp; rfl))); all_goals skip; (try simp only [List.set_cons_succ, List.set_cons_zero])
                refine D_take 17 (v := (.string s2)) rfl (by kernel_rfl) (by kernel_rfl) (by kernel_rfl) (fun _ _ _ h => h) rfl (by rfl) (fun W hS => R_loadRd (ty := 9) (x := .tmp 96) rfl (rdAll HR.out.2.1.symm (hS.get 1 rfl)) hi2 rfl hv2 Try.isAgg9) hS ?_; (try simp only [List.set_cons_succ, List.set_cons_zero])
                refine D_take 18 (v := (.bool true)) rfl (by kernel_rfl) (by kernel_rfl) (by kernel_rfl) (fun _ _ _ h => h) rfl (by rfl) (fun W hS => by first | (go_simp; done) | (go_simp; exact hB)) hS ?_; (try simp only [List.set_cons_succ, List.set_cons_zero])
                refine D_take 19 (v := ?_) rfl (by kernel_rfl) (by kernel_rfl) (by kernel_rfl) (fun _ _ _ h => h) rfl (by rfl) (fun W hS => ?_) hS ?_
                rotate_left; (focus (first | (go_simp; done) | (go_simp; with_reducible rfl) | (go_simp; rfl))); all_goals skip; (try simp only [List.set_cons_succ, List.set_cons_zero])
                refine wpAnyH_done (by kernel_rfl) ?_ _
                replace H := H.drew
                go_wp2_with fail
                go_roundw
                case rel => exact ⟨i + 1, m, by go_num, rfl, by omega, hm1, fun h => by have := hmT h; omega, H⟩
                case measure => simp [intOf]; omega
              · obtain ⟨hT, hc0, hc32, hbytes, hn32, hu32⟩ : (i : Int) = TK ∧ 0 ≤ cut ∧ cut < 32 ∧ is[i] = no[i].take cut.toNat ++ su[i].drop cut.toNat ∧ no[i].length = 32 ∧ su[i].length = 32 := by
                  rcases hrd with h | h | h
                  · exact absurd (by rw [← hs1, ← hs3, h]) hA
                  · exact absurd (by rw [← hs2, ← hs3, h]) hB
                  · exact h
                have HT := Lib.hid (And.intro hT (And.intro hc0 (And.intro hc32 (And.intro hbytes (And.intro hn32 (And.intro hu32 (And.intro hl32 (And.intro hs1 (And.intro hs2 hs3)))))))))
                clear hrd hT hc0 hc32 hbytes hn32 hu32 hl32 hs1 hs2 hs3
                go_wp2_with fail
                refine D_start H (by kernel_rfl) (fun hS => ?_)
                try simp only [Act.put, List.setIfInBounds_toArray, List.set_cons_succ, List.set_cons_zero]
                refine D_take 0 (v := ?_) rfl (by kernel_rfl) (by kernel_rfl) (by kernel_rfl) (fun _ _ _ h => h) rfl (by rfl) (fun W hS => ?_) hS ?_
                rotate_left; (focus (first | (go_simp; done) | (go_simp; with_reducible rfl) | (go_simp; rfl))); all_goals skip; (try simp only [List.set_cons_succ, List.set_cons_zero])
                refine D_take 1 (v := ?_) rfl (by kernel_rfl) (by kernel_rfl) (by kernel_rfl) (fun _ _ _ h => h) rfl (by rfl) (fun W hS => ?_) hS ?_
                rotate_left; (focus (first | (go_simp; done) | (go_simp; with_reducible rfl) | (go_simp; rfl))); all_goals skip; (try simp only [List.set_cons_succ, List.set_cons_zero])
                refine D_take 2 (v := ?_) rfl (by kernel_rfl) (by kernel_rfl) (by kernel_rfl) (fun _ _ _ h => h) rfl (by rfl) (fun W hS => ?_) hS ?_
                rotate_left; (focus (first | (go_simp; done) | (go_simp; with_reducible rfl) | (go_simp; rfl))); all_goals skip; (try simp only [List.set_cons_succ, List.set_cons_zero])
                refine D_take 3 (v := (.string s3)) rfl (by kernel_rfl) (by kernel_rfl) (by kernel_rfl) (fun _ _ _ h => h) rfl (by rfl) (fun W hS => R_loadRd (ty := 9) (x := .tmp 82) rfl (rdAll HR.out.2.2.1.symm (hS.get 0 rfl)) hi3 rfl hv3 Try.isAgg9) hS ?_; (try simp only [List.set_cons_succ, List.set_cons_zero])
                refine D_take 4 (v := ?_) rfl (by kernel_rfl) (by kernel_rfl) (by kernel_rfl) (fun _ _ _ h => h) rfl (by rfl) (fun W hS => ?_) hS ?_
                rotate_left; (focus (first | (go_simp; done) | (go_simp; with_reducible rfl) | (go_simp; rfl))); all_goals skip; (try simp only [List.set_cons_succ, List.set_cons_zero])
                refine D_take 5 (v := ?_) rfl (by kernel_rfl) (by kernel_rfl) (by kernel_rfl) (fun _ _ _ h => h) rfl (by rfl) (fun W hS => ?_) hS ?_
                rotate_left; (focus (first | (go_simp; done) | (go_simp; with_reducible rfl) | (go_simp; rfl))); all_goals skip; (try simp only [List.set_cons_succ, List.set_cons_zero])
                refine D_take 6 (v := ?_) rfl (by kernel_rfl) (by kernel_rfl) (by kernel_rfl) (fun _ _ _ h => h) rfl (by rfl) (fun W hS => ?_) hS ?_
                rotate_left; (focus (first | (go_simp; done) | (go_simp; with_reducible rfl) | (go_simp; rfl))); all_goals skip; (try simp only [List.set_cons_succ, List.set_cons_zero])
                refine D_take 7 (v := (.string s1)) rfl (by kernel_rfl) (by kernel_rfl) (by kernel_rfl) (fun _ _ _ h => h) rfl (by rfl) (fun W hS => R_loadRd (ty := 9) (x := .tmp 86) rfl (rdAll HQ.out.2.2.1.symm (hS.get 2 rfl)) hi1 rfl hv1 Try.isAgg9) hS ?_; (try simp only [List.set_cons_succ, List.set_cons_zero])
                refine D_take 8 (v := (.bool false)) rfl (by kernel_rfl) (by kernel_rfl) (by kernel_rfl) (fun _ _ _ h => h) rfl (by rfl) (fun W hS => by first | (go_simp; done) | (go_simp; exact hA)) hS ?_; (try simp only [List.set_cons_succ, List.set_cons_zero])
                refine D_take 9 (v := ?_) rfl (by kernel_rfl) (by kernel_rfl) (by kernel_rfl) (fun _ _ _ h => h) rfl (by rfl) (fun W hS => ?_) hS ?_
                rotate_left; (focus (first | (go_simp; done) | (go_simp; with_reducible rfl) | (go_simp; rfl))); all_goals skip; (try simp only [List.set_cons_succ, List.set_cons_zero])
                refine D_take 10 (v := ?_) rfl (by kernel_rfl) (by kernel_rfl) (by kernel_rfl) (fun _ _ _ h => h) rfl (by rfl) (fun W hS => ?_) hS ?_
                rotate_left; (focus (first | (go_simp; done) | (go_simp; with_reducible rfl) | (go_simp; rfl))); all_goals skip; (try simp only [List.set_cons_succ, List.set_cons_zero])
                refine D_take 11 (v := ?_) rfl (by kernel_rfl) (by kernel_rfl) (by kernel_rfl) (fun _ _ _ h => h) rfl (by rfl) (fun W hS => ?_) hS ?_
                rotate_left; (focus (first | (go_simp; done) | (go_simp; with_reducible rfl) | (go_simp; rfl))); all_goals skip; (try simp only [List.set_cons_succ, List.set_cons_zero])
                refine D_take 12 (v := ?_) rfl (by kernel_rfl) (by kernel_rfl) (by kernel_rfl) (fun _ _ _ h => h) rfl (by rfl) (fun W hS => ?_) hS ?_
                rotate_left; (focus (first | (go_simp; done) | (go_simp; with_reducible rfl) | (go_simp; rfl))); all_goals skip; (try simp only [List.set_cons_succ, List.set_cons_zero])
                refine D_take 13 (v := (.string s3)) rfl (by kernel_rfl) (by kernel_rfl) (by kernel_rfl) (fun _ _ _ h => h) rfl (by rfl) (fun W hS => R_loadRd (ty := 9) (x := .tmp 92) rfl (rdAll HR.out.2.2.1.symm (hS.get 0 rfl)) hi3 rfl hv3 Try.isAgg9) hS ?_; (try simp only [List.set_cons_succ, List.set_cons_zero])
                refine D_take 14 (v := ?_) rfl (by kernel_rfl) (by kernel_rfl) (by kernel_rfl) (fun _ _ _ h => h) rfl (by rfl) (fun W hS => ?_) hS ?_
                rotate_left; (focus (first | (go_simp; done) | (go_simp; with_reducible rfl) | (go_simp; rfl))); all_goals skip; (try simp only [List.set_cons_succ, List.set_cons_zero])
                refine D_take 15 (v := ?_) rfl (by kernel_rfl) (by kernel_rfl) (by kernel_rfl) (fun _ _ _ h => h) rfl (by rfl) (fun W hS => ?_) hS ?_
                rotate_left; (focus (first | (go_simp; done) | (go_simp; with_reducible rfl) | (go_simp; rfl))); all_goals skip; (try simp only [List.set_cons_succ, List.set_cons_zero])
                refine D_take 16 (v := ?_) rfl (by kernel_rfl) (by kernel_rfl) (by kernel_rfl) (fun _ _ _ h => h) rfl (by rfl) (fun W hS => ?_) hS ?_
                rotate_left; (focus (first | (go_simp; done) | (go_simp; with_reducible rfl) | (go_simp; rfl))); all_goals skip; (try simp only [List.set_cons_succ, List.set_cons_zero])
                refine D_take 17 (v := (.string s2)) rfl (by kernel_rfl) (by kernel_rfl) (by kernel_rfl) (fun _ _ _ h => h) rfl (by rfl) (fun W hS => R_loadRd (ty := 9) (x := .tmp 96) rfl (rdAll HR.out.2.1.symm (hS.get 1 rfl)) hi2 rfl hv2 Try.isAgg9) hS ?_; (try simp only [List.set_cons_succ, List.set_cons_zero])
                refine D_take 18 (v := (.bool false)) rfl (by kernel_rfl) (by kernel_rfl) (by kernel_rfl) (fun _ _ _ h => h) rfl (by rfl) (fun W hS => by first | (go_simp; done) | (go_simp; exact hB)) hS ?_; (try simp only [List.set_cons_succ, List.set_cons_zero])
                refine D_take 19 (v := ?_) rfl (by kernel_rfl) (by kernel_rfl) (by kernel_rfl) (fun _ _ _ h => h) rfl (by rfl) (fun W hS => ?_) hS ?_
                rotate_left; (focus (first | (go_simp; done) | (go_simp; with_reducible rfl) | (go_simp; rfl))); all_goals skip; (try simp only [List.set_cons_succ, List.set_cons_zero])
                refine wpAnyH_done (by kernel_rfl) ?_ _
                replace H := H.drew
                go_wp2_with fail
                have hsz1 : s1.size = 32 := by rw [← HT.out.2.2.2.2.2.2.2.1, strOfNums_size]; exact HT.out.2.2.2.2.2.1
                have hsz2 : s2.size = 32 := by rw [← HT.out.2.2.2.2.2.2.2.2.1, strOfNums_size]; exact HT.out.2.2.2.2.1
                have hsz3 : s3.size = 32 := by rw [← HT.out.2.2.2.2.2.2.2.2.2, strOfNums_size]; exact HT.out.2.2.2.2.2.2.1
                have hc0 := HT.out.2.1
                have hc32 := HT.out.2.2.1
                have hcn : ¬ (cut < 0) := by omega
                have hcn2 : ¬ (32 < cut) := by omega
                have hc33 : cut ≤ 32 := by omega
                have HE : Hid (s3.toList = (s2.extract 0 cut.toNat ++ s1.extract cut.toNat 32).toList) := Lib.hid (by
                  rw [← HT.out.2.2.2.2.2.2.2.1, ← HT.out.2.2.2.2.2.2.2.2.1, ← HT.out.2.2.2.2.2.2.2.2.2, HT.out.2.2.2.1, strOfNums_cut _ _ _ HT.out.2.2.2.2.2.1 (by omega)])
                clear hA hB
                refine D_start H (by kernel_rfl) (fun hS => ?_)
                try simp only [Act.put, List.setIfInBounds_toArray, List.set_cons_succ, List.set_cons_zero]
                refine D_take 0 (v := ?_) rfl (by kernel_rfl) (by kernel_rfl) (by kernel_rfl) (fun _ _ _ h => h) rfl (by rfl) (fun W hS => ?_) hS ?_
                rotate_left; (focus (first | (go_simp; done) | (go_simp; with_reducible rfl) | (go_simp; rfl))); all_goals skip; (try simp only [List.set_cons_succ, List.set_cons_zero])
                refine D_take 1 (v := ?_) rfl (by kernel_rfl) (by kernel_rfl) (by kernel_rfl) (fun _ _ _ h => h) rfl (by rfl) (fun W hS => ?_) hS ?_
                rotate_left; (focus (first | (go_simp; done) | (go_simp; with_reducible rfl) | (go_simp; rfl))); all_goals skip; (try simp only [List.set_cons_succ, List.set_cons_zero])
                refine D_take 2 (v := ?_) rfl (by kernel_rfl) (by kernel_rfl) (by kernel_rfl) (fun _ _ _ h => h) rfl (by rfl) (fun W hS => ?_) hS ?_
                rotate_left; (focus (first | (go_simp; done) | (go_simp; with_reducible rfl) | (go_simp; rfl))); all_goals skip; (try simp only [List.set_cons_succ, List.set_cons_zero])
                refine D_take 3 (v := ?_) rfl (by kernel_rfl) (by kernel_rfl) (by kernel_rfl) (fun _ _ _ h => h) rfl (by rfl) (fun W hS => ?_) hS ?_
                rotate_left; (focus (first | (go_simp; done) | (go_simp; with_reducible rfl) | (go_simp; rfl))); all_goals skip; (try simp only [List.set_cons_succ, List.set_cons_zero])
                refine D_take 4 (v := ?_) rfl (by kernel_rfl) (by kernel_rfl) (by kernel_rfl) (fun _ _ _ h => h) rfl (by rfl) (fun W hS => ?_) hS ?_
                rotate_left; (focus (first | (go_simp; done) | (go_simp; with_reducible rfl) | (go_simp; rfl))); all_goals skip; (try simp only [List.set_cons_succ, List.set_cons_zero])
                refine D_take 5 (v := ?_) rfl (by kernel_rfl) (by kernel_rfl) (by kernel_rfl) (fun _ _ _ h => h) rfl (by rfl) (fun W hS => ?_) hS ?_
                rotate_left; (focus (first | (go_simp; done) | (go_simp; with_reducible rfl) | (go_simp; rfl))); all_goals skip; (try simp only [List.set_cons_succ, List.set_cons_zero])
                refine D_take 6 (v := ?_) rfl (by kernel_rfl) (by kernel_rfl) (by kernel_rfl) (fun _ _ _ h => h) rfl (by rfl) (fun W hS => ?_) hS ?_
                rotate_left; (focus (first | (go_simp; done) | (go_simp; with_reducible rfl) | (go_simp; rfl))); all_goals skip; (try simp only [List.set_cons_succ, List.set_cons_zero])
                refine D_take 7 (v := ?_) rfl (by kernel_rfl) (by kernel_rfl) (by kernel_rfl) (fun _ _ _ h => h) rfl (by rfl) (fun W hS => ?_) hS ?_
                rotate_left; (focus (first | (go_simp; done) | (go_simp; with_reducible rfl) | (go_simp; rfl))); all_goals skip; (try simp only [List.set_cons_succ, List.set_cons_zero])
                refine D_take 8 (v := ?_) rfl (by kernel_rfl) (by kernel_rfl) (by kernel_rfl) (fun _ _ _ h => h) rfl (by rfl) (fun W hS => ?_) hS ?_
                rotate_left; (focus (first | (go_simp; done) | (go_simp; with_reducible rfl) | (go_simp; rfl))); all_goals skip; (try simp only [List.set_cons_succ, List.set_cons_zero])
                refine D_take 9 (v := ?_) rfl (by kernel_rfl) (by kernel_rfl) (by kernel_rfl) (fun _ _ _ h => h) rfl (by rfl) (fun W hS => ?_) hS ?_
                rotate_left; (focus (first | (go_simp; done) | (go_simp; with_reducible rfl) | (go_simp; rfl))); all_goals skip; (try simp only [List.set_cons_succ, List.set_cons_zero])
                refine D_take 10 (v := (.string s3)) rfl (by kernel_rfl) (by kernel_rfl) (by kernel_rfl) (fun _ _ _ h => h) rfl (by rfl) (fun W hS => R_loadRd (ty := 9) (x := .tmp 112) rfl (rdAll HR.out.2.2.1.symm (hS.get 0 rfl)) hi3 rfl hv3 Try.isAgg9) hS ?_; (try simp only [List.set_cons_succ, List.set_cons_zero])
                refine D_take 11 (v := ?_) rfl (by kernel_rfl) (by kernel_rfl) (by kernel_rfl) (fun _ _ _ h => h) rfl (by rfl) (fun W hS => ?_) hS ?_
                rotate_left; (focus (first | (go_simp; done) | (go_simp; with_reducible rfl) | (go_simp; rfl))); all_goals skip; (try simp only [List.set_cons_succ, List.set_cons_zero])
                refine D_take 12 (v := ?_) rfl (by kernel_rfl) (by kernel_rfl) (by kernel_rfl) (fun _ _ _ h => h) rfl (by rfl) (fun W hS => ?_) hS ?_
                rotate_left; (focus (first | (go_simp; done) | (go_simp; with_reducible rfl) | (go_simp; rfl))); all_goals skip; (try simp only [List.set_cons_succ, List.set_cons_zero])
                refine D_take 13 (v := ?_) rfl (by kernel_rfl) (by kernel_rfl) (by kernel_rfl) (fun _ _ _ h => h) rfl (by rfl) (fun W hS => ?_) hS ?_
                rotate_left; (focus (first | (go_simp; done) | (go_simp; with_reducible rfl) | (go_simp; rfl))); all_goals skip; (try simp only [List.set_cons_succ, List.set_cons_zero])
                refine D_take 14 (v := ?_) rfl (by kernel_rfl) (by kernel_rfl) (by kernel_rfl) (fun _ _ _ h => h) rfl (by rfl) (fun W hS => ?_) hS ?_
                rotate_left; (focus (first | (go_simp; done) | (go_simp; with_reducible rfl) | (go_simp; rfl))); all_goals skip; (try simp only [List.set_cons_succ, List.set_cons_zero])
                refine D_take 15 (v := ?_) rfl (by kernel_rfl) (by kernel_rfl) (by kernel_rfl) (fun _ _ _ h => h) rfl (by rfl) (fun W hS => ?_) hS ?_
                rotate_left; (focus (first | (go_simp; done) | (go_simp; with_reducible rfl) | (go_simp; rfl))); all_goals skip; (try simp only [List.set_cons_succ, List.set_cons_zero])
                refine D_take 16 (v := ?_) rfl (by kernel_rfl) (by kernel_rfl) (by kernel_rfl) (fun _ _ _ h => h) rfl (by rfl) (fun W hS => ?_) hS ?_
                rotate_left; (focus (first | (go_simp; done) | (go_simp; with_reducible rfl) | (go_simp; rfl))); all_goals skip; (try simp only [List.set_cons_succ, List.set_cons_zero])
                refine D_take 17 (v := ?_) rfl (by kernel_rfl) (by kernel_rfl) (by kernel_rfl) (fun _ _ _ h => h) rfl (by rfl) (fun W hS => ?_) hS ?_
                rotate_left; (focus (first | (go_simp; done) | (go_simp; with_reducible rfl) | (go_simp; rfl))); all_goals skip; (try simp only [List.set_cons_succ, List.set_cons_zero])
                refine D_take 18 (v := (.string s3)) rfl (by kernel_rfl) (by kernel_rfl) (by kernel_rfl) (fun _ _ _ h => h) rfl (by rfl) (fun W hS => R_loadRd (ty := 9) (x := .tmp 120) rfl (rdAll HR.out.2.2.1.symm (hS.get 0 rfl)) hi3 rfl hv3 Try.isAgg9) hS ?_; (try simp only [List.set_cons_succ, List.set_cons_zero])
                refine D_take 19 (v := ?_) rfl (by kernel_rfl) (by kernel_rfl) (by kernel_rfl) (fun _ _ _ h => h) rfl (by rfl) (fun W hS => ?_) hS ?_
                rotate_left; (focus (first | (go_simp; done) | (go_simp; with_reducible rfl) | (go_simp; rfl))); all_goals skip; (try simp only [List.set_cons_succ, List.set_cons_zero])
                refine D_take 20 (v := ?_) rfl (by kernel_rfl) (by kernel_rfl) (by kernel_rfl) (fun _ _ _ h => h) rfl (by rfl) (fun W hS => ?_) hS ?_
                rotate_left; (focus (first | (go_simp; done) | (go_simp; with_reducible rfl) | (go_simp; rfl))); all_goals skip; (try simp only [List.set_cons_succ, List.set_cons_zero])
                refine D_take 21 (v := ?_) rfl (by kernel_rfl) (by kernel_rfl) (by kernel_rfl) (fun _ _ _ h => h) rfl (by rfl) (fun W hS => ?_) hS ?_
                rotate_left; (focus (first | (go_simp; done) | (go_simp; with_reducible rfl) | (go_simp; rfl))); all_goals skip; (try simp only [List.set_cons_succ, List.set_cons_zero])
                refine D_take 22 (v := (.string s2)) rfl (by kernel_rfl) (by kernel_rfl) (by kernel_rfl) (fun _ _ _ h => h) rfl (by rfl) (fun W hS => R_loadRd (ty := 9) (x := .tmp 124) rfl (rdAll HR.out.2.1.symm (hS.get 1 rfl)) hi2 rfl hv2 Try.isAgg9) hS ?_; (try simp only [List.set_cons_succ, List.set_cons_zero])
                refine D_take 23 (v := ?_) rfl (by kernel_rfl) (by kernel_rfl) (by kernel_rfl) (fun _ _ _ h => h) rfl (by rfl) (fun W hS => ?_) hS ?_
                rotate_left; (focus (first | (go_simp; done) | (go_simp; with_reducible rfl) | (go_simp; rfl))); all_goals skip; (try simp only [List.set_cons_succ, List.set_cons_zero])
                refine D_take 24 (v := ?_) rfl (by kernel_rfl) (by kernel_rfl) (by kernel_rfl) (fun _ _ _ h => h) rfl (by rfl) (fun W hS => ?_) hS ?_
                rotate_left; (focus (first | (go_simp; done) | (go_simp; with_reducible rfl) | (go_simp; rfl))); all_goals skip; (try simp only [List.set_cons_succ, List.set_cons_zero])
                refine D_take 25 (v := ?_) rfl (by kernel_rfl) (by kernel_rfl) (by kernel_rfl) (fun _ _ _ h => h) rfl (by rfl) (fun W hS => ?_) hS ?_
                rotate_left; (focus (first | (go_simp; done) | (go_simp; with_reducible rfl) | (go_simp; rfl))); all_goals skip; (try simp only [List.set_cons_succ, List.set_cons_zero])
                refine D_take 26 (v := ?_) rfl (by kernel_rfl) (by kernel_rfl) (by kernel_rfl) (fun _ _ _ h => h) rfl (by rfl) (fun W hS => ?_) hS ?_
                rotate_left; (focus (first | (go_simp; done) | (go_simp; with_reducible rfl) | (go_simp; rfl))); all_goals skip; (try simp only [List.set_cons_succ, List.set_cons_zero])
                refine D_take 27 (v := ?_) rfl (by kernel_rfl) (by kernel_rfl) (by kernel_rfl) (fun _ _ _ h => h) rfl (by rfl) (fun W hS => ?_) hS ?_
                rotate_left; (focus (first | (go_simp; done) | (go_simp; with_reducible rfl) | (go_simp; rfl))); all_goals skip; (try simp only [List.set_cons_succ, List.set_cons_zero])
                refine D_take 28 (v := (.string s1)) rfl (by kernel_rfl) (by kernel_rfl) (by kernel_rfl) (fun _ _ _ h => h) rfl (by rfl) (fun W hS => R_loadRd (ty := 9) (x := .tmp 130) rfl (rdAll HQ.out.2.2.1.symm (hS.get 2 rfl)) hi1 rfl hv1 Try.isAgg9) hS ?_; (try simp only [List.set_cons_succ, List.set_cons_zero])
                refine D_take 29 (v := ?_) rfl (by kernel_rfl) (by kernel_rfl) (by kernel_rfl) (fun _ _ _ h => h) rfl (by rfl) (fun W hS => ?_) hS ?_
                rotate_left; (focus (first | (go_simp; done) | (go_simp; with_reducible rfl) | (go_simp; rfl))); all_goals skip; (try simp only [List.set_cons_succ, List.set_cons_zero])
                refine D_take 30 (v := ?_) rfl (by kernel_rfl) (by kernel_rfl) (by kernel_rfl) (fun _ _ _ h => h) rfl (by rfl) (fun W hS => ?_) hS ?_
                rotate_left; (focus (first | (go_simp; done) | (go_simp; with_reducible rfl) | (go_simp; rfl))); all_goals skip; (try simp only [List.set_cons_succ, List.set_cons_zero])
                refine D_take 31 (v := ?_) rfl (by kernel_rfl) (by kernel_rfl) (by kernel_rfl) (fun _ _ _ h => h) rfl (by rfl) (fun W hS => ?_) hS ?_
                rotate_left; (focus (first | (go_simp; done) | (go_simp; with_reducible rfl) | (go_simp; rfl))); all_goals skip; (try simp only [List.set_cons_succ, List.set_cons_zero])
                refine D_take 32 (v := (.bool false)) rfl (by kernel_rfl) (by kernel_rfl) (by kernel_rfl) (fun _ _ _ h => h) rfl (by rfl) (fun W hS => by first | (go_simp; exact HE.out) | (go_simp; done)) hS ?_; (try simp only [List.set_cons_succ, List.set_cons_zero])
                refine D_take 33 (v := ?_) rfl (by kernel_rfl) (by kernel_rfl) (by kernel_rfl) (fun _ _ _ h => h) rfl (by rfl) (fun W hS => ?_) hS ?_
                rotate_left; (focus (first | (go_simp; done) | (go_simp; with_reducible rfl) | (go_simp; rfl))); all_goals skip; (try simp only [List.set_cons_succ, List.set_cons_zero])
                refine wpAnyH_done (by kernel_rfl) ?_ _
                replace H := H.drew
                go_wp2_with fail
                refine ⟨⟨i + 1, m + 1, by go_num, by go_num, by omega, ?_, fun h => ?_, H⟩, ?_⟩
                · have h1 := HT.out.1
                  by_cases hmm : m = 1
                  · have := hmT hmm; omega
                  · omega
                · have h1 := HT.out.1; omega
                · simp [intOf]; omega
          · obtain rfl : i = 9 := by omega
            have hm1i : (m : Int) ≤ 1 := by omega
            go_wp2_with (first
              | (go_at_call 30; refine (awake_any _).mono ?_; rintro e w ⟨rfl, h⟩; replace H := H.calls h; clear h)
              | (go_at_call 25; refine (hpc3 (H.get 3 rfl)).mono ?_; rintro e w' ⟨rfl, rfl⟩)
              | (go_at_call 24; refine (hfc3 (H.get 3 rfl)).mono ?_; rintro e w ⟨rfl, h1, h2⟩; replace H := H.disk 3 rfl h1 h2; clear h1 h2))
            all_goals (go_ret; exact ⟨rfl, H.ext⟩)

theorem survives_row (w : World) (v : Value) (h1 : ∃ xs : List Deed, RdS Deed.cells 5 w v xs ∧ ∀ x ∈ xs, x.Ok) (v2 : Value) (h2 : ∃ xs : List Deed, RdS Deed.cells 5 w v2 xs ∧ ∀ x ∈ xs, x.Ok) (a : Int) (_ : (Lit.int .i64 a).wf = true) (b : Int) (_ : (Lit.int .i64 b).wf = true) (c : Int) (_ : (Lit.int .i64 c).wf = true) :
    Calls Try.prog 6 #[v, v2, .int .i64 a, .int .i64 b, .int .i64 c] w fun e w' => e = .returned (.bool true) ∧ Below w.heap.size w w' := by
  obtain ⟨xs, hr, hx⟩ := h1
  obtain ⟨ys, hr2, hy⟩ := h2
  exact (survives_walk v v2 xs ys a b c w hr hx hr2 hy).mono fun _ _ h => ⟨h.1, h.2.below⟩
section
open Go.ChangeShapes Go.WideShapes Go.ChangeAt Go.RowKit
open Go.ChangeMaps (open_string shut_string)
theorem diskSurvives_own : ownKnob Try.prog.godebug = none := by kernel_rfl
theorem diskSurvives_laidOut : laidOutB Try.prog = true := by kernel_rfl
set_option maxRecDepth 100000 in
theorem diskSurvives_lifted (os : Os) (started : os.Started) (H : Type) (enc : TypeId × Value → H) :
    ReturnsInHanded {} Try.checked os 6 .any (Rows.diskSurvivesSpec.pre6 enc Try.prog Try.f6 Rows.diskSurvivesRow.domain false) (Rows.diskSurvivesSpec.post enc Try.prog Try.f6 false true false false) := by
  refine returnsInHanded_of_change (C := Try.checked) diskSurvives_own started (by kernel_rfl) Try.func6
    (ChangeSpec.witness6 (enc := enc) (C := Try.checked) false ⟨#[], #[.slice none 0 0, .slice none 0 0, .int .i64 0, .int .i64 0, .int .i64 0], []⟩ 8 (by kernel_rfl) (by kernel_rfl) (by kernel_rfl) (by kernel_rfl)) ?_
  intro W base args ds gs before hval0 hW hcnd _
  have hval : ∀ (j : Nat) t v, Try.f6.params[j]? = some t → args[j]? = some v → Value.okWide Try.prog W .any base t v := hval0
  have hW' := hW
  obtain ⟨p, q, hA0, hV, rfl, hfz, hnd⟩ := hW
  have hA : DataW.TrodAll enc Try.prog W 0 (fun _ => true) true Try.f6.params.toList args.toList ds p := hA0
  rw [Try.params6] at hA hval
  obtain ⟨v0, vs0, d0, ds0, p0, q0, hargs, rfl, rfl, h0, r0⟩ := trodAll_cons hA
  obtain ⟨v1, vs1, d1, ds1, p1, q1, rfl, rfl, rfl, h1, r1⟩ := trodAll_cons r0
  obtain ⟨v2, vs2, d2, ds2, p2, q2, rfl, rfl, rfl, h2, r2⟩ := trodAll_cons r1
  obtain ⟨v3, vs3, d3, ds3, p3, q3, rfl, rfl, rfl, h3, r3⟩ := trodAll_cons r2
  obtain ⟨v4, vs4, d4, ds4, p4, q4, rfl, rfl, rfl, h4, r4⟩ := trodAll_cons r3
  obtain ⟨rfl, rfl, rfl⟩ := trodAll_nil r4
  obtain rfl : args = #[v0, v1, v2, v3, v4] := by cases args; simp_all
  obtain ⟨rfl, rfl⟩ := trodVars_none hV
  have k0 := h0
  have lt0 : ∀ x ∈ p0, x.block < W.heap.size := by obtain ⟨m, hm⟩ := k0; exact DataW.trod_lt m _ _ _ hm
  have w0 := deeds_of (hval 0 37 v0 rfl rfl) h0
  have k1 := h1
  have lt1 : ∀ x ∈ p1, x.block < W.heap.size := by obtain ⟨m, hm⟩ := k1; exact DataW.trod_lt m _ _ _ hm
  have w1 := deeds_of (hval 1 37 v1 rfl rfl) h1
  obtain ⟨a2, rfl, rfl, rfl, w2⟩ := open_int Try.underlying3 (hval 2 3 v2 rfl rfl) h2
  obtain ⟨a3, rfl, rfl, rfl, w3⟩ := open_int Try.underlying3 (hval 3 3 v3 rfl rfl) h3
  obtain ⟨a4, rfl, rfl, rfl, w4⟩ := open_int Try.underlying3 (hval 4 3 v4 rfl rfl) h4
  clear hA0 hval0
  refine (survives_row W v0 w0 v1 w1 a2 w2 a3 w3 a4 w4).mono fun e W' ⟨he, bel⟩ => ?_
  subst he
  exact ⟨_, rfl, _, _, _, [], _, [], hW', trodAll_mk1 (shut_bool Try.underlying4 _), (trodAll_cons_mk (Below.trod diskSurvives_laidOut (by kernel_rfl) (of_decide_eq_true (by kernel_rfl)) k0 bel lt0) (trodAll_cons_mk (Below.trod diskSurvives_laidOut (by kernel_rfl) (of_decide_eq_true (by kernel_rfl)) k1 bel lt1) (trodAll_cons_mk (shut_int Try.underlying3 w2) (trodAll_cons_mk (shut_int Try.underlying3 w3) (trodAll_cons_mk (shut_int Try.underlying3 w4) trodAll_mk0))))), rfl, bel.frame _, fun h => by cases h⟩
theorem diskSurvives_over : Rows.diskSurvivesRow.holds Try.pinned (OpenSpec.ofChange Rows.diskSurvivesSpec) :=
  OpenClaim.holds_of_wide 6 Try.f6 rfl rfl rfl rfl rfl rfl rfl ⟨rfl, rfl, rfl, rfl, rfl⟩ rfl rfl rfl rfl rfl (by kernel_rfl) Try.func6 (by kernel_rfl)
    (of_decide_eq_true (by kernel_rfl)) (by unfold Func.isWrapper; first | (rw [if_pos (by decide +kernel)]; kernel_rfl) | (rw [if_neg (by decide +kernel)]; exact ⟨rfl, rfl⟩))
    (fun os started H enc _ => diskSurvives_lifted os started H enc)
/-- THE STATEMENT. -/
theorem diskSurvives_holds : Rows.DiskSurvivesSaid := diskSurvives_over
#print axioms diskSurvives_holds
end
end Go.Proofs.Ytjdfeagjbhdceaa
