/- The document's journals: between, fits, Format. -/
import Derived.Test.YtgmeahogdjhejaaGreatDoorWalSf
namespace Go.Proofs.YtgmeahogdjhejaaGreatDoor
set_option linter.unusedVariables false
set_option linter.unusedSimpArgs false
open Go.RowKit Go.Shelf
open Rf (RefA)

def BetwR (d : DS) (a n : Nat) (w0 : World) (v7 v8 : Value) (wr : World) : Prop :=
  ∃ (i : Nat) (v : Value), v = v7 ∧ v8 = .int .i64 ((a + i : Nat) : Int) ∧ i ≤ n ∧ SH (fun _ => False) w0 wr [ownA 5 1 v (32 * i) (cellsOf (encInt .u8) (d.between a i))]
set_option maxRecDepth 100000 in
set_option maxHeartbeats 4000000 in
theorem refBetween_any {b : Nat} {S : Nat → Prop} {d : DS} {W0 : Int} (w0 : World) (h : (RefA b S d).says w0) (hf : d.Fine W0) (a n : Nat) (p q : Int) (hp : p = (a : Int)) (hq : q = ((a + n : Nat) : Int)) (han : a + n ≤ d.sure.length) :
    Calls Tryz.prog 41 #[.pointer (some ⟨b, 0, none⟩), .int .i64 p, .int .i64 q] w0 fun e w' => ∃ v, e = .returned v ∧ SH (fun _ => False) w0 w' [ownA 5 1 v (32 * n) (cellsOf (encInt .u8) (d.between a n))] := by
  subst hp hq
  have hlen := hf.len
  obtain ⟨r, hr, HS⟩ := Rf.RefA.opens h
  obtain ⟨hc0, _⟩ := Rf.RM.cellsAt (L := []) (by simpa using HS)
  have hgl := hr.gl
  have hsh := Rf.row_shape (HS.get 1 rfl)
  have hbv := HS.get 6 (A := Rf.bytesA r.bv) rfl
  have hc0' := fun {W : World} (e : Ext0 w0 W) => e.cell hc0 (fun h => h)
  obtain ⟨v1, hv1⟩ : ∃ v1, r.v1 = v1 := ⟨_, rfl⟩
  rw [hv1] at hc0' hsh
  have H : SH (fun _ => False) w0 w0 [] := SH.nil _ _
  have HF := Lib.hid (And.intro hf (And.intro hr (And.intro hbv (And.intro hgl (And.intro hsh han)))))
  clear hf hr hbv hgl hsh h HS hc0 hv1
  obtain ⟨z, hz⟩ : ∃ z, a + n = z := ⟨_, rfl⟩
  rw [hz] at han ⊢
  go_enter Tryz.func41, Tryz.ntmps41
  go_upto_region 2 with (first
    | ((refine L_lit (e := ?_) (cs := ?_) rfl rfl H ?_ ?_; rotate_left 2; (focus (intro _; first | (go_simp; done) | (go_simp; with_reducible rfl) | (go_simp; rfl))); all_goals skip; clear H; intro g w H; (try simp only [Act.put, List.setIfInBounds_toArray, List.set_cons_succ, List.set_cons_zero, List.getElem_toArray, List.getElem_cons_succ, List.getElem_cons_zero])); replace H := H.toOwn 0 rfl 1 0 0 (Nat.le_refl _) (Nat.zero_le _) rfl [] rfl; simp only [List.set_cons_zero] at H))
  have hst : BetwR d a n w0 (.slice (some ⟨g, 0, none⟩) 0 0) (.int .i64 (a : Int)) w := ⟨0, _, rfl, rfl, Nat.zero_le _, H⟩
  clear H
  go_wp2_with fail
  go_loopw [7, 8] (fun v7 v8 wr => BetwR d a n w0 v7 v8 wr) (fun _ vi _ => z - (intOf vi).toNat)
  case atStart => exact hst
  case round =>
    clear hst
    obtain ⟨i, v9, rfl, rfl, hi, H⟩ := hrel
    by_cases hin : i < n
    · obtain ⟨k, hk⟩ : ∃ k, a + i = k := ⟨_, rfl⟩
      rw [hk]
      have hkz : k < z := by omega
      have hkzi : (k : Int) < (z : Int) := by omega
      have hwk : IntKind.i64.wrap ((k : Int) + 1) = ((k + 1 : Nat) : Int) := by rw [IntKind.wrap_i64]; omega
      have hkl : k < r.gs.length := by rw [HF.out.2.2.2.1]; omega
      have hcc := hc0' H.ext
      rcases HF.out.2.2.2.2.1 with ⟨h0, _⟩ | ⟨g, c, rfl, hcell⟩
      · rw [h0] at hkl; cases hkl
      have hcg := (H.ext.cell (hcell k hkl).1 (fun h => h))
      have hrk := (HF.out.2.2.1 _ (HF.out.2.1.g k hkl))
      have hmore := DS.between_snoc d a i
      have hsl := DS.sec_len HF.out.1 (i := k) (by omega)
      rw [hk] at hmore
      have hse : (d.is (k : Int)).bytes = d.sec k := rfl
      rw [hse] at hrk
      obtain ⟨xs, hxs⟩ : ∃ xs, d.sec k = xs := ⟨_, rfl⟩
      rw [hxs] at hrk hmore hsl
      obtain ⟨gk, hgk⟩ : ∃ gk, r.gs[k] = gk := ⟨_, rfl⟩
      rw [hgk] at hcg hrk
      simp only at hrk
      have hrk := hrk.keep H.ext
      obtain ⟨Ak, ck, rfl, hck⟩ := hrk.len
      obtain ⟨m, hm⟩ : ∃ m, r.gs.length = m := ⟨_, rfl⟩
      rw [hm] at hcc hkl
      rw [hsl] at hcg
      have hrk2 : RdS (encInt .u8) 1 wr (.slice Ak 32 ck) xs := by rw [hsl] at hrk; exact hrk
      have hgb : (32 * i + xs.length) * 1 ≤ 140737488355328 := by rw [hsl]; omega
      have hgm : 32 * i + xs.length ≤ maxLen := by rw [hsl]; simp only [maxLen]; omega
      have hkm : (k : Int) < (m : Int) := by omega
      have HM := Lib.hid (And.intro hmore (And.intro hsl hk))
      clear hmore hsl hse hxs hgk hk hm hrk hck
      go_wp2_with (first
        | (at_builtin; go_loud (refine L_append (ys := xs) (encInt_len .u8) (encInt_one .u8) rfl rfl Tryz.underlying22 info5 rfl (by decide) H 0 rfl rfl rfl hrk2 hgb hgm ?_); clear H; intro v7 w H hnn; clear hnn; simp only [List.set_cons_zero] at H))
      go_roundw
      case rel =>
        refine ⟨i + 1, _, rfl, by rw [← HM.out.2.2]; rfl, by omega, ?_⟩
        rw [HM.out.1, cellsOf_append, show 32 * (i + 1) = 32 * i + xs.length by rw [HM.out.2.1]; omega]
        exact H
      case measure => simp [intOf]; omega
    · obtain rfl : i = n := by omega
      rw [hz]
      have hzz : ¬ (z : Int) < (z : Int) := by omega
      go_wp2_with fail
      go_ret
      exact ⟨_, rfl, H⟩
theorem fits_any (slot n cap : Nat) (A : Option Addr) (w : World) : Calls Tryz.prog 33 #[.int .i64 (slot : Int), .slice A n cap] w fun e w' => e = .returned (.int .i64 (if 65535 < n then 2 else if slot < countP n then 5 else 0)) ∧ w' = w := by
  by_cases h1 : 65535 < n
  · have h1i : (65535 : Int) < (n : Int) := by omega
    rw [if_pos h1]
    go_enter Tryz.func33, Tryz.ntmps33
    go_wp2_with fail
    go_ret
    exact ⟨rfl, rfl⟩
  · have h1i : ¬ (65535 : Int) < (n : Int) := by omega
    rw [if_neg h1]
    have hcnt := fun {W : World} => refCount_any n (by omega) W
    obtain ⟨c, hc⟩ : ∃ c, countP n = c := ⟨_, rfl⟩
    rw [hc] at hcnt ⊢
    clear hc
    by_cases h2 : slot < c
    · have h2i : (slot : Int) < (c : Int) := by omega
      rw [if_pos h2]
      go_enter Tryz.func33, Tryz.ntmps33
      go_wp2_with (go_at_call 55; refine hcnt.mono ?_; rintro e1 w1 ⟨rfl, rfl⟩)
      go_ret
      exact ⟨rfl, rfl⟩
    · have h2i : ¬ (slot : Int) < (c : Int) := by omega
      rw [if_neg h2]
      go_enter Tryz.func33, Tryz.ntmps33
      go_wp2_with (go_at_call 55; refine hcnt.mono ?_; rintro e1 w1 ⟨rfl, rfl⟩)
      go_ret
      exact ⟨rfl, rfl⟩
set_option maxRecDepth 100000 in
set_option maxHeartbeats 4000000 in
theorem refFormat_any {b : Nat} {S : Nat → Prop} {d : DS} {W0 : Int} (w0 : World) (h : (RefA b S d).says w0) (hf : d.Fine W0) (hW : W0 ≤ 100000000) (slot log : Int) {v : Value} {xs : List Int} (hr : RdS (encInt .u8) 1 w0 v xs) (hb : ∀ x ∈ xs, 0 ≤ x ∧ x ≤ 255) (hl : xs.length ≤ 65535) :
    Calls Tryz.prog 8 #[.pointer (some ⟨b, 0, none⟩), .int .i64 slot, .int .i64 log, v] w0 (RfE b S (formatP d slot log xs) w0) := by
  obtain ⟨A, cap, rfl, hcap⟩ := hr.len
  have H := Rf.RefA.base h
  have hm := refMay_any h hf.len slot log
  by_cases hmay : mayP d.sure.length slot log
  · obtain ⟨s, rfl⟩ := Int.eq_ofNat_of_zero_le (show 0 ≤ slot by have := hmay.1; omega)
    rw [decide_eq_true hmay] at hm
    have hfit := fun {w : World} => fits_any s xs.length cap A w
    have hre : recErr s 1 xs.length = if 65535 < xs.length then 2 else if s < countP xs.length then 5 else 0 := by
      unfold recErr
      by_cases h1 : 65535 < xs.length
      · rw [if_pos (.inl h1), if_pos h1]
      · rw [if_neg (by omega), if_neg h1]
    rw [← hre] at hfit
    have hfo : formatP d (s : Int) log xs = if recErr s 1 xs.length ≠ 0 then (d, recErr s 1 xs.length) else if (d.lay 0 (countP xs.length) (layP 1 0 xs)).2 ≠ 0 then d.lay 0 (countP xs.length) (layP 1 0 xs) else (d.lay 0 (countP xs.length) (layP 1 0 xs)).1.flushR := by
      unfold formatP
      rw [if_neg (by simp [hmay])]
      rfl
    rw [hfo]
    have hlay := fun {w : World} (h : RdS (encInt .u8) 1 w (.slice A xs.length cap) xs) => refLay_any 1 0 (.slice A xs.length cap) xs w ⟨by omega, by omega⟩ ⟨by omega, by omega⟩ h hb hl
    unfold LayE at hlay
    have hlb := lay_bytes (e := 1) (q := 0) hb
    have hll := layP_len 1 0 xs
    have hcn : countP xs.length ≤ 10000 := by unfold countP; omega
    have hfl := hf.lay (countP xs.length) 0 hlb
    obtain ⟨ys, hys⟩ : ∃ ys, layP 1 0 xs = ys := ⟨_, rfl⟩
    rw [hys] at hlay hlb hll hfl ⊢
    obtain ⟨c, hc⟩ : ∃ c, countP xs.length = c := ⟨_, rfl⟩
    rw [hc] at hll hcn hfl ⊢
    have hrl := fun {w : World} {S' : Nat → Prop} {v : Value} (h : (RefA b S' d).says w) (hr : RdS (encInt .u8) 1 w v ys) (hap : ∀ j, v.ownBlock = some j → ¬ S' j) => rlay_any w h hf (by omega) 0 c hr hlb hll hcn (by omega) hap
    unfold RfE at hrl
    obtain ⟨r1, hr1⟩ : ∃ r1, d.lay 0 c ys = r1 := ⟨_, rfl⟩
    rw [hr1] at hrl hfl ⊢
    have hflu := fun {w : World} {S' : Nat → Prop} (h : (RefA b S' r1.1).says w) => refFlush_E h hfl
    unfold RfE at hflu
    obtain ⟨r2, hr2⟩ : ∃ r2, r1.1.flushR = r2 := ⟨_, rfl⟩
    rw [hr2] at hflu ⊢
    obtain ⟨e1, he1⟩ : ∃ e1, r1.2 = e1 := ⟨_, rfl⟩
    obtain ⟨e2, he2⟩ : ∃ e2, r2.2 = e2 := ⟨_, rfl⟩
    simp only [he1] at hrl ⊢
    simp only [he2] at hflu
    obtain ⟨e0, he0⟩ : ∃ e0, recErr s 1 xs.length = e0 := ⟨_, rfl⟩
    rw [he0] at hfit ⊢
    obtain ⟨n, hn⟩ : ∃ n, xs.length = n := ⟨_, rfl⟩
    rw [hn] at hr hlay hfit hcap ⊢
    have HF := Lib.hid (And.intro he1 he2)
    clear hmay hf hb hl hlb hll hcn hfl hys hc hr1 hr2 he1 he2 he0 hre hfo hn h hcap
    by_cases hz0 : e0 = 0
    · subst hz0
      rw [if_neg (by simp)]
      by_cases hz1 : e1 = 0
      · subst hz1
        rw [if_neg (by simp)]
        go_enter Tryz.func8, Tryz.ntmps8
        go_wp2_with (first
          | (go_at_call 32; refine hm.mono ?_; rintro e w ⟨rfl, hE⟩; replace H := H.calls hE; replace hr := hr.keep hE; clear hE)
          | (go_at_call 33; refine hfit.mono ?_; rintro e w9 ⟨rfl, hw9⟩; replace hw9 := hw9.symm; subst hw9)
          | (go_at_call 34; refine (hlay hr).mono ?_; rintro e w3 ⟨vt, rfl, hrt, hE, hfr⟩; have hlt := H.lt _ List.mem_cons_self; replace H := H.calls hE; clear hE)
          | (go_at_call 35; refine (hrl (H.get 0 rfl) hrt (fun j hj hS => Nat.lt_irrefl _ (Nat.lt_of_lt_of_le (hlt j hS) (hfr j hj)))).mono ?_; rintro e w4 ⟨rfl, S2, hE, hsay, hS2⟩; replace H := H.refTo 0 rfl hE hsay hS2; simp only [List.set_cons_zero] at H; clear hE hsay hS2 hrt hfr hlt)
          | (go_at_call 36; refine (hflu (H.get 0 rfl)).mono ?_; rintro e w5 ⟨rfl, S3, hE, hsay, hS3⟩; replace H := H.refTo 0 rfl hE hsay hS3; simp only [List.set_cons_zero] at H; clear hE hsay hS3))
        go_ret
        have h9 := RfE.of (k := e2) H 0 rfl
        rw [← HF.out.2] at h9 ⊢
        exact h9
      · have hz2 : (e1 != 0) = true := by simp [hz1]
        rw [if_pos hz1]
        go_enter Tryz.func8, Tryz.ntmps8
        go_wp2_with (first
          | (go_at_call 32; refine hm.mono ?_; rintro e w ⟨rfl, hE⟩; replace H := H.calls hE; replace hr := hr.keep hE; clear hE)
          | (go_at_call 33; refine hfit.mono ?_; rintro e w9 ⟨rfl, hw9⟩; replace hw9 := hw9.symm; subst hw9)
          | (go_at_call 34; refine (hlay hr).mono ?_; rintro e w3 ⟨vt, rfl, hrt, hE, hfr⟩; have hlt := H.lt _ List.mem_cons_self; replace H := H.calls hE; clear hE)
          | (go_at_call 35; refine (hrl (H.get 0 rfl) hrt (fun j hj hS => Nat.lt_irrefl _ (Nat.lt_of_lt_of_le (hlt j hS) (hfr j hj)))).mono ?_; rintro e w4 ⟨rfl, S2, hE, hsay, hS2⟩; replace H := H.refTo 0 rfl hE hsay hS2; simp only [List.set_cons_zero] at H; clear hE hsay hS2 hrt hfr hlt))
        go_ret
        have h9 := RfE.of (k := e1) H 0 rfl
        rw [← HF.out.1] at h9 ⊢
        exact h9
    · have hz2 : (e0 != 0) = true := by simp [hz0]
      rw [if_pos hz0]
      go_enter Tryz.func8, Tryz.ntmps8
      go_wp2_with (first
        | (go_at_call 32; refine hm.mono ?_; rintro e w ⟨rfl, hE⟩; replace H := H.calls hE; replace hr := hr.keep hE; clear hE)
        | (go_at_call 33; refine hfit.mono ?_; rintro e w9 ⟨rfl, hw9⟩; replace hw9 := hw9.symm; subst hw9))
      go_ret
      exact RfE.of (k := e0) H 0 rfl
  · rw [decide_eq_false hmay] at hm
    rw [show formatP d slot log xs = (d, 1) by unfold formatP; rw [if_pos hmay]]
    clear h hf hr hb hmay
    go_enter Tryz.func8, Tryz.ntmps8
    go_wp2_with (first
      | (go_at_call 32; refine hm.mono ?_; rintro e w ⟨rfl, hE⟩; replace H := H.calls hE; clear hE))
    go_ret
    exact RfE.of (k := 1) H 0 rfl
end Go.Proofs.YtgmeahogdjhejaaGreatDoor
