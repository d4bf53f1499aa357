/- Spans: package space walked. -/
import Derived.Test.YtmfcccflohpjiaaGreatDoorSpaceC
import Derived.Test.YtmfcccflohpjiaaGreatDoorSpaceLaw
namespace Go.Proofs.YtmfcccflohpjiaaGreatDoor
set_option linter.unusedVariables false
set_option linter.unusedSimpArgs false
open Go.RowKit Go.Shelf

def Small (xs : List Sp) : Prop := ∀ s ∈ xs, -9223372036854775808 ≤ s.at_ ∧ s.at_ < 9223372036854775808 ∧ -9223372036854775808 ≤ s.len ∧ s.len < 9223372036854775808
def GoRel (ys : List Sp) (t : Int) (wS : World) (ve vi : Value) (wr : World) : Prop :=
  ∃ (k : Nat) (e : Int), ve = .int .i64 e ∧ vi = .int .i64 (k : Int) ∧ k ≤ ys.length ∧ 0 ≤ e ∧ e ≤ 4096 ∧ Hid (goodGo t e (ys.drop k) = goodGo t 0 ys) ∧ SH (fun _ => False) wS wr []
theorem goodGo_cons (t e : Int) (s : Sp) (r : List Sp) : goodGo t e (s :: r) = if s.len < 1 ∨ s.at_ < e ∨ t < s.at_ ∨ t - s.at_ < s.len then false else goodGo t (s.at_ + s.len) r := rfl

theorem oneSp (s : Sp) : (#[Value.int .i64 s.at_, .int .i64 s.len] : Array Value).all (·.oneCell') = true := by simp [Value.oneCell']
set_option maxRecDepth 100000 in
set_option maxHeartbeats 8000000 in
theorem good_any (sv : Value) (xs : List Sp) (t : Int) (w0 : World) (hlen : xs.length ≤ 1000) (hr : RdS Sp.cells 2 w0 sv xs) (ht0 : 0 ≤ t) (ht : t ≤ 4096) (hsm : Small xs) :
    Calls Tryz.prog 54 #[sv, .int .i64 t] w0 fun e w' => e = .returned (.bool (goodB xs t)) ∧ Ext0 w0 w' := by
  have hso := sorted_any sv xs (by omega) w0 hr
  obtain ⟨q, hq⟩ : ∃ q, goodB xs t = q := ⟨_, rfl⟩
  rw [hq]
  have HQ := Lib.hid hq
  clear hq
  go_enter Tryz.func54, Tryz.ntmps54
  go_wp2_with (go_at_call 63; refine hso.mono ?_; rintro e wS ⟨v, ys, rfl, hp, hs, ho, hE⟩; obtain ⟨A, cap, rfl, hcap⟩ := (RdS.own Sp.clen rfl ho).len)
  have hrd : RdS Sp.cells 2 wS (.slice A ys.length cap) ys := RdS.own Sp.clen rfl ho
  have hG : goodB xs t = goodGo t 0 ys := by rw [goodGo_good hs, goodB_perm t hp]
  have hl : ys.length ≤ 1000 := by rw [hp.length_eq]; exact hlen
  have HM : Hid (Small ys) := Lib.hid (fun s h => hsm s (hp.subset h))
  have HG : Hid (q = goodGo t 0 ys) := Lib.hid (HQ.out ▸ hG)
  have HE := Lib.hid hE
  clear hso ho hp hs hG hsm hE hr hcap HQ
  go_loopw [5, 7, 11] (fun ve _ vi wr => GoRel ys t wS ve vi wr) (fun _ _ vi _ => ys.length - (intOf vi).toNat)
  case atStart => exact ⟨0, 0, rfl, rfl, Nat.zero_le _, Int.le_refl _, by omega, Lib.hid rfl, SH.nil _ _⟩
  case round =>
    obtain ⟨k, e, rfl, rfl, hk, he0, he1, HR, H⟩ := hrel
    by_cases hkn : k < ys.length
    · have hki : (k : Int) < (ys.length : Int) := by omega
      obtain ⟨b, off, cs, T, fr, rfl, hb, hcs⟩ := hrd.cell hkn
      have hdr : ys.drop k = ys[k] :: ys.drop (k + 1) := List.drop_eq_getElem_cons hkn
      have hsm := HM.out ys[k] (List.getElem_mem hkn)
      generalize ys[k] = s at hcs hdr hsm
      have hcs2 : ∀ j, j < 2 → cs[off + k * 2 + j]? = [Value.int .i64 s.at_, .int .i64 s.len][j]? := hcs
      have HR2 := Lib.hid (show (if s.len < 1 ∨ s.at_ < e ∨ t < s.at_ ∨ t - s.at_ < s.len then false else goodGo t (s.at_ + s.len) (ys.drop (k + 1))) = goodGo t 0 ys by rw [← goodGo_cons, ← hdr]; exact HR.out)
      clear hcs hdr HR
      obtain ⟨m1, m2, m3, m4⟩ := hsm
      go_wp2_with (refine L_loadmidr (ty := 73) (b := b) (off := off + k * 2) rfl rfl H rfl hb (fun e => e) Tryz.underlying73 rfl info73 [.int .i64 s.at_, .int .i64 s.len] rfl hcs2 ?_; (try simp only [Act.put, List.setIfInBounds_toArray, List.set_cons_succ, List.set_cons_zero, List.getElem_toArray, List.getElem_cons_succ, List.getElem_cons_zero]))
      all_goals first
        | (go_ret
           refine ⟨?_, HE.out.trans0 (H.alloc _).ext⟩
           rw [HG.out, ← HR2.out, if_pos (by omega)]
           rfl)
        | (refine ⟨⟨k + 1, s.at_ + s.len, by go_num, by go_num, hkn, by omega, by omega, Lib.hid (by rw [← HR2.out, if_neg (by omega)]), (H.alloc _).drop (List.nil_sublist _)⟩, ?_⟩
           simp [intOf]; omega)
    · obtain rfl : k = ys.length := by omega
      go_wp2
      go_ret
      refine ⟨?_, HE.out.trans0 H.ext⟩
      rw [HG.out, ← HR.out, List.drop_length]
      rfl
end Go.Proofs.YtmfcccflohpjiaaGreatDoor
