/- The document's disk: Write, Flush as one contract each. -/
import Derived.Test.YtjdfeagjbhdceaaRefD
namespace Go.Proofs.Ytjdfeagjbhdceaa
set_option linter.unusedVariables false
set_option linter.unusedSimpArgs false
open Go.RowKit

theorem Fine_len {d : DS} {W : Int} (h : d.Fine W) : d.sure.length ≤ 4096 := h.len
set_option maxHeartbeats 1000000 in
theorem write_bad {M : Nat → Prop} {w0 w : World} {b : Nat} {r : RM} {d : DS} (H : SH M w0 w (r.L b)) (hr : r.Ok d) (hl : d.sure.length ≤ 4096) (i : Int) {A : Option Addr} {n c : Nat} (hn : n ≤ 1000000000) (hbad : ¬ ((0 ≤ i ∧ i < d.sure.length) ∧ n = 32)) :
    Calls Try.prog 40 #[.pointer (some ⟨b, 0, none⟩), .int .i64 i, .slice A n c] w fun e w' => e = .returned (.int .i64 1) ∧ w' = w := by
  obtain ⟨hc0, _, _, _, _, _, _⟩ := RM.cellsAt (L := []) (by simpa using H)
  obtain ⟨Ag, cg, hv⟩ := row_len (H.get 1 rfl)
  rw [hv, hr.gl] at hc0
  clear H hr hv
  generalize d.sure.length = m at *
  by_cases h0 : i < 0
  · go_enter Try.func40, Try.ntmps40
    go_wp2
    go_ret
    exact ⟨rfl, rfl⟩
  · by_cases h1 : (m : Int) ≤ i
    · go_enter Try.func40, Try.ntmps40
      go_wp2
      go_ret
      exact ⟨rfl, rfl⟩
    · have h2 : ((n : Int) != 32) = true := by simp; omega
      go_enter Try.func40, Try.ntmps40
      go_wp2
      go_ret
      exact ⟨rfl, rfl⟩
set_option maxHeartbeats 1000000 in
theorem write_out {M : Nat → Prop} {w0 w : World} {b : Nat} {r : RM} {d : DS} (H : SH M w0 w (r.L b)) (hr : r.Ok d) (hf : -1 ≤ d.fuse) (hf2 : d.fuse ≤ 9223372036854775807) (hl : d.sure.length ≤ 4096) (i : Int) (h0 : 0 ≤ i) (h1 : i < d.sure.length) (hz : d.fuse = 0) {A : Option Addr} {c : Nat} :
    Calls Try.prog 40 #[.pointer (some ⟨b, 0, none⟩), .int .i64 i, .slice A 32 c] w fun e w' => e = .returned (.int .i64 10) ∧ ∃ r' : RM, r'.Ok d ∧ SH M w0 w' (r'.L b) := by
  have hg := goes_any H hr hf hf2
  have hs := hr.spend hf
  have hsd : d.spend = (d, false) := by unfold DS.spend; rw [if_neg (by omega), if_pos hz]
  rw [hsd] at hg hs
  dsimp only at hg hs
  obtain ⟨hc0, _, _, _, _, _, _⟩ := RM.cellsAt (L := []) (by simpa using H)
  obtain ⟨Ag, cg, hv⟩ := row_len (H.get 1 rfl)
  rw [hv, hr.gl] at hc0
  generalize (r.fused (if 0 < r.f then r.f - 1 else r.f)) = r1 at hg hs
  have HS := Lib.hid hs
  clear H hr hv hs hz hf hf2 hsd
  generalize d.sure.length = m at *
  go_enter Try.func40, Try.ntmps40
  go_wp2_with (go_at_call 55; refine hg.mono ?_; clear hc0; rintro e w1 ⟨rfl, H⟩)
  go_ret
  exact ⟨rfl, _, HS.out, H⟩
/-- Write, whatever the arguments. -/
theorem refWrite_any {b : Nat} {S : Nat → Prop} {d : DS} {W : Int} {w : World} (h : (RefA b S d).says w) (hf : d.Fine W) (hW : W < 9223372036854775807) (i : Int) {v : Value} {xs : List Int} (hx : RdS (encInt .u8) 1 w v xs) (hM : ∀ b off n c, v = .slice (some ⟨b, off, none⟩) n c → ¬ S b) (hxl : xs.length ≤ 1000) :
    Calls Try.prog 40 #[.pointer (some ⟨b, 0, none⟩), .int .i64 i, v] w fun e w' => e = .returned (.int .i64 (d.writeR i xs).2) ∧ Ext S w w' ∧ (RefA b (grown S w w') (d.writeR i xs).1).says w' := by
  obtain ⟨r, hr, H⟩ := RefA.opens h
  have hlt := RefA.lt h
  by_cases hok : d.has i ∧ xs.length = 32
  · have hi := hok.1
    unfold DS.has at hi
    obtain ⟨j, rfl⟩ := Int.eq_ofNat_of_zero_le hi.1
    by_cases hz : d.fuse = 0
    · have hw : d.writeR (j : Int) xs = (d, 10) := by unfold DS.writeR; rw [if_neg (by simp [hok.1, hok.2]), if_pos hz]
      rw [hw]
      obtain ⟨A, c, rfl, _⟩ := hx.len
      rw [hok.2]
      exact (write_out H hr hf.fuse.1 hf.fuse.2 hf.len j hi.1 hi.2 hz).mono fun e w' ⟨he, r', hr', H'⟩ => ⟨he, H'.ext, RefA.closes hlt H' hr'⟩
    · have hw : d.writeR (j : Int) xs = (d.write j xs, 0) := by unfold DS.writeR; rw [if_neg (by simp [hok.1, hok.2]), if_neg hz]
      rw [hw]
      exact (write_go H hr hf.fuse.1 hf.fuse.2 hf.len hf.keys ⟨by have := hf.writes; omega, by have := hf.writes; omega⟩ j (by omega) hz hx hM hok.2).mono fun e w' ⟨he, r', hr', H'⟩ => ⟨he, H'.ext, RefA.closes hlt H' hr'⟩
  · have hw : d.writeR i xs = (d, 1) := by unfold DS.writeR; rw [if_pos hok]
    rw [hw]
    obtain ⟨A, c, rfl, _⟩ := hx.len
    exact (write_bad H hr hf.len i (by omega) hok).mono fun e w' ⟨he, hww⟩ => by subst hww; exact ⟨he, H.ext, RefA.closes hlt H hr⟩

theorem settleN_flush {d : DS} {W : Int} (hf : d.Fine W) (hz : d.fuse ≠ 0) : d.spend.1.settleN d.sure.length = d.flush := by
  have hs : d.spend.1.sure = d.sure ∧ d.spend.1.pend = d.pend := by
    by_cases h1 : d.fuse = -1
    · simp [DS.spend, h1]
    · simp [DS.spend, h1, hz]
  have h1 := d.spend.1.settleN_all (by rw [hs.1, hs.2]; exact fun p hp => (hf.pend p hp).2)
  have h2 := d.spend.1.settleN_rest d.sure.length
  have h3 := d.spend.1.settleN_len d.sure.length
  rw [hs.1] at h1 h3
  have hsure : (d.spend.1.settleN d.sure.length).sure = applyAll d.sure d.pend := by
    apply List.ext_getElem
    · rw [h3, applyAll_length]
    · intro k hk1 hk2
      have hk : k < d.sure.length := by rw [h3] at hk1; exact hk1
      have h4 := h1.2 k hk
      rw [List.getD_eq_getElem?_getD, List.getElem?_eq_getElem hk1] at h4
      have h5 := applyAll_get d.pend hf.keys (fun p hp => (hf.pend p hp).2.1) d.sure k hk
      rw [List.getElem?_eq_getElem hk2] at h5
      have h6 := Option.some.inj h5
      rw [h6]
      refine h4.trans ?_
      unfold DS.is
      rw [hs.1, hs.2]
      simp [List.getD_eq_getElem?_getD, hk]
  have hfl : d.flush = ⟨d.spend.1.fuse, applyAll d.sure d.pend, [], d.spend.1.writes⟩ := by unfold DS.flush; rfl
  rw [hfl, ← hsure, ← h1.1, ← h2.1, ← h2.2]
theorem refFlush_any {b : Nat} {S : Nat → Prop} {d : DS} {W : Int} {w : World} (h : (RefA b S d).says w) (hf : d.Fine W) :
    Calls Try.prog 37 #[.pointer (some ⟨b, 0, none⟩)] w fun e w' => e = .returned (.int .i64 d.flushR.2) ∧ Ext S w w' ∧ (RefA b (grown S w w') d.flushR.1).says w' := by
  obtain ⟨r, hr, H⟩ := RefA.opens h
  have hlt := RefA.lt h
  have hc := flush_any H hr hf.fuse.1 hf.fuse.2 hf.len
  by_cases hz : d.fuse = 0
  · have hw : d.flushR = (d, 10) := by unfold DS.flushR; rw [if_pos hz]
    rw [hw]
    rw [if_pos hz, if_pos hz] at hc
    exact hc.mono fun e w' ⟨he, r', hr', H'⟩ => ⟨he, H'.ext, RefA.closes hlt H' hr'⟩
  · have hw : d.flushR = (d.flush, 0) := by unfold DS.flushR; rw [if_neg hz]
    rw [hw]
    rw [if_neg hz, if_neg hz, settleN_flush hf hz] at hc
    exact hc.mono fun e w' ⟨he, r', hr', H'⟩ => ⟨he, H'.ext, RefA.closes hlt H' hr'⟩
end Go.Proofs.Ytjdfeagjbhdceaa
