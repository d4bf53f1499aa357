/- Spans: space.Find, space.Free walked. -/
import Derived.Test.YtjdfeagjbhdceaaSpaceE
namespace Go.Proofs.Ytjdfeagjbhdceaa
set_option linter.unusedVariables false
set_option linter.unusedSimpArgs false
open Go.RowKit Go.Shelf

theorem findL_cons (h : Sp) (r : List Sp) (n : Int) : findL (h :: r) n = if 1 ≤ n ∧ n ≤ h.len then (h.at_, true) else findL r n := by
  unfold findL
  by_cases hc : 1 ≤ n ∧ n ≤ h.len
  · rw [List.find?_cons_of_pos (by simp [hc.1, hc.2]), if_pos hc]
  · rw [List.find?_cons_of_neg (by simp; omega), if_neg hc]
theorem holesL_small {xs : List Sp} {t : Int} (ht0 : 0 ≤ t) : ∀ h ∈ holesL xs t, 1 ≤ h.len ∧ 0 ≤ h.at_ ∧ h.at_ + h.len ≤ t := by
  intro h hh
  unfold holesL at hh
  split at hh
  · obtain ⟨h1, h2, h3, _⟩ := holeOk_run _ _ h hh
    exact ⟨h1, h2, by omega⟩
  · simp at hh
theorem free_le {xs : List Sp} {t : Int} (ht0 : 0 ≤ t) : 0 ≤ freeL xs t ∧ freeL xs t ≤ t := by
  unfold freeL
  split
  · have := cnt_range (fun k => !occ xs k) t.toNat; omega
  · omega
theorem sumLen_le (hs : List Sp) (hp : ∀ h ∈ hs, 1 ≤ h.len) (k : Nat) : 0 ≤ sumLen (hs.take k) ∧ sumLen (hs.take k) ≤ sumLen hs := by
  have h0 : ∀ l : List Sp, (∀ h ∈ l, 1 ≤ h.len) → 0 ≤ sumLen l := by
    intro l
    induction l with
    | nil => intro _; simp [sumLen]
    | cons x l ih =>
      intro h
      have h1 := ih (fun y hy => h y (List.mem_cons_of_mem _ hy))
      have h2 := h x List.mem_cons_self
      simp only [sumLen, List.map_cons, List.sum_cons] at h1 ⊢
      omega
  have h1 := h0 (hs.take k) (fun h hh => hp h (List.mem_of_mem_take hh))
  have h2 := h0 (hs.drop k) (fun h hh => hp h (List.mem_of_mem_drop hh))
  have h3 : sumLen hs = sumLen (hs.take k) + sumLen (hs.drop k) := by rw [← sumLen_append, List.take_append_drop]
  omega
theorem holesL_len {xs : List Sp} {t : Int} (ht0 : 0 ≤ t) (ht : t ≤ 4096) : (holesL xs t).length ≤ 4096 := by
  have h1 := holesL_small (xs := xs) ht0
  have h2 := free_sum xs t
  have h3 := free_le (xs := xs) ht0
  have h4 : ∀ l : List Sp, (∀ h ∈ l, 1 ≤ h.len) → (l.length : Int) ≤ sumLen l := by
    intro l
    induction l with
    | nil => intro _; simp [sumLen]
    | cons x l ih =>
      intro h
      have h1 := ih (fun y hy => h y (List.mem_cons_of_mem _ hy))
      have h2 := h x List.mem_cons_self
      simp only [sumLen, List.map_cons, List.sum_cons, List.length_cons] at h1 ⊢
      omega
  have := h4 _ (fun h hh => (h1 h hh).1)
  omega

def FiRel (hs : List Sp) (n : Int) (wS : World) (vi : Value) (wr : World) : Prop :=
  ∃ k : Nat, vi = .int .i64 (k : Int) ∧ k ≤ hs.length ∧ Hid (findL (hs.drop k) n = findL hs n) ∧ SH (fun _ => False) wS wr []
set_option maxRecDepth 100000 in
set_option maxHeartbeats 8000000 in
theorem find_any (sv : Value) (xs : List Sp) (t n : Int) (w0 : World) (hlen : xs.length ≤ 1000) (hr : RdS Sp.cells 2 w0 sv xs) (ht0 : 0 ≤ t) (ht : t ≤ 4096) (hsm : Small xs) :
    Calls Try.prog 13 #[sv, .int .i64 t, .int .i64 n] w0 fun e w' => e = .returned (.tuple #[.int .i64 (findL (holesL xs t) n).1, .bool (findL (holesL xs t) n).2]) ∧ Ext0 w0 w' := by
  have hho := holes_any sv xs t w0 hlen hr ht0 ht hsm
  have hl := holesL_len (xs := xs) ht0 ht
  generalize holesL xs t = hs at hho hl ⊢
  obtain ⟨⟨qa, qb⟩, hq⟩ : ∃ q, findL hs n = q := ⟨_, rfl⟩
  rw [hq]
  have HQ := Lib.hid hq
  clear hq
  go_enter Try.func13, Try.ntmps13
  go_wp2_with (go_at_call 19; refine hho.mono ?_; rintro e wS ⟨⟨v, rfl, hrd⟩, hE⟩; obtain ⟨A, cap, rfl, hcap⟩ := hrd.len)
  have HE := Lib.hid hE
  clear hho hE hcap hr
  go_loopw [9, 14] (fun _ vi wr => FiRel hs n wS vi wr) (fun _ vi _ => hs.length - (intOf vi).toNat)
  case atStart => exact ⟨0, rfl, Nat.zero_le _, Lib.hid rfl, SH.nil _ _⟩
  case round =>
    obtain ⟨k, rfl, hk, HR, H⟩ := hrel
    by_cases hkn : k < hs.length
    · have hki : (k : Int) < (hs.length : Int) := by omega
      obtain ⟨b, off, cs, T, fr, rfl, hb, hcs⟩ := hrd.cell hkn
      have hdr : hs.drop k = hs[k] :: hs.drop (k + 1) := List.drop_eq_getElem_cons hkn
      generalize hs[k] = s at hcs hdr
      have hcs2 : ∀ j, j < 2 → cs[off + k * 2 + j]? = [Value.int .i64 s.at_, .int .i64 s.len][j]? := hcs
      have HR2 := Lib.hid (show (if 1 ≤ n ∧ n ≤ s.len then (s.at_, true) else findL (hs.drop (k + 1)) n) = findL hs n by rw [← findL_cons, ← hdr]; exact HR.out)
      clear hcs hdr HR
      go_wp2_with (refine L_loadmidr (ty := 34) (b := b) (off := off + k * 2) rfl rfl H rfl hb (fun e => e) Try.underlying34 rfl info34 [.int .i64 s.at_, .int .i64 s.len] rfl hcs2 ?_; (try simp only [Act.put, List.setIfInBounds_toArray, List.set_cons_succ, List.set_cons_zero, List.getElem_toArray, List.getElem_cons_succ, List.getElem_cons_zero]))
      all_goals first
        | (go_ret2
           refine ⟨?_, HE.out.trans0 (H.alloc _).ext⟩
           have h1 := HR2.out
           rw [HQ.out, if_pos (by omega)] at h1
           cases h1
           rfl)
        | (refine ⟨⟨k + 1, by go_num, hkn, Lib.hid (by rw [← HR2.out, if_neg (by omega)]), (H.alloc _).drop (List.nil_sublist _)⟩, ?_⟩
           simp [intOf]; omega)
    · obtain rfl : k = hs.length := by omega
      go_wp2
      go_ret2
      refine ⟨?_, HE.out.trans0 H.ext⟩
      have h1 := HR.out
      rw [HQ.out, List.drop_length] at h1
      cases h1
      rfl

def FrRel (hs : List Sp) (wS : World) (vn vi : Value) (wr : World) : Prop :=
  ∃ k : Nat, vn = .int .i64 (sumLen (hs.take k)) ∧ vi = .int .i64 (k : Int) ∧ k ≤ hs.length ∧ SH (fun _ => False) wS wr []
set_option maxRecDepth 100000 in
set_option maxHeartbeats 8000000 in
theorem free_any (sv : Value) (xs : List Sp) (t : Int) (w0 : World) (hlen : xs.length ≤ 1000) (hr : RdS Sp.cells 2 w0 sv xs) (ht0 : 0 ≤ t) (ht : t ≤ 4096) (hsm : Small xs) :
    Calls Try.prog 21 #[sv, .int .i64 t] w0 fun e w' => e = .returned (.int .i64 (freeL xs t)) ∧ Ext0 w0 w' := by
  have hho := holes_any sv xs t w0 hlen hr ht0 ht hsm
  have hl := holesL_len (xs := xs) ht0 ht
  have hp := fun h hh => (holesL_small (xs := xs) ht0 h hh).1
  have hfr := free_sum xs t
  have hfl := free_le (xs := xs) ht0
  generalize freeL xs t = fr at hfr hfl ⊢
  generalize holesL xs t = hs at hho hl hp hfr
  have hsum := sumLen_le hs hp
  rw [hfr] at hsum
  have HF := Lib.hid (And.intro hfr hsum)
  clear hfr hsum hp
  go_enter Try.func21, Try.ntmps21
  go_wp2_with (go_at_call 19; refine hho.mono ?_; rintro e wS ⟨⟨v, rfl, hrd⟩, hE⟩; obtain ⟨A, cap, rfl, hcap⟩ := hrd.len)
  have HE := Lib.hid hE
  clear hho hE hcap hr
  go_loopw [5, 7, 12] (fun vn _ vi wr => FrRel hs wS vn vi wr) (fun _ _ vi _ => hs.length - (intOf vi).toNat)
  case atStart => exact ⟨0, rfl, rfl, Nat.zero_le _, SH.nil _ _⟩
  case round =>
    obtain ⟨k, rfl, rfl, hk, H⟩ := hrel
    by_cases hkn : k < hs.length
    · have hki : (k : Int) < (hs.length : Int) := by omega
      obtain ⟨b, off, cs, T, fr2, rfl, hb, hcs⟩ := hrd.cell hkn
      have htk : hs.take (k + 1) = hs.take k ++ [hs[k]] := by rw [List.take_add_one, List.getElem?_eq_getElem hkn]; rfl
      generalize hs[k] = s at hcs htk
      have hcs2 : ∀ j, j < 2 → cs[off + k * 2 + j]? = [Value.int .i64 s.at_, .int .i64 s.len][j]? := hcs
      have hst : sumLen (hs.take (k + 1)) = sumLen (hs.take k) + s.len := by rw [htk, sumLen_append]; simp [sumLen]
      have b1 := HF.out.2 k
      have b2 := HF.out.2 (k + 1)
      obtain ⟨sk, hsk⟩ : ∃ sk, sumLen (hs.take k) = sk := ⟨_, rfl⟩
      rw [hst] at b2
      have HS := Lib.hid hst
      rw [hsk] at b1 b2 HS ⊢
      clear hcs htk hst hsk
      go_wp2_with (refine L_loadmidr (ty := 34) (b := b) (off := off + k * 2) rfl rfl H rfl hb (fun e => e) Try.underlying34 rfl info34 [.int .i64 s.at_, .int .i64 s.len] rfl hcs2 ?_; (try simp only [Act.put, List.setIfInBounds_toArray, List.set_cons_succ, List.set_cons_zero, List.getElem_toArray, List.getElem_cons_succ, List.getElem_cons_zero]))
      refine ⟨⟨k + 1, by rw [HS.out], by go_num, hkn, (H.alloc _).drop (List.nil_sublist _)⟩, ?_⟩
      simp [intOf]; omega
    · obtain rfl : k = hs.length := by omega
      have hfin : sumLen (hs.take hs.length) = fr := by rw [List.take_length]; exact HF.out.1
      rw [hfin]
      go_wp2
      go_ret
      exact ⟨rfl, HE.out.trans0 H.ext⟩
end Go.Proofs.Ytjdfeagjbhdceaa
