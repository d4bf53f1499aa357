/- The document's disk: Pending, Write. -/
import Derived.Test.YtjdfeagjbhdceaaRefC
namespace Go.Proofs.Ytjdfeagjbhdceaa
set_option linter.unusedVariables false
set_option linter.unusedSimpArgs false
open Go.RowKit

def PeRel (wet : List Bool) (wS : World) (vn vi : Value) (wr : World) : Prop :=
  ∃ k : Nat, vn = .int .i64 (((wet.take k).countP id : Nat) : Int) ∧ vi = .int .i64 (k : Int) ∧ k ≤ wet.length ∧ wr = wS
set_option maxHeartbeats 1000000 in
theorem pendL_any {M : Nat → Prop} {w0 w : World} {b : Nat} {r : RM} (H : SH M w0 w (r.L b)) (hl : r.wet.length ≤ 4096) :
    Calls Try.prog 44 #[.pointer (some ⟨b, 0, none⟩)] w fun e w' => e = .returned (.int .i64 ((r.wet.countP id : Nat) : Int)) ∧ w' = w := by
  obtain ⟨_, _, _, _, hc4, _, _⟩ := RM.cellsAt (L := []) (by simpa using H)
  have hrow : w.ownsRow 0 4 1 r.v5 (r.wet.map Value.bool).length (r.wet.map Value.bool) := by rw [List.length_map]; exact H.get 5 rfl
  obtain ⟨A, c, hv⟩ := row_len hrow
  rw [List.length_map] at hv
  have hsh := row_shape hrow
  rw [hv] at hc4 hsh
  clear hrow hv H
  generalize r.wet = wet at *
  obtain ⟨cn, hcn⟩ : ∃ cn, wet.countP id = cn := ⟨_, rfl⟩
  rw [hcn]
  have HC := Lib.hid hcn
  clear hcn
  have hcells : ∀ k (h : k < wet.length), ∃ g, A = some ⟨g, 0, none⟩ ∧ w.cell? ⟨g, k, none⟩ = some (.bool wet[k]) := fun k h => by
    rcases hsh with ⟨h0, _⟩ | ⟨g, c', he, hcell⟩
    · have : wet = [] := by simpa using h0
      subst this; simp at h
    · simp only [Value.slice.injEq] at he
      refine ⟨g, he.1, ?_⟩
      have := (hcell k (by simpa using h)).1
      rwa [List.getElem_map] at this
  clear hsh
  go_enter Try.func44, Try.ntmps44
  go_wp2
  go_loopw [3, 4] (fun vn vi wr => PeRel wet w vn vi wr) (fun _ vi _ => wet.length - (intOf vi).toNat)
  case atStart => exact ⟨0, rfl, rfl, Nat.zero_le _, rfl⟩
  case round =>
    obtain ⟨k, rfl, rfl, hk, rfl⟩ := hrel
    have hcl : (wet.take k).countP id ≤ 4096 := Nat.le_trans List.countP_le_length (by rw [List.length_take]; omega)
    by_cases hkn : k < wet.length
    · have hki : (k : Int) < (wet.length : Int) := by omega
      obtain ⟨g, rfl, hcg⟩ := hcells k hkn
      have hst : (wet.take (k + 1)).countP id = (wet.take k).countP id + (if wet[k] then 1 else 0) := by
        rw [List.take_add_one, List.getElem?_eq_getElem hkn, List.countP_append]
        simp [List.countP_cons]
      obtain ⟨ck, hck⟩ : ∃ ck, (wet.take k).countP id = ck := ⟨_, rfl⟩
      rw [hck] at hst hcl ⊢
      have HS := Lib.hid hst
      clear hst hck
      cases hq : wet[k]
      · rw [hq] at hcg HS
        go_wp2
        refine ⟨⟨k + 1, by rw [HS.out]; rfl, by go_num, hkn, rfl⟩, ?_⟩
        simp [intOf]; omega
      · rw [hq] at hcg HS
        go_wp2
        refine ⟨⟨k + 1, by rw [HS.out]; simp, by go_num, hkn, rfl⟩, ?_⟩
        simp [intOf]; omega
    · obtain rfl : k = wet.length := by omega
      rw [List.take_length, HC.out]
      go_wp2
      go_ret
      exact ⟨rfl, rfl⟩
theorem refPending_any {b : Nat} {S : Nat → Prop} {d : DS} {w : World} (h : (RefA b S d).says w) (hl : d.sure.length ≤ 4096) (hk : (d.pend.map (·.1)).Nodup) (hp : ∀ p ∈ d.pend, 0 ≤ p.1 ∧ p.1 < (d.sure.length : Int)) :
    Calls Try.prog 44 #[.pointer (some ⟨b, 0, none⟩)] w fun e w' => e = .returned (.int .i64 (d.pend.length : Int)) ∧ w' = w := by
  obtain ⟨r, hr, H⟩ := RefA.opens h
  have h1 := pendL_any H (by rw [hr.wet]; simp; exact hl)
  rw [hr.wet, count_filter d.pend _ hk hp] at h1
  exact h1

theorem SH.merge {M : Nat → Prop} {w0 w : World} {A B : Asr} {L1 : List Asr} (H : SH M w0 w (A :: (L1 ++ [B]))) (C : Asr) (hs : C.says w) (hf : ∀ i, C.fp i → A.fp i ∨ B.fp i) : SH M w0 w (L1 ++ [C]) := by
  have hA : A ∈ A :: (L1 ++ [B]) := List.mem_cons_self
  have hB : B ∈ A :: (L1 ++ [B]) := by simp
  have h1 := List.pairwise_cons.1 H.apart
  have h2 := List.pairwise_append.1 h1.2
  refine ⟨H.ext, ?_, ?_, ?_, ?_⟩
  · intro X hX
    rcases List.mem_append.1 hX with hX | hX
    · exact H.says X (by simp [hX])
    · rw [List.mem_singleton.1 hX]; exact hs
  · intro X hX i hi
    rcases List.mem_append.1 hX with hX | hX
    · exact H.lt X (by simp [hX]) i hi
    · rw [List.mem_singleton.1 hX] at hi
      rcases hf i hi with h | h
      · exact H.lt A hA i h
      · exact H.lt B hB i h
  · intro X hX i hi
    rcases List.mem_append.1 hX with hX | hX
    · exact H.own X (by simp [hX]) i hi
    · rw [List.mem_singleton.1 hX] at hi
      rcases hf i hi with h | h
      · exact H.own A hA i h
      · exact H.own B hB i h
  · refine List.pairwise_append.2 ⟨h2.1, List.pairwise_singleton _ _, fun X hX Y hY i hi hi' => ?_⟩
    rw [List.mem_singleton.1 hY] at hi'
    rcases hf i hi' with h | h
    · exact h1.1 X (by simp [hX]) i h hi
    · exact h2.2.2 X hX B (by simp) i hi h
theorem RdS.keepM {α : Type} {enc : α → List Value} {k : Nat} {M : Nat → Prop} {w w' : World} {v : Value} {xs : List α} (h : RdS enc k w v xs) (e : Ext M w w') (hM : ∀ b off n c, v = .slice (some ⟨b, off, none⟩) n c → ¬ M b) : RdS enc k w' v xs := by
  obtain ⟨A, cap, rfl, hc, h | ⟨b, off, cs, T, fr, rfl, hb, hcs⟩⟩ := h
  · exact ⟨A, cap, rfl, hc, .inl h⟩
  · exact ⟨_, cap, rfl, hc, .inr ⟨b, off, cs, T, fr, rfl, e.keep hb (hM b off _ _ rfl), hcs⟩⟩

/-- A sector written. -/
def RM.write (r : RM) (i : Nat) (gv : Value) (xs : List Int) : RM := { r with gs := r.gs.set i gv, age := r.age.set i (r.m + 1), wet := r.wet.set i true, m := r.m + 1, bv := (gv, xs) :: r.bv }
theorem write_is (d : DS) (hn : (d.pend.map (·.1)).Nodup) (i k : Nat) (xs : List Int) : (d.write (i : Int) xs).is (k : Int) = if k = i then ⟨xs, d.writes + 1⟩ else d.is (k : Int) := by
  unfold DS.write DS.is
  simp only [getE_putE d.pend hn]
  by_cases hk : k = i
  · subst hk; simp
  · rw [if_neg (by omega), if_neg hk]
    unfold DS.spend
    split
    · rfl
    · split <;> rfl
theorem RM.Ok.write {r : RM} {d d1 : DS} (h : r.Ok d1) (hd : d1 = d.spend.1) (hn : (d.pend.map (·.1)).Nodup) {i : Nat} (hi : i < d.sure.length) (gv : Value) (xs : List Int) : (r.write i gv xs).Ok (d.write (i : Int) xs) := by
  have hs : d1.sure = d.sure ∧ d1.pend = d.pend ∧ d1.writes = d.writes := by
    rw [hd]; unfold DS.spend
    split
    · exact ⟨rfl, rfl, rfl⟩
    · split <;> exact ⟨rfl, rfl, rfl⟩
  have hsw : (d.write (i : Int) xs).sure = d.sure := by rw [← hs.1, hd]; rfl
  have his : ∀ k : Nat, d1.is (k : Int) = d.is (k : Int) := fun k => by unfold DS.is; rw [hs.1, hs.2.1]
  refine ⟨?_, ?_, ?_, ?_, ?_, ?_, ?_, ?_, ?_⟩
  · rw [hsw, ← hs.1]; simpa [RM.write] using h.gl
  · rw [hsw, ← hs.1]; exact h.sl
  · intro k hk
    have hk2 : k < r.gs.length := by simpa [RM.write] using hk
    show ((r.gs.set i gv)[k]'(by simpa using hk2), ((d.write (i : Int) xs).is k).bytes) ∈ (gv, xs) :: r.bv
    rw [write_is d hn]
    by_cases hki : k = i
    · subst hki; simp
    · rw [if_neg hki, List.getElem_set_ne (by omega), ← his]
      exact List.mem_cons_of_mem _ (h.g k hk2)
  · intro k hk
    rw [hsw, ← hs.1]
    exact List.mem_cons_of_mem _ (h.s k hk)
  · rw [hsw]
    show r.age.set i (r.m + 1) = _
    rw [h.age, hs.1, h.m, hs.2.2]
    apply List.ext_getElem
    · simp
    · intro k h1 h2
      simp only [List.getElem_set, List.getElem_map, List.getElem_range, write_is d hn]
      by_cases hki : i = k
      · subst hki; simp
      · rw [if_neg hki, if_neg (fun e => hki e.symm), his]
  · rw [hsw, ← hs.1]; exact h.old
  · rw [hsw]
    show r.wet.set i true = _
    rw [h.wet, hs.1, hs.2.1]
    apply List.ext_getElem
    · simp
    · intro k h1 h2
      simp only [List.getElem_set, List.getElem_map, List.getElem_range, DS.write, getE_putE d.pend hn]
      by_cases hki : i = k
      · subst hki; simp
      · rw [if_neg hki, if_neg (by omega)]
  · have hf := h.f
    rw [hd] at hf
    exact hf
  · show r.m + 1 = _
    rw [h.m, hs.2.2]
    rfl

theorem infoU8 : (Try.prog.info? 5).map (fun i => (i.zero, i.size, i.bytes)) = some (some (.int .u8 0), 1, 1) := by kernel_rfl
set_option maxRecDepth 100000 in
set_option maxHeartbeats 8000000 in
theorem write_go {M : Nat → Prop} {w0 w : World} {b : Nat} {r : RM} {d : DS} (H : SH M w0 w (r.L b)) (hr : r.Ok d) (hf : -1 ≤ d.fuse) (hf2 : d.fuse ≤ 9223372036854775807) (hl : d.sure.length ≤ 4096) (hn : (d.pend.map (·.1)).Nodup) (hw : -1 ≤ d.writes ∧ d.writes < 9223372036854775807)
    (i : Nat) (hi : i < d.sure.length) (hz : d.fuse ≠ 0) {v : Value} {xs : List Int} (hx : RdS (encInt .u8) 1 w0 v xs) (hM : ∀ b off n c, v = .slice (some ⟨b, off, none⟩) n c → ¬ M b) (h32 : xs.length = 32) :
    Calls Try.prog 40 #[.pointer (some ⟨b, 0, none⟩), .int .i64 (i : Int), v] w fun e w' => e = .returned (.int .i64 0) ∧ ∃ r' : RM, r'.Ok (d.write (i : Int) xs) ∧ SH M w0 w' (r'.L b) := by
  have hg := goes_any H hr hf hf2
  have hs := hr.spend hf
  have hb : d.spend.2 = true := by
    unfold DS.spend
    by_cases h1 : d.fuse = -1
    · simp [h1]
    · simp [h1, hz]
  rw [hb] at hg
  have e1 := hr.gl
  have e3 : r.age.length = d.sure.length := by rw [hr.age]; simp
  have e5 : r.wet.length = d.sure.length := by rw [hr.wet]; simp
  have hm := hr.m
  have hrow1 := H.get 1 rfl
  have hrow3 := H.get 3 rfl
  have hrow5 := H.get 5 rfl
  obtain ⟨hc0, _, _, _, _, _, _⟩ := RM.cellsAt (L := []) (by simpa using H)
  generalize (if 0 < r.f then r.f - 1 else r.f) = f' at hg hs
  have HOK := Lib.hid (fun gv => hs.write rfl hn hi gv xs)
  clear hs hr H
  obtain ⟨v1, v2, v3, v4, v5, gs, ss, age, old, wet, f, m, bv⟩ := r
  simp only at e1 e3 e5 hm hc0
  dsimp only at hrow1 hrow3 hrow5
  have shape : ∀ {T : TypeId} {v : Value} {n : Nat} {xs : List Value}, w.ownsRow 0 T 1 v n xs → 0 < n → ∃ g c, v = .slice (some ⟨g, 0, none⟩) n c := fun h h0 => by
    rcases h.2 with ⟨_, h1⟩ | ⟨g, c, cur, h1, _⟩
    · omega
    · exact ⟨g, c, h1⟩
  obtain ⟨g1, c1, rfl⟩ := shape hrow1 (by omega)
  obtain ⟨g3, c3, rfl⟩ := shape hrow3 (by omega)
  obtain ⟨g5, c5, rfl⟩ := shape hrow5 (by omega)
  simp only [RM.fused, RM.L, RM.cells] at hg
  simp only [RM.fused] at HOK
  clear hrow1 hrow3 hrow5 shape
  have i1 : i < gs.length := by omega
  have i3 : i < age.length := by omega
  have i5 : i < wet.length := by omega
  have j1 : (i : Int) < (gs.length : Int) := by omega
  have j3 : (i : Int) < (age.length : Int) := by omega
  have j5 : (i : Int) < (wet.length : Int) := by omega
  have hi0 : ¬ (i : Int) < 0 := by omega
  have m1 : -1 ≤ m := by omega
  have m2 : m < 9223372036854775807 := by omega
  obtain ⟨Av, cv, rfl, hcv⟩ := hx.len
  have hlb : ((xs.length : Nat) : Int) = 32 := by omega
  have hnb : (0 + xs.length) * 1 ≤ 140737488355328 := by omega
  have hnm : 0 + xs.length ≤ maxLen := by simp only [maxLen]; omega
  have HX : Hid (RdS (encInt .u8) 1 w0 (.slice Av 32 cv) xs) := Lib.hid (by rw [← h32]; exact hx)
  have HMM : Hid (∀ b off n c, Value.slice Av 32 cv = .slice (some ⟨b, off, none⟩) n c → ¬ M b) := Lib.hid (by rw [← h32]; exact hM)
  have hgl4 : gs.length ≤ 4096 := by omega
  clear hx hM hb hm e1 e3 e5
  rw [h32]
  go_enter Try.func40, Try.ntmps40
  go_wp2_with (go_at_call 55; refine hg.mono ?_; clear hc0; rintro e w1 ⟨rfl, H⟩; have hbk := H.at_ 0 rfl; have hc6 := cell_of_row w1 b 6 _ _ _ hbk; have hf6 := frozen_of_row w1 b 6 _ _ hbk; clear hbk)
  have H2 := H.setCell (off := 6) 0 (.int .i64 (m + 1)) rfl
  simp only [List.set_cons_zero] at H2
  have H2' : SH M w0 (w1.setCell ⟨b, 6, none⟩ (.int .i64 (m + 1))) [pt b (.cells #[.slice (some ⟨g1, 0, none⟩) gs.length c1, v2, .slice (some ⟨g3, 0, none⟩) age.length c3, v4, .slice (some ⟨g5, 0, none⟩) wet.length c5, .int .i64 f', .int .i64 (m + 1)] 63 (0, 0)),
      ownA 48 1 (.slice (some ⟨g1, 0, none⟩) gs.length c1) gs.length gs, ownA 48 1 v2 ss.length ss, ownA 3 1 (.slice (some ⟨g3, 0, none⟩) age.length c3) age.length (age.map (Value.int .i64)), ownA 3 1 v4 old.length (old.map (Value.int .i64)),
      ownA 4 1 (.slice (some ⟨g5, 0, none⟩) wet.length c5) wet.length (wet.map Value.bool), bytesA bv] := H2
  clear H H2 hc6 hf6
  have H := H2'
  clear H2'
  generalize w1.setCell ⟨b, 6, none⟩ (.int .i64 (m + 1)) = w2 at H ⊢
  have H3 := H.drop (L' := [_]) (List.Sublist.cons_cons _ (List.nil_sublist _))
  refine D_start H3 (by kernel_rfl) (fun hS => ?_)
  try simp only [Act.put, List.setIfInBounds_toArray, List.set_cons_succ, List.set_cons_zero]
  refine D_take 0 (v := ?_) rfl (by kernel_rfl) (by kernel_rfl) (by kernel_rfl) (fun _ _ _ h => h) rfl (by rfl) (fun W hS => ?_) hS ?_
  rotate_left; (focus (first | (go_simp; done) | (go_simp; with_reducible rfl) | (go_simp; rfl))); all_goals skip; (try simp only [List.set_cons_succ, List.set_cons_zero])
  refine D_take 1 (v := ?_) rfl (by kernel_rfl) (by kernel_rfl) (by kernel_rfl) (fun _ _ _ h => h) rfl (by rfl) (fun W hS => ?_) hS ?_
  rotate_left; (focus (first | (go_simp; done) | (go_simp; with_reducible rfl) | (go_simp; rfl))); all_goals skip; (try simp only [List.set_cons_succ, List.set_cons_zero])
  refine D_take 2 (v := ?_) rfl (by kernel_rfl) (by kernel_rfl) (by kernel_rfl) (fun _ _ _ h => h) rfl (by rfl) (fun W hS => ?_) hS ?_
  rotate_left; (focus (first | (go_simp; done) | (go_simp; with_reducible rfl) | (go_simp; rfl))); all_goals skip; (try simp only [List.set_cons_succ, List.set_cons_zero])
  refine D_take 3 (v := ?_) rfl (by kernel_rfl) (by kernel_rfl) (by kernel_rfl) (fun _ _ _ h => h) rfl (by rfl) (fun W hS => ?_) hS ?_
  rotate_left; (focus (first | (refine R_load1 (ty := 59) (x := Operand.tmp 35) rfl hS 0 rfl rfl ?_ Try.isAgg59; rfl))); all_goals skip; (try simp only [List.set_cons_succ, List.set_cons_zero, List.getElem_toArray, List.getElem_cons_succ, List.getElem_cons_zero])
  refine D_take 4 (v := ?_) rfl (by kernel_rfl) (by kernel_rfl) (by kernel_rfl) (fun _ _ _ h => h) rfl (by rfl) (fun W hS => ?_) hS ?_
  rotate_left; (focus (first | (go_simp; done) | (go_simp; with_reducible rfl) | (go_simp; rfl))); all_goals skip; (try simp only [List.set_cons_succ, List.set_cons_zero])
  refine D_take 5 (v := ?_) rfl (by kernel_rfl) (by kernel_rfl) (by kernel_rfl) (fun _ _ _ h => h) rfl (by rfl) (fun W hS => ?_) hS ?_
  rotate_left; (focus (first | (go_simp; done) | (go_simp; with_reducible rfl) | (go_simp; rfl))); all_goals skip; (try simp only [List.set_cons_succ, List.set_cons_zero])
  refine D_take 6 (v := ?_) rfl (by kernel_rfl) (by kernel_rfl) (by kernel_rfl) (fun _ _ _ h => h) rfl (by rfl) (fun W hS => ?_) hS ?_
  rotate_left; (focus (first | (go_simp; done) | (go_simp; with_reducible rfl) | (go_simp; rfl))); all_goals skip; (try simp only [List.set_cons_succ, List.set_cons_zero])
  refine D_take 7 (v := ?_) rfl (by kernel_rfl) (by kernel_rfl) (by kernel_rfl) (fun _ _ _ h => h) rfl (by rfl) (fun W hS => ?_) hS ?_
  rotate_left; (focus (first | (go_simp; done) | (go_simp; with_reducible rfl) | (go_simp; rfl))); all_goals skip; (try simp only [List.set_cons_succ, List.set_cons_zero])
  refine D_take 8 (v := ?_) rfl (by kernel_rfl) (by kernel_rfl) (by kernel_rfl) (fun _ _ _ h => h) rfl (by rfl) (fun W hS => ?_) hS ?_
  rotate_left; (focus (first | (refine R_load1 (ty := 60) (x := Operand.tmp 40) rfl hS 0 rfl rfl ?_ Try.isAgg60; rfl))); all_goals skip; (try simp only [List.set_cons_succ, List.set_cons_zero, List.getElem_toArray, List.getElem_cons_succ, List.getElem_cons_zero])
  refine D_take 9 (v := ?_) rfl (by kernel_rfl) (by kernel_rfl) (by kernel_rfl) (fun _ _ _ h => h) rfl (by rfl) (fun W hS => ?_) hS ?_
  rotate_left; (focus (first | (go_simp; done) | (go_simp; with_reducible rfl) | (go_simp; rfl))); all_goals skip; (try simp only [List.set_cons_succ, List.set_cons_zero])
  refine D_take 10 (v := ?_) rfl (by kernel_rfl) (by kernel_rfl) (by kernel_rfl) (fun _ _ _ h => h) rfl (by rfl) (fun W hS => ?_) hS ?_
  rotate_left; (focus (first | (go_simp; done) | (go_simp; with_reducible rfl) | (go_simp; rfl))); all_goals skip; (try simp only [List.set_cons_succ, List.set_cons_zero])
  refine D_take 11 (v := ?_) rfl (by kernel_rfl) (by kernel_rfl) (by kernel_rfl) (fun _ _ _ h => h) rfl (by rfl) (fun W hS => ?_) hS ?_
  rotate_left; (focus (first | (go_simp; done) | (go_simp; with_reducible rfl) | (go_simp; rfl))); all_goals skip; (try simp only [List.set_cons_succ, List.set_cons_zero])
  refine D_take 12 (v := ?_) rfl (by kernel_rfl) (by kernel_rfl) (by kernel_rfl) (fun _ _ _ h => h) rfl (by rfl) (fun W hS => ?_) hS ?_
  rotate_left; (focus (first | (go_simp; done) | (go_simp; with_reducible rfl) | (go_simp; rfl))); all_goals skip; (try simp only [List.set_cons_succ, List.set_cons_zero])
  refine D_take 13 (v := ?_) rfl (by kernel_rfl) (by kernel_rfl) (by kernel_rfl) (fun _ _ _ h => h) rfl (by rfl) (fun W hS => ?_) hS ?_
  rotate_left; (focus (first | (refine R_load1 (ty := 61) (x := Operand.tmp 45) rfl hS 0 rfl rfl ?_ Try.isAgg61; rfl))); all_goals skip; (try simp only [List.set_cons_succ, List.set_cons_zero, List.getElem_toArray, List.getElem_cons_succ, List.getElem_cons_zero])
  refine D_take 14 (v := ?_) rfl (by kernel_rfl) (by kernel_rfl) (by kernel_rfl) (fun _ _ _ h => h) rfl (by rfl) (fun W hS => ?_) hS ?_
  rotate_left; (focus (first | (go_simp; done) | (go_simp; with_reducible rfl) | (go_simp; rfl))); all_goals skip; (try simp only [List.set_cons_succ, List.set_cons_zero])
  refine D_take 16 (v := ?_) rfl (by kernel_rfl) (by kernel_rfl) (by kernel_rfl) (fun _ _ _ h => h) rfl (by rfl) (fun W hS => ?_) hS ?_
  rotate_left; (focus (first | (go_simp; done) | (go_simp; with_reducible rfl) | (go_simp; rfl))); all_goals skip; (try simp only [List.set_cons_succ, List.set_cons_zero])
  refine D_take 18 (v := ?_) rfl (by kernel_rfl) (by kernel_rfl) (by kernel_rfl) (fun _ _ _ h => h) rfl (by rfl) (fun W hS => ?_) hS ?_
  rotate_left; (focus (first | (go_simp; done) | (go_simp; with_reducible rfl) | (go_simp; rfl))); all_goals skip; (try simp only [List.set_cons_succ, List.set_cons_zero])
  refine D_take 19 (v := ?_) rfl (by kernel_rfl) (by kernel_rfl) (by kernel_rfl) (fun _ _ _ h => h) rfl (by rfl) (fun W hS => ?_) hS ?_
  rotate_left; (focus (first | (go_simp; done) | (go_simp; with_reducible rfl) | (go_simp; rfl))); all_goals skip; (try simp only [List.set_cons_succ, List.set_cons_zero])
  refine D_take 20 (v := ?_) rfl (by kernel_rfl) (by kernel_rfl) (by kernel_rfl) (fun _ _ _ h => h) rfl (by rfl) (fun W hS => ?_) hS ?_
  rotate_left; (focus (first | (go_simp; done) | (go_simp; with_reducible rfl) | (go_simp; rfl))); all_goals skip; (try simp only [List.set_cons_succ, List.set_cons_zero])
  refine D_take 21 (v := ?_) rfl (by kernel_rfl) (by kernel_rfl) (by kernel_rfl) (fun _ _ _ h => h) rfl (by rfl) (fun W hS => ?_) hS ?_
  rotate_left; (focus (first | (refine R_load1 (ty := 3) (x := Operand.tmp 53) rfl hS 0 rfl rfl ?_ Try.isAgg3; rfl))); all_goals skip; (try simp only [List.set_cons_succ, List.set_cons_zero, List.getElem_toArray, List.getElem_cons_succ, List.getElem_cons_zero])
  refine D_one 15 rfl (by kernel_rfl) (by rfl) ?_
  have HW := H.drew.alloc (.cells #[] 5)
  have HW2 := HW.toOwn 0 rfl 1 0 0 (Nat.le_refl _) (Nat.zero_le _) rfl [] rfl
  simp only [List.set_cons_zero] at HW2
  clear hS
  have hS := HW2.drop (L' := [_]) (List.Sublist.cons _ (List.Sublist.cons_cons _ (List.nil_sublist _)))
  refine wp_of_value (v := .slice (some ⟨w2.drew.heap.size, 0, none⟩) 0 0) (w' := w2.drew.alloc (.cells #[] 5)) (by first | (go_simp; done) | (go_simp; rfl)) ⟨hS, ?_⟩
  try simp only [Act.put, List.getElem_toArray, List.getElem_cons_succ, List.getElem_cons_zero, List.setIfInBounds_toArray, List.set_cons_succ, List.set_cons_zero]
  refine D_one 17 rfl (by kernel_rfl) (by rfl) ?_
  refine W_append (encInt_len .u8) (encInt_one .u8) (s := .tmp 48) (x := .tmp 49) (xv := .slice Av 32 cv) (ys := xs) rfl Try.underlying48 infoU8 rfl (by decide) HW2 0 rfl rfl rfl (HX.out.keepM HW2.ext HMM.out) hnb hnm ?_
  intro vn w4 HW3 hnn
  simp only [List.set_cons_zero, List.nil_append, Nat.zero_add] at HW3
  obtain ⟨gn, cn, rfl⟩ : ∃ gn cn, vn = .slice (some ⟨gn, 0, none⟩) xs.length cn := by
    rcases (HW3.get 0 rfl).2 with ⟨_, h1⟩ | ⟨g, c, cur, h1, _⟩
    · omega
    · exact ⟨g, c, h1⟩
  clear hS
  have hS := HW3.drop (L' := [_]) (List.Sublist.cons _ (List.Sublist.cons_cons _ (List.nil_sublist _)))
  refine ⟨hS, ?_⟩
  try simp only [Act.put, List.getElem_toArray, List.getElem_cons_succ, List.getElem_cons_zero, List.setIfInBounds_toArray, List.set_cons_succ, List.set_cons_zero]
  refine D_take 22 (v := ?_) rfl (by kernel_rfl) (by kernel_rfl) (by kernel_rfl) (fun _ _ _ h => h) rfl (by rfl) (fun W hS => ?_) hS ?_
  rotate_left; (focus (first | (go_simp; done) | (go_simp; with_reducible rfl) | (go_simp; rfl))); all_goals skip; (try simp only [List.set_cons_succ, List.set_cons_zero])
  refine D_one 23 rfl (by kernel_rfl) (by rfl) ?_
  obtain ⟨u1, hu1, hf1⟩ := ownCell (HW3.get 2 rfl) i1
  have HW4 := HW3.setOwn 2 (.slice (some ⟨gn, 0, none⟩) xs.length cn) rfl i1
  simp only [List.set_cons_succ, List.set_cons_zero] at HW4
  clear hS
  have hS := HW4.drop (L' := [_]) (List.Sublist.cons _ (List.Sublist.cons_cons _ (List.nil_sublist _)))
  refine wp_of_skip (R_store1 (ty := 48) (x := .tmp 55) (y := .tmp 50) (g := g1) (j := i) (v := .slice (some ⟨gn, 0, none⟩) xs.length cn) rfl rfl rfl rfl rfl hu1 hf1 Try.sizeOf48) ⟨hS, ?_⟩
  try simp only [Act.put, List.getElem_toArray, List.getElem_cons_succ, List.getElem_cons_zero, List.setIfInBounds_toArray, List.set_cons_succ, List.set_cons_zero]
  refine D_take 24 (v := ?_) rfl (by kernel_rfl) (by kernel_rfl) (by kernel_rfl) (fun _ _ _ h => h) rfl (by rfl) (fun W hS => ?_) hS ?_
  rotate_left; (focus (first | (go_simp; done) | (go_simp; with_reducible rfl) | (go_simp; rfl))); all_goals skip; (try simp only [List.set_cons_succ, List.set_cons_zero])
  refine D_one 25 rfl (by kernel_rfl) (by rfl) ?_
  obtain ⟨u3, hu3, hf3⟩ := ownCell (HW4.get 4 rfl) i3
  have HW5 := HW4.setOwn 4 (.int .i64 (m + 1)) rfl i3
  simp only [List.set_cons_succ, List.set_cons_zero] at HW5
  clear hS
  have hS := HW5.drop (L' := [_]) (List.Sublist.cons _ (List.Sublist.cons_cons _ (List.nil_sublist _)))
  refine wp_of_skip (R_store1 (ty := 3) (x := .tmp 56) (y := .tmp 54) (g := g3) (j := i) (v := .int .i64 (m + 1)) rfl rfl rfl rfl rfl hu3 hf3 Try.sizeOf3) ⟨hS, ?_⟩
  try simp only [Act.put, List.getElem_toArray, List.getElem_cons_succ, List.getElem_cons_zero, List.setIfInBounds_toArray, List.set_cons_succ, List.set_cons_zero]
  refine D_take 26 (v := ?_) rfl (by kernel_rfl) (by kernel_rfl) (by kernel_rfl) (fun _ _ _ h => h) rfl (by rfl) (fun W hS => ?_) hS ?_
  rotate_left; (focus (first | (go_simp; done) | (go_simp; with_reducible rfl) | (go_simp; rfl))); all_goals skip; (try simp only [List.set_cons_succ, List.set_cons_zero])
  refine D_one 27 rfl (by kernel_rfl) (by rfl) ?_
  obtain ⟨u5, hu5, hf5⟩ := ownCell (HW5.get 6 rfl) i5
  have HW6 := HW5.setOwn 6 (.bool true) rfl i5
  simp only [List.set_cons_succ, List.set_cons_zero] at HW6
  clear hS
  have hS := HW6.drop (L' := [_]) (List.Sublist.cons _ (List.Sublist.cons_cons _ (List.nil_sublist _)))
  refine wp_of_skip (R_store1 (ty := 4) (x := .tmp 57) (y := .const (.bool true)) (g := g5) (j := i) (v := .bool true) rfl rfl rfl rfl rfl hu5 hf5 Try.sizeOf4) ⟨hS, ?_⟩
  try simp only [Act.put, List.getElem_toArray, List.getElem_cons_succ, List.getElem_cons_zero, List.setIfInBounds_toArray, List.set_cons_succ, List.set_cons_zero]
  refine wpAnyH_done (by kernel_rfl) ?_ _
  go_wp2_with fail
  go_ret
  refine ⟨rfl, _, HOK.out (.slice (some ⟨gn, 0, none⟩) xs.length cn), ?_⟩
  have hown := RdS.own (encInt_len .u8) rfl (HW6.get 0 rfl)
  have hbv := HW6.get 7 rfl
  have HF := SH.merge (L1 := [_, _, _, _, _, _]) HW6 (bytesA ((.slice (some ⟨gn, 0, none⟩) xs.length cn, xs) :: bv)) (fun p hp => by
    rcases List.mem_cons.1 hp with rfl | hp
    · exact hown
    · exact hbv p hp) (fun i hi => by
    obtain ⟨p, hp, off, n, c, he⟩ := hi
    rcases List.mem_cons.1 hp with rfl | hp
    · left
      simp only [Value.slice.injEq, Option.some.injEq, Addr.mk.injEq] at he
      show Value.ownBlock _ = some i
      simp [Value.ownBlock, he.1.1]
    · exact .inr ⟨p, hp, off, n, c, he⟩)
  simp only [RM.L, RM.cells, RM.write, List.length_set, List.map_set]
  exact HF
end Go.Proofs.Ytjdfeagjbhdceaa
