/- The document's disk: goes, Pending, Flush. -/
import Derived.Test.YtjdfeagjbhdceaaRefB
namespace Go.Proofs.Ytjdfeagjbhdceaa
set_option linter.unusedVariables false
set_option linter.unusedSimpArgs false
open Go.RowKit

def RM.fused (r : RM) (f : Int) : RM := { r with f := f }
theorem RM.Ok.spend {r : RM} {d : DS} (h : r.Ok d) (hf : -1 ≤ d.fuse) : (r.fused (if 0 < r.f then r.f - 1 else r.f)).Ok d.spend.1 := by
  have h1 := h.f
  unfold DS.spend
  by_cases ha : d.fuse = -1
  · rw [if_pos ha]
    have := h1.2.1 (by omega)
    rw [if_neg (by omega)]
    exact h
  · rw [if_neg ha]
    by_cases hb : d.fuse = 0
    · rw [if_pos hb]
      have := h1.1 (by omega)
      rw [if_neg (by omega)]
      exact h
    · rw [if_neg hb]
      have := h1.1 (by omega)
      rw [if_pos (by omega)]
      exact ⟨h.gl, h.sl, h.g, h.s, h.age, h.old, h.wet, ⟨fun _ => by show r.f - 1 = d.fuse - 1; omega, fun hh => by simp only at hh; omega, by show _ ≤ r.f - 1; omega⟩, h.m⟩
theorem spend_bool {r : RM} {d : DS} (h : r.Ok d) (hf : -1 ≤ d.fuse) : d.spend.2 = (r.f != 0) := by
  have h1 := h.f
  unfold DS.spend
  by_cases ha : d.fuse = -1
  · rw [if_pos ha]
    have := h1.2.1 (by omega)
    simp; omega
  · rw [if_neg ha]
    by_cases hb : d.fuse = 0
    · rw [if_pos hb]
      have := h1.1 (by omega)
      simp; omega
    · rw [if_neg hb]
      have := h1.1 (by omega)
      simp; omega

set_option maxHeartbeats 1000000 in
theorem goes_any {M : Nat → Prop} {w0 w : World} {b : Nat} {r : RM} {d : DS} (H : SH M w0 w (r.L b)) (hr : r.Ok d) (hf : -1 ≤ d.fuse) (hf2 : d.fuse ≤ 9223372036854775807) :
    Calls Try.prog 55 #[.pointer (some ⟨b, 0, none⟩)] w fun e w' => e = .returned (.bool d.spend.2) ∧ SH M w0 w' ((r.fused (if 0 < r.f then r.f - 1 else r.f)).L b) := by
  rw [spend_bool hr hf]
  have hb : w.heap[b]? = some (.cells r.cells 63 (0, 0)) := H.at_ 0 rfl
  have hc5 : w.cell? ⟨b, 5, none⟩ = some (.int .i64 r.f) := cell_of_row w b 5 _ _ _ hb
  have hf5 := frozen_of_row w b 5 _ _ hb
  have hbd := hr.f
  have hfb : r.f ≤ 9223372036854775807 := by
    by_cases h0 : 0 ≤ d.fuse
    · have := hbd.1 h0; omega
    · have := hbd.2.1 (by omega); omega
  have hfl := hbd.2.2
  have H5 := H.setCell (off := 5) 0 (.int .i64 (r.f - 1)) rfl
  by_cases h1 : 0 < r.f
  · rw [if_pos h1, show (r.f != 0) = true by simp; omega]
    have HH5 : Hid (SH M w0 (w.setCell ⟨b, 5, none⟩ (.int .i64 (r.f - 1))) ((r.fused (r.f - 1)).L b)) := Lib.hid H5
    clear hb hr hbd H H5
    generalize (r.fused (r.f - 1)).L b = L' at HH5 ⊢
    generalize r.f = f at *
    go_enter Try.func55, Try.ntmps55
    go_wp2
    go_ret
    exact ⟨rfl, HH5.out⟩
  · rw [if_neg h1]
    have HH : Hid (SH M w0 w ((r.fused r.f).L b)) := Lib.hid H
    clear hb hr hbd H H5
    generalize (r.fused r.f).L b = L' at HH ⊢
    generalize r.f = f at *
    by_cases hz : f = 0
    · subst hz
      go_enter Try.func55, Try.ntmps55
      go_wp2
      go_ret
      exact ⟨rfl, HH.out⟩
    · have h9 : f < 0 := by omega
      rw [show (f != 0) = true by simp; omega]
      go_enter Try.func55, Try.ntmps55
      go_wp2
      go_ret
      exact ⟨rfl, HH.out⟩

/-- How many are pending. -/
theorem count_filter (es : List (Int × St)) : ∀ (n : Nat), (es.map (·.1)).Nodup → (∀ p ∈ es, 0 ≤ p.1 ∧ p.1 < (n : Int)) → (((List.range n).map fun (i : Nat) => (getE es (i : Int)).isSome).countP id) = es.length
  | 0, _, h => by
    cases es with
    | nil => rfl
    | cons p es => have := h p List.mem_cons_self; omega
  | n + 1, hn, h => by
    have hf : ∀ k : Int, getE (es.filter (fun p => p.1 != (n : Int))) k = if k = (n : Int) then none else getE es k := getE_filter es n
    have ih := count_filter (es.filter (fun p => p.1 != (n : Int))) n ((List.filter_sublist.map _).nodup hn) (fun p hp => by
      obtain ⟨h1, h2⟩ := List.mem_filter.1 hp
      have h3 := h p h1
      simp only [bne_iff_ne, ne_eq] at h2
      omega)
    have hsame : ((List.range n).map fun (i : Nat) => (getE (es.filter (fun p => p.1 != (n : Int))) (i : Int)).isSome) = (List.range n).map fun (i : Nat) => (getE es (i : Int)).isSome :=
      List.map_congr_left fun i hi => by
        have := List.mem_range.1 hi
        rw [hf, if_neg (by omega)]
    rw [hsame] at ih
    rw [List.range_succ, List.map_append, List.countP_append, ih]
    have hlen : es.length = (es.filter (fun p => p.1 != (n : Int))).length + (if (getE es (n : Int)).isSome then 1 else 0) := by
      clear ih hsame hf h
      induction es with
      | nil => simp [getE_nil]
      | cons p es ih =>
        have hn2 := List.nodup_cons.1 hn
        have ih2 := ih hn2.2
        by_cases hp : p.1 = (n : Int)
        · have hg : getE (p :: es) (n : Int) = some p.2 := by rw [getE_cons, if_pos hp.symm]
          have hno : getE es (n : Int) = none := getE_none.2 (by rw [← hp]; exact hn2.1)
          rw [List.filter_cons_of_neg (by simp [hp]), hg]
          rw [hno] at ih2
          simp at ih2 ⊢
          omega
        · have hg : getE (p :: es) (n : Int) = getE es (n : Int) := by rw [getE_cons, if_neg (fun e => hp e.symm)]
          rw [List.filter_cons_of_pos (by simpa using hp), hg]
          simp only [List.length_cons]
          omega
    rw [hlen]
    congr 1
    simp only [List.map_cons, List.map_nil, List.countP_cons, List.countP_nil, id]
    omega

def DS.settleN (d : DS) : Nat → DS
  | 0 => d
  | n + 1 => (d.settleN n).settle n
def RM.settleN (r : RM) : Nat → RM
  | 0 => r
  | n + 1 => (r.settleN n).settle n
theorem DS.settleN_len (d : DS) : ∀ n, (d.settleN n).sure.length = d.sure.length
  | 0 => rfl
  | n + 1 => by show ((d.settleN n).sure.set n _).length = _; rw [List.length_set, d.settleN_len n]
theorem RM.Ok.settleN {r : RM} {d : DS} (h : r.Ok d) : ∀ n, n ≤ d.sure.length → (r.settleN n).Ok (d.settleN n)
  | 0, _ => h
  | n + 1, hn => (h.settleN n (by omega)).settle (by rw [d.settleN_len]; omega)
theorem RM.settleN_v1 (r : RM) : ∀ n, (r.settleN n).v1 = r.v1 ∧ (r.settleN n).gs = r.gs
  | 0 => ⟨rfl, rfl⟩
  | n + 1 => r.settleN_v1 n
theorem DS.settleN_is (d : DS) (k : Nat) : ∀ n, n ≤ d.sure.length → (d.settleN n).is (k : Int) = d.is (k : Int)
  | 0, _ => rfl
  | n + 1, hn => by
    show ((d.settleN n).settle n).is k = _
    rw [DS.settle_is _ n k (by rw [d.settleN_len]; omega), d.settleN_is k n (by omega)]
theorem DS.settleN_pend (d : DS) : ∀ n, ∀ p ∈ (d.settleN n).pend, p ∈ d.pend ∧ ¬ (0 ≤ p.1 ∧ p.1 < (n : Int))
  | 0, p, hp => ⟨hp, by omega⟩
  | n + 1, p, hp => by
    have h1 : p ∈ (d.settleN n).pend.filter (fun p => p.1 != (n : Int)) := hp
    obtain ⟨h2, h3⟩ := List.mem_filter.1 h1
    have h4 := d.settleN_pend n p h2
    simp only [bne_iff_ne, ne_eq] at h3
    exact ⟨h4.1, by omega⟩
/-- All of them settled. -/
theorem DS.settleN_all (d : DS) (hp : ∀ p ∈ d.pend, 0 ≤ p.1 ∧ p.1 < (d.sure.length : Int)) : (d.settleN d.sure.length).pend = [] ∧ ∀ k : Nat, k < d.sure.length → (d.settleN d.sure.length).sure.getD k St.zero = d.is (k : Int) := by
  have h1 : (d.settleN d.sure.length).pend = [] := by
    apply List.eq_nil_iff_forall_not_mem.2
    intro p h
    have h2 := d.settleN_pend _ p h
    exact h2.2 (hp p h2.1)
  refine ⟨h1, fun k hk => ?_⟩
  have h2 := d.settleN_is k _ (Nat.le_refl _)
  rw [← h2]
  unfold DS.is
  rw [h1, getE_nil]
  simp
theorem DS.settleN_rest (d : DS) : ∀ n, (d.settleN n).fuse = d.fuse ∧ (d.settleN n).writes = d.writes
  | 0 => ⟨rfl, rfl⟩
  | n + 1 => d.settleN_rest n

def FlRel' (b : Nat) (r : RM) (n : Nat) (M : Nat → Prop) (w0 : World) (vi : Value) (wr : World) : Prop :=
  ∃ k : Nat, vi = .int .i64 (k : Int) ∧ k ≤ n ∧ SH M w0 wr ((r.settleN k).L b)
set_option maxRecDepth 100000 in
set_option maxHeartbeats 2000000 in
theorem flush_any {M : Nat → Prop} {w0 w : World} {b : Nat} {r : RM} {d : DS} (H : SH M w0 w (r.L b)) (hr : r.Ok d) (hf : -1 ≤ d.fuse) (hf2 : d.fuse ≤ 9223372036854775807) (hl : d.sure.length ≤ 4096) :
    Calls Try.prog 37 #[.pointer (some ⟨b, 0, none⟩)] w fun e w' => (e = .returned (.int .i64 (if d.fuse = 0 then 10 else 0)) ∧ ∃ r' : RM, r'.Ok (if d.fuse = 0 then d else d.spend.1.settleN d.sure.length) ∧ SH M w0 w' (r'.L b)) := by
  have hg := goes_any H hr hf hf2
  have hs := hr.spend hf
  have hsp : d.spend.2 = !(decide (d.fuse = 0)) := by
    unfold DS.spend
    by_cases h1 : d.fuse = -1
    · simp [h1]
    · by_cases h2 : d.fuse = 0 <;> simp [h1, h2]
  have hd1 : d.spend.1.sure.length = d.sure.length := by
    unfold DS.spend
    split
    · rfl
    · split <;> rfl
  by_cases hz : d.fuse = 0
  · rw [if_pos hz, if_pos hz]
    have hb : d.spend.2 = false := by rw [hsp]; simp [hz]
    rw [hb] at hg
    have hsd : d.spend.1 = d := by unfold DS.spend; rw [if_neg (by omega), if_pos hz]
    rw [hsd] at hs
    have HS := Lib.hid hs
    clear hs H hr
    go_enter Try.func37, Try.ntmps37
    go_wp2_with (go_at_call 55; refine hg.mono ?_; rintro e w1 ⟨rfl, H⟩)
    go_ret
    exact ⟨rfl, _, HS.out, H⟩
  · rw [if_neg hz, if_neg hz]
    have hb : d.spend.2 = true := by rw [hsp]; simp [hz]
    rw [hb] at hg
    generalize d.spend.1 = d1 at hs hd1
    generalize r.fused (if 0 < r.f then r.f - 1 else r.f) = r1 at hg hs
    clear H hr hsp hb
    generalize d.sure.length = n at hd1 hl ⊢
    have HS := Lib.hid hs
    have HD := Lib.hid hd1
    clear hs hd1
    go_enter Try.func37, Try.ntmps37
    go_wp2_with (go_at_call 55; refine hg.mono ?_; rintro e w1 ⟨rfl, H⟩)
    clear hg
    go_loopw [3] (fun vi wr => FlRel' b r1 n M w0 vi wr) (fun vi _ => n - (intOf vi).toNat)
    case atStart => exact ⟨0, rfl, Nat.zero_le _, H⟩
    case round =>
      clear H
      obtain ⟨k, rfl, hk, H⟩ := hrel
      have hok := HS.out.settleN k (by rw [HD.out]; exact hk)
      have hv := r1.settleN_v1 k
      obtain ⟨hc0, _, _, _, _, _, _⟩ := RM.cellsAt (L := []) (by simpa using H)
      have hrow := H.get 1 rfl
      obtain ⟨A, c, hvs⟩ := row_len hrow
      have hgl : (r1.settleN k).gs.length = n := by rw [hok.gl, DS.settleN_len]; exact HD.out
      rw [hvs, hgl] at hc0
      have hset := fun (hi : k < n) => settle_any H hok (by rw [DS.settleN_len, HD.out]; exact hl) k (by rw [DS.settleN_len, HD.out]; exact hi)
      have HOK := Lib.hid hok
      clear hok hv hrow hvs hgl
      by_cases hkn : k < n
      · have hki : (k : Int) < (n : Int) := by omega
        have hset := hset hkn
        go_wp2_with (go_at_call 56; refine hset.mono ?_; clear hc0 H; rintro e w2 ⟨rfl, H⟩)
        refine ⟨⟨k + 1, by go_num, hkn, H⟩, ?_⟩
        simp [intOf]; omega
      · obtain rfl : k = n := by omega
        go_wp2
        go_ret
        exact ⟨rfl, _, HOK.out, H⟩
end Go.Proofs.Ytjdfeagjbhdceaa
