/- Format. -/
import Derived.Test.YtgmeahogdjhejaaDoorWalR
namespace Go.Proofs.YtgmeahogdjhejaaDoor
set_option linter.unusedVariables false
set_option linter.unusedSimpArgs false
open Go.RowKit Go.Shelf

theorem ewrite_at {b bs bm : Nat} {d : DS} {W0 : Int} (w0 : World) (h : (DiskA b bs bm d).says w0) (hf : d.Fine W0) (hW : W0 ≤ 1000000000) (a n : Nat) (p tt : Int) (hp : p = (a : Int)) {v : Value} {s : List Int} (hr : RdS (encInt .u8) 1 w0 v s) (hb : ∀ x ∈ s, 0 ≤ x ∧ x ≤ 255)
    (hs : s.length = 32 * n) (hn : 1 ≤ n ∧ n ≤ 10000) (ha : a ≤ 1000000) (hap : ∀ j, v.ownBlock = some j → ¬ (DiskA b bs bm d).fp j) :
    Calls Tryd.prog 30 #[extV b p tt, v] w0 (WriteE b bs bm d a n s w0) := by
  subst hp
  exact ewrite_any w0 h hf hW a n tt hr hb hs hn ha hap
theorem SH.base {b bs bm : Nat} {d : DS} {w0 : World} (h : (DiskA b bs bm d).says w0) : SH (DiskA b bs bm d).fp w0 w0 [DiskA b bs bm d] :=
  ⟨Ext.refl _ _, by simpa using h, fun A hA i hi => by rw [List.mem_singleton.1 hA] at hi; exact DiskA.fp_lt h hi, fun A hA i hi => .inl (by rw [List.mem_singleton.1 hA] at hi; exact hi), by simp⟩
def FormatE (b bs bm : Nat) (d : DS) (r : DS × Int) (w : World) (e : Ending) (w' : World) : Prop :=
  e = .returned (.int .i64 r.2) ∧ Ext (DiskA b bs bm d).fp w w' ∧ (DiskA b bs bm r.1).says w'
set_option maxRecDepth 100000 in
set_option maxHeartbeats 4000000 in
theorem format_any {b bs bm : Nat} {d : DS} {W0 : Int} (w0 : World) (h : (DiskA b bs bm d).says w0) (hf : d.Fine W0) (hW : W0 ≤ 100000000) (slot log : Int) {v : Value} {xs : List Int} (hr : RdS (encInt .u8) 1 w0 v xs) (hb : ∀ x ∈ xs, 0 ≤ x ∧ x ≤ 255)
    (hap : ∀ j, v.ownBlock = some j → ¬ (DiskA b bs bm d).fp j) :
    Calls Tryd.prog 8 #[.pointer (some ⟨b, 0, none⟩), .int .i64 slot, .int .i64 log, v] w0 (FormatE b bs bm d (formatP d slot log xs) w0) := by
  obtain ⟨A, cap, rfl, hcap⟩ := hr.len
  have H := SH.base h
  have hlen := hf.len
  by_cases hmay : mayP d.sure.length slot log
  · obtain ⟨s, rfl⟩ := Int.eq_ofNat_of_zero_le (show 0 ≤ slot by have := hmay.1; omega)
    obtain ⟨l, rfl⟩ := Int.eq_ofNat_of_zero_le (show 0 ≤ log by have := hmay.2.1; omega)
    have hm := fun {w : World} (hD : (DiskA b bs bm d).says w) => may_any w hD hf (s : Int) (l : Int)
    rw [show decide (mayP d.sure.length s l) = true from decide_eq_true hmay] at hm
    have hs4 : s ≤ 4096 := by have := hmay.2.2.1; omega
    have hp0 : IntKind.i64.wrap (0 * (s : Int)) = 0 := by rw [IntKind.wrap_i64]; omega
    have hp1 : IntKind.i64.wrap ((0 : Int) + 1) = 1 := by rw [IntKind.wrap_i64]; omega
    have hp2 : IntKind.i64.wrap (1 * (s : Int)) = (s : Int) := by rw [IntKind.wrap_i64]; omega
    have hplace := fun {w : World} => place_any b (s : Int) (l : Int) 0 1 0 (s : Int) w hp0 hp1 hp2
    have hfo : formatP d s l xs = if recErr s 1 xs.length ≠ 0 then (d, recErr s 1 xs.length) else if (d.lay 0 (countP xs.length) (layP 1 0 xs)).2 ≠ 0 then d.lay 0 (countP xs.length) (layP 1 0 xs) else (d.lay 0 (countP xs.length) (layP 1 0 xs)).1.flushR := by
      unfold formatP
      rw [if_neg (fun e => e hmay), Int.toNat_natCast]
    have hrec := fun {w : World} (hE : Ext (DiskA b bs bm d).fp w0 w) => record_any b s (l : Int) 1 0 (.slice A xs.length cap) xs w (by decide) ⟨by decide, by decide⟩ (RdS.keepM hr hE hap) hb
    obtain ⟨r, hre⟩ : ∃ r, formatP d s l xs = r := ⟨_, rfl⟩
    rw [hre] at hfo ⊢
    have HR := Lib.hid (And.intro hf (And.intro hb hfo))
    have HM := Lib.hid hmay
    clear hmay hfo h hr hre hp0 hp1 hp2 hf hb
    go_enter Tryd.func8, Tryd.ntmps8
    go_upto_region 4 with (first
      | (refine L_alloc rfl rfl H Tryd.zeroValue60 ?_; clear H; intro g3 w H; simp only [Value.cells] at H; (try simp only [Act.put, List.setIfInBounds_toArray, List.set_cons_succ, List.set_cons_zero, List.getElem_toArray, List.getElem_cons_succ, List.getElem_cons_zero]))
      | (refine L_storerow rfl rfl H 0 rfl rfl rfl info60 rfl rfl (one3 _ _ _ rfl rfl rfl) ?_; clear H; intro w H; simp only [List.set_cons_zero, List.set_cons_succ, List.setIfInBounds_toArray, Act.eval, Array.getD_eq_getD_getElem?, List.getElem?_toArray, List.getElem?_cons_succ, List.getElem?_cons_zero, Option.getD_some] at H; (try simp only [Act.put, List.setIfInBounds_toArray, List.set_cons_succ, List.set_cons_zero, List.getElem_toArray, List.getElem_cons_succ, List.getElem_cons_zero]))
      | (refine L_loadrow rfl rfl H 0 rfl rfl Tryd.underlying60 rfl info60 ?hn ?_; (case hn => first | rfl | assumption | (simp only [List.size_toArray]; assumption)); (try simp only [Act.put, List.setIfInBounds_toArray, List.set_cons_succ, List.set_cons_zero, List.getElem_toArray, List.getElem_cons_succ, List.getElem_cons_zero]))
      | (go_at_call 27; refine (hm (H.get 1 rfl)).mono ?_; rintro e1 w1 ⟨rfl, hE⟩; replace H := H.calls hE; clear hE))
    by_cases hc : recErr s 1 xs.length = 0
    · have hrec2 := fun {w : World} (hE : Ext (DiskA b bs bm d).fp w0 w) => (hrec hE).mono (R' := LayE (layP 1 0 xs) w) (fun e w' h => h.elim (fun h => absurd hc h.1) (fun h => h.2))
      have HC := Lib.hid hc
      clear hrec hc
      go_upto_region 7 with (first
        | (refine L_loadrow rfl rfl H 0 rfl rfl Tryd.underlying60 rfl info60 ?hn ?_; (case hn => first | rfl | assumption | (simp only [List.size_toArray]; assumption)); (try simp only [Act.put, List.setIfInBounds_toArray, List.set_cons_succ, List.set_cons_zero, List.getElem_toArray, List.getElem_cons_succ, List.getElem_cons_zero]))
        | (go_at_call 28; refine (hrec2 H.ext).mono ?_; rintro e1 w1 ⟨va, rfl, hra, hE, hfr⟩; have hap2 := fun j hj (hfp : (DiskA b bs bm d).fp j) => Nat.lt_irrefl _ (Nat.lt_of_lt_of_le (DiskA.fp_lt (H.get 1 rfl) hfp) (hfr j hj)); clear hfr; replace H := H.calls hE; clear hE; obtain ⟨Aa, ca, rfl⟩ := hra.isSlice))
      clear hrec2 hm
      have hn65 : xs.length ≤ 65535 := by have := HC.out; unfold recErr at this; split at this <;> omega
      have hcn : 1 ≤ countP xs.length ∧ countP xs.length ≤ 10000 := by unfold countP; omega
      have hfl := HR.out.1.lay (countP xs.length) 0 (lay_bytes (e := 1) (q := 0) HR.out.2.1)
      have hwr := fun {w : World} (hD : (DiskA b bs bm d).says w) (hr : RdS (encInt .u8) 1 w (.slice Aa (layP 1 0 xs).length ca) (layP 1 0 xs)) => ewrite_at w hD HR.out.1 (by omega) 0 (countP xs.length) 0 (s : Int) rfl hr (lay_bytes HR.out.2.1) (layP_len 1 0 xs) hcn (by omega) hap2
      obtain ⟨d1, hd1⟩ : ∃ d1, d.lay 0 (countP xs.length) (layP 1 0 xs) = d1 := ⟨_, rfl⟩
      have hro := HR.out.2.2
      rw [if_neg (fun h => h HC.out), hd1] at hro
      rw [hd1] at hfl
      unfold WriteE at hwr
      rw [hd1] at hwr
      obtain ⟨y, hy⟩ : ∃ y, layP 1 0 xs = y := ⟨_, rfl⟩
      rw [hy] at hwr hra ⊢
      have HY := Lib.hid (And.intro hfl (And.intro hro hcn))
      clear hy hd1 hro hfl hcn hap2
      obtain ⟨e1, he1⟩ : ∃ e1, d1.2 = e1 := ⟨_, rfl⟩
      rw [he1] at hwr
      by_cases he : e1 = 0
      · subst he
        have HE := Lib.hid he1
        clear he1
        go_wp2_with (first
          | (refine L_loadrow rfl rfl H 0 rfl rfl Tryd.underlying60 rfl info60 ?hn ?_; (case hn => first | rfl | assumption | (simp only [List.size_toArray]; assumption)); (try simp only [Act.put, List.setIfInBounds_toArray, List.set_cons_succ, List.set_cons_zero, List.getElem_toArray, List.getElem_cons_succ, List.getElem_cons_zero]))
          | (go_at_call 29; refine hplace.mono ?_; rintro e1 w2 ⟨rfl, hE⟩; replace H := H.calls hE; replace hra := hra.keep hE; clear hE)
          | (go_at_call 30; refine (hwr (H.get 1 rfl) hra).mono ?_; rintro e1 w3 ⟨rfl, hE, hsay⟩; replace H := H.disk 1 rfl hE hsay; simp only [List.set_cons_zero, List.set_cons_succ] at H; clear hE hsay)
          | (go_at_call 31; refine (dflush (H.get 1 rfl) HY.out.1).mono ?_; rintro e1 w4 ⟨rfl, hE, hsay⟩; replace H := H.disk 1 rfl hE hsay; simp only [List.set_cons_zero, List.set_cons_succ] at H; clear hE hsay))
        go_ret
        have hrr : r = d1.1.flushR := by rw [HY.out.2.1, if_neg (fun h => h HE.out)]
        exact ⟨by rw [hrr]; rfl, H.ext, by rw [hrr]; exact H.get 1 rfl⟩
      · have HE := Lib.hid (And.intro he1 he)
        clear he1
        go_wp2_with (first
          | (refine L_loadrow rfl rfl H 0 rfl rfl Tryd.underlying60 rfl info60 ?hn ?_; (case hn => first | rfl | assumption | (simp only [List.size_toArray]; assumption)); (try simp only [Act.put, List.setIfInBounds_toArray, List.set_cons_succ, List.set_cons_zero, List.getElem_toArray, List.getElem_cons_succ, List.getElem_cons_zero]))
          | (go_at_call 29; refine hplace.mono ?_; rintro e1 w2 ⟨rfl, hE⟩; replace H := H.calls hE; replace hra := hra.keep hE; clear hE)
          | (go_at_call 30; refine (hwr (H.get 1 rfl) hra).mono ?_; rintro e1 w3 ⟨rfl, hE, hsay⟩; replace H := H.disk 1 rfl hE hsay; simp only [List.set_cons_zero, List.set_cons_succ] at H; clear hE hsay))
        go_ret
        have hrr : r = d1 := by rw [HY.out.2.1, if_pos (by rw [HE.out.1]; exact HE.out.2)]
        exact ⟨by rw [hrr, HE.out.1]; rfl, H.ext, by rw [hrr]; exact H.get 1 rfl⟩
    · have hrec2 := fun {w : World} (hE : Ext (DiskA b bs bm d).fp w0 w) => (hrec hE).mono (R' := fun e w' => e = .returned (.tuple #[.slice none 0 0, .int .i64 (recErr s 1 xs.length)]) ∧ Ext0 w w') (fun e w' h => h.elim (fun h => h.2) (fun h => absurd h.1 hc))
      obtain ⟨re, hre⟩ : ∃ re, recErr s 1 xs.length = re := ⟨_, rfl⟩
      rw [hre] at hrec2 hc
      have HC := Lib.hid (And.intro hre hc)
      clear hrec hre
      go_wp2_with (first
        | (refine L_loadrow rfl rfl H 0 rfl rfl Tryd.underlying60 rfl info60 ?hn ?_; (case hn => first | rfl | assumption | (simp only [List.size_toArray]; assumption)); (try simp only [Act.put, List.setIfInBounds_toArray, List.set_cons_succ, List.set_cons_zero, List.getElem_toArray, List.getElem_cons_succ, List.getElem_cons_zero]))
        | (go_at_call 28; refine (hrec2 H.ext).mono ?_; rintro e1 w1 ⟨rfl, hE⟩; replace H := H.calls hE; clear hE))
      go_ret
      have hrr : r = (d, re) := by rw [HR.out.2.2, HC.out.1, if_pos HC.out.2]
      exact ⟨by rw [hrr]; rfl, H.ext, by rw [hrr]; exact H.get 1 rfl⟩
  · have hm := fun {w : World} (hD : (DiskA b bs bm d).says w) => may_any w hD hf slot log
    rw [show decide (mayP d.sure.length slot log) = false from decide_eq_false hmay] at hm
    have hfo : formatP d slot log xs = (d, 1) := by unfold formatP; rw [if_pos hmay]
    have HF := Lib.hid hfo
    clear hmay hfo h hr
    go_enter Tryd.func8, Tryd.ntmps8
    go_wp2_with (first
      | (refine L_alloc rfl rfl H Tryd.zeroValue60 ?_; clear H; intro g3 w H; simp only [Value.cells] at H; (try simp only [Act.put, List.setIfInBounds_toArray, List.set_cons_succ, List.set_cons_zero, List.getElem_toArray, List.getElem_cons_succ, List.getElem_cons_zero]))
      | (refine L_storerow rfl rfl H 0 rfl rfl rfl info60 rfl rfl (one3 _ _ _ rfl rfl rfl) ?_; clear H; intro w H; simp only [List.set_cons_zero, List.set_cons_succ, List.setIfInBounds_toArray, Act.eval, Array.getD_eq_getD_getElem?, List.getElem?_toArray, List.getElem?_cons_succ, List.getElem?_cons_zero, Option.getD_some] at H; (try simp only [Act.put, List.setIfInBounds_toArray, List.set_cons_succ, List.set_cons_zero, List.getElem_toArray, List.getElem_cons_succ, List.getElem_cons_zero]))
      | (refine L_loadrow rfl rfl H 0 rfl rfl Tryd.underlying60 rfl info60 ?hn ?_; (case hn => first | rfl | assumption | (simp only [List.size_toArray]; assumption)); (try simp only [Act.put, List.setIfInBounds_toArray, List.set_cons_succ, List.set_cons_zero, List.getElem_toArray, List.getElem_cons_succ, List.getElem_cons_zero]))
      | (go_at_call 27; refine (hm (H.get 1 rfl)).mono ?_; rintro e1 w1 ⟨rfl, hE⟩; replace H := H.calls hE; clear hE))
    go_ret
    exact ⟨by rw [HF.out]; rfl, H.ext, by rw [HF.out]; exact H.get 1 rfl⟩
end Go.Proofs.YtgmeahogdjhejaaDoor
