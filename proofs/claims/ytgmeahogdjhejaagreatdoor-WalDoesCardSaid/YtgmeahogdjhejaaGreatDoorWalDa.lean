/- The law WalDoes: words. (Printed by genwal8.py.) -/
import Derived.Test.YtgmeahogdjhejaaGreatDoorWalSl
import Derived.Test.YtgmeahogdjhejaaGreatDoorWalSh
import Derived.Test.YtgmeahogdjhejaaGreatDoorWalDd
namespace Go.Proofs.YtgmeahogdjhejaaGreatDoor
set_option linter.unusedVariables false
set_option linter.unusedSimpArgs false
open Go.RowKit Go.Shelf
open Rf (RefA)

/-- What both Opens come to. -/
def openQ (d : DS) (slot log : Int) : (JS × List Int × List (List Int)) ⊕ Int :=
  if mayP d.sure.length slot log then (match openP d slot.toNat log.toNat with
    | none => .inr 15
    | some r => .inl r)
  else .inr 1
def OpF (T : TypeId) (b : Nat) (q : (JS × List Int × List (List Int)) ⊕ Int) (w w' : World) (pj vs vl : Value) (c : Int) : Prop :=
  (∃ code, q = .inr code ∧ pj = .pointer none ∧ vs = .slice none 0 0 ∧ vl = .slice none 0 0 ∧ c = code ∧ code ≠ 0 ∧ Ext0 w w') ∨
  (∃ j st xss jb ps, q = .inl (j, st, xss) ∧ pj = .pointer (some ⟨jb, 0, none⟩) ∧ c = 0 ∧ ps.map (·.2) = xss ∧ SH (fun _ => False) w w' [rowsA ps, ownA 22 1 vl ps.length (cellsOf encSl (ps.map (·.1))), pt jb (.cells (jCells b j) T (0, 0)), rdA vs st])
theorem OpF.ext {T : TypeId} {b : Nat} {q : (JS × List Int × List (List Int)) ⊕ Int} {w w' : World} {pj vs vl : Value} {c : Int} (h : OpF T b q w w' pj vs vl c) : Ext0 w w' := by
  rcases h with ⟨_, _, _, _, _, _, _, h⟩ | ⟨_, _, _, _, _, _, _, _, _, h⟩
  · exact h
  · exact h.ext
theorem openF_any {b bs bm : Nat} {d : DS} {W0 : Int} (w0 : World) (h : (DiskA b bs bm d).says w0) (hf : d.Fine W0) (slot log : Int) :
    Calls Tryz.prog 9 #[.pointer (some ⟨b, 0, none⟩), .int .i64 slot, .int .i64 log] w0 fun e w' => ∃ pj vs vl c, e = .returned (.tuple #[pj, vs, vl, .int .i64 c]) ∧ OpF 76 b (openQ d slot log) w0 w' pj vs vl c := by
  unfold openQ
  by_cases hm : mayP d.sure.length slot log
  · obtain ⟨s, rfl⟩ := Int.eq_ofNat_of_zero_le (show 0 ≤ slot by have := hm.1; omega)
    obtain ⟨l, rfl⟩ := Int.eq_ofNat_of_zero_le (show 0 ≤ log by have := hm.2.1; omega)
    rw [if_pos hm, Int.toNat_natCast, Int.toNat_natCast]
    refine (open_any w0 h hf s l hm).mono fun e w' h => ?_
    rcases h with ⟨h1, h2, h3⟩ | ⟨j, st, xss, jb, vs, vl, ps, h1, h2, h3, h4⟩
    · rw [h1]
      exact ⟨_, _, _, _, h2, .inl ⟨15, rfl, rfl, rfl, rfl, rfl, by decide, h3⟩⟩
    · rw [h1]
      exact ⟨_, _, _, _, h2, .inr ⟨j, st, xss, jb, ps, rfl, rfl, rfl, h3, h4⟩⟩
  · rw [if_neg hm]
    refine (open_bad w0 h hf slot log hm).mono fun e w' h => ?_
    exact ⟨_, _, _, _, h.1, .inl ⟨1, rfl, rfl, rfl, rfl, rfl, by decide, h.2⟩⟩
theorem refOpen_bad {b : Nat} {S : Nat → Prop} {d : DS} {W0 : Int} (w0 : World) (h : (RefA b S d).says w0) (hf : d.Fine W0) (slot log : Int) (hm : ¬ mayP d.sure.length slot log) :
    Calls Tryz.prog 10 #[.pointer (some ⟨b, 0, none⟩), .int .i64 slot, .int .i64 log] w0 (NoneE 1 w0) := by
  have H : SH (fun _ => False) w0 w0 [] := SH.nil _ _
  have hmm := refMay_any h hf.len slot log
  rw [decide_eq_false hm] at hmm
  clear h hf hm
  go_enter Tryz.func10, Tryz.ntmps10
  go_wp2_with (first
    | (go_at_call 32; refine hmm.mono ?_; rintro e1 w1 ⟨rfl, hE⟩; replace H := H.calls hE; clear hE))
  (try simp only [Exit.inBlock, Exit.then])
  refine bodyPost_ret (results_tmp4 rfl _ _ _) rfl ?_
  exact ⟨rfl, H.ext⟩
theorem refOpenF_any {b : Nat} {S : Nat → Prop} {d : DS} {W0 : Int} (w0 : World) (h : (RefA b S d).says w0) (hf : d.Fine W0) (slot log : Int) :
    Calls Tryz.prog 10 #[.pointer (some ⟨b, 0, none⟩), .int .i64 slot, .int .i64 log] w0 fun e w' => ∃ pj vs vl c, e = .returned (.tuple #[pj, vs, vl, .int .i64 c]) ∧ OpF 54 b (openQ d slot log) w0 w' pj vs vl c := by
  unfold openQ
  by_cases hm : mayP d.sure.length slot log
  · obtain ⟨s, rfl⟩ := Int.eq_ofNat_of_zero_le (show 0 ≤ slot by have := hm.1; omega)
    obtain ⟨l, rfl⟩ := Int.eq_ofNat_of_zero_le (show 0 ≤ log by have := hm.2.1; omega)
    rw [if_pos hm, Int.toNat_natCast, Int.toNat_natCast]
    refine (refOpen_any w0 h hf s l hm).mono fun e w' h => ?_
    rcases h with ⟨h1, h2, h3⟩ | ⟨j, st, xss, jb, vs, vl, ps, h1, h2, h3, h4⟩
    · rw [h1]
      exact ⟨_, _, _, _, h2, .inl ⟨15, rfl, rfl, rfl, rfl, rfl, by decide, h3⟩⟩
    · rw [h1]
      exact ⟨_, _, _, _, h2, .inr ⟨j, st, xss, jb, ps, rfl, rfl, rfl, h3, h4⟩⟩
  · rw [if_neg hm]
    refine (refOpen_bad w0 h hf slot log hm).mono fun e w' h => ?_
    exact ⟨_, _, _, _, h.1, .inl ⟨1, rfl, rfl, rfl, rfl, rfl, by decide, h.2⟩⟩
section
variable {M : Nat → Prop} {w0 w : World} {L : List Asr} {b jb : Nat} {S : Nat → Prop} {d : DS} {j : JS}
theorem SH.openedQ {w' : World} {vs vl : Value} {st : List Int} {ps : List ((Option Addr × Nat × Nat) × List Int)} (H : SH M w0 w (RefA b S d :: L)) (h : SH (fun _ => False) w w' [rowsA ps, ownA 22 1 vl ps.length (cellsOf encSl (ps.map (·.1))), pt jb (.cells (jCells b j) 54 (0, 0)), rdA vs st]) :
    SH M w0 w' (JQ b jb S d j :: rowsA ps :: ownA 22 1 vl ps.length (cellsOf encSl (ps.map (·.1))) :: rdA vs st :: L) := by
  have K := H.cat h
  simp only [List.cons_append, List.nil_append] at K
  have K2 : SH M w0 w' (pt jb (.cells (jCells b j) 54 (0, 0)) :: RefA b S d :: rowsA ps :: ownA 22 1 vl ps.length (cellsOf encSl (ps.map (·.1))) :: rdA vs st :: L) := by
    exact K.perm ((List.perm_middle (l₁ := [_, _])).trans (.cons _ (List.perm_middle (l₁ := [_, _, _])))).symm
  exact K2.glue2 (JQ.shut K2) (fun i hi => hi.elim .inr .inl)
theorem SH.unq (H : SH M w0 w (JQ b jb S d j :: L)) : SH M w0 w (RefA b S d :: L) :=
  H.head (Ext.refl _ _) (H.get 0 rfl).1 (fun i hi => ⟨.inl (.inl hi), JQ.lt (H.get 0 rfl) (.inl hi)⟩)
/-- What is done to the document's disk alone. -/
theorem SH.jqdisk {S' : Nat → Prop} {d' : DS} (H : SH M w0 w L) (k : Nat) (hk : L[k]? = some (JQ b jb S d j)) {w' : World} (he : Ext S w w') (hs : (RefA b S' d').says w') (hS : ∀ i, S' i → S i ∨ w.heap.size ≤ i) : SH M w0 w' (L.set k (JQ b jb S' d' j)) := by
  have h0 := H.get k hk
  refine H.jq k hk (he.mono (fun i _ hi => .inl hi)) ⟨hs, he.keep h0.2.1 (fun h => h0.2.2 h), fun h => ?_⟩ hS
  rcases hS jb h with h9 | h9
  · exact h0.2.2 h9
  · exact Nat.lt_irrefl _ (Nat.lt_of_lt_of_le (blk_lt' h0.2.1) h9)
end
/-- What holds at the head of the law's loop. -/
def DoS (b bs bm rb : Nat) (d : DS) (w0 : World) (v13 v14 v15 v16 v17 v18 v19 v20 : Value) (wr : World) : Prop :=
  (∃ (S : Nat → Prop) (code : Int), code ≠ 0 ∧ v13 = .pointer none ∧ v14 = .slice none 0 0 ∧ v15 = .slice none 0 0 ∧ v16 = .int .i64 code ∧ v17 = .pointer none ∧ v18 = .slice none 0 0 ∧ v19 = .slice none 0 0 ∧ v20 = .int .i64 code ∧ SH (fun _ => False) w0 wr [DiskA b bs bm d, RefA rb S d]) ∨
  (∃ (S : Nat → Prop) (j : JS) (st : List Int) (jb kb : Nat) (ps qs : List ((Option Addr × Nat × Nat) × List Int)) (vs vt vl vm : Value), vs = v14 ∧ vl = v15 ∧ vt = v18 ∧ vm = v19 ∧ v13 = .pointer (some ⟨jb, 0, none⟩) ∧ v16 = .int .i64 0 ∧ v17 = .pointer (some ⟨kb, 0, none⟩) ∧ v20 = .int .i64 0 ∧ j.Ok d.sure.length ∧ ps.map (·.2) = qs.map (·.2) ∧ ps.length ≤ 1000000 ∧ (∀ p ∈ ps, Bytes p.2) ∧
    SH (fun _ => False) w0 wr [JD b bs bm jb d j, JQ rb kb S d j, rdA vs st, rdA vt st, rowsA ps, ownA 22 1 vl ps.length (cellsOf encSl (ps.map (·.1))), rowsA qs, ownA 22 1 vm qs.length (cellsOf encSl (qs.map (·.1)))])
theorem DoS.of_open {b bs bm rb : Nat} {S : Nat → Prop} {d : DS} {W : Int} {slot log : Int} {w0 w w1 w2 : World} {pj vs vl pk vt vm : Value} {c1 c2 : Int} (hf : d.Fine W) (H : SH (fun _ => False) w0 w [DiskA b bs bm d, RefA rb S d])
    (h1 : OpF 76 b (openQ d slot log) w w1 pj vs vl c1) (h2 : OpF 54 rb (openQ d slot log) w1 w2 pk vt vm c2) : DoS b bs bm rb d w0 pj vs vl (.int .i64 c1) pk vt vm (.int .i64 c2) w2 := by
  rcases h1 with ⟨code, hq, rfl, rfl, rfl, rfl, hc, hE1⟩ | ⟨j, st, xss, jb, ps, hq, rfl, rfl, hps, hS1⟩
  · rcases h2 with ⟨code2, hq2, rfl, rfl, rfl, rfl, _, hE2⟩ | ⟨_, _, _, _, _, hq2, _⟩
    · rw [hq] at hq2
      cases hq2
      exact .inl ⟨S, _, hc, rfl, rfl, rfl, rfl, rfl, rfl, rfl, rfl, (H.calls hE1).calls hE2⟩
    · rw [hq] at hq2; cases hq2
  · rcases h2 with ⟨_, hq2, _⟩ | ⟨j2, st2, xss2, kb, qs, hq2, rfl, rfl, hqs, hS2⟩
    · rw [hq] at hq2; cases hq2
    · rw [hq] at hq2
      cases hq2
      have K1 := H.opened hS1
      have K1b : SH (fun _ => False) w0 w1 (RefA rb S d :: [JD b bs bm jb d j, rowsA ps, ownA 22 1 vl ps.length (cellsOf encSl (ps.map (·.1))), rdA vs st]) := K1.perm (List.perm_middle (l₁ := [_, _, _, _])).symm
      have K2 := K1b.openedQ hS2
      have hok : j.Ok d.sure.length ∧ ∀ b ∈ xss, Bytes b ∧ b.length ≤ 65535 := by
        unfold openQ at hq
        by_cases hm : mayP d.sure.length slot log
        · rw [if_pos hm] at hq
          obtain ⟨s, rfl⟩ := Int.eq_ofNat_of_zero_le (show 0 ≤ slot by have := hm.1; omega)
          obtain ⟨l, rfl⟩ := Int.eq_ofNat_of_zero_le (show 0 ≤ log by have := hm.2.1; omega)
          rw [Int.toNat_natCast, Int.toNat_natCast] at hq
          cases hop : openP d s l with
          | none => rw [hop] at hq; cases hq
          | some r =>
            rw [hop] at hq
            cases hq
            have h9 := open_ok hf hm hop
            exact ⟨h9.1, h9.2.2.2.2.2.2.2⟩
        · rw [if_neg hm] at hq; cases hq
      have hlen : ps.length ≤ 1000000 := by
        unfold openQ at hq
        by_cases hm : mayP d.sure.length slot log
        · rw [if_pos hm] at hq
          obtain ⟨s, rfl⟩ := Int.eq_ofNat_of_zero_le (show 0 ≤ slot by have := hm.1; omega)
          obtain ⟨l, rfl⟩ := Int.eq_ofNat_of_zero_le (show 0 ≤ log by have := hm.2.1; omega)
          rw [Int.toNat_natCast, Int.toNat_natCast] at hq
          cases hop : openP d s l with
          | none => rw [hop] at hq; cases hq
          | some r =>
            rw [hop] at hq
            cases hq
            have h9 := open_len hop
            have h8 := congrArg List.length hps
            rw [List.length_map] at h8
            have := hm.2.2.2.1
            have := hf.len
            omega
        · rw [if_neg hm] at hq; cases hq
      refine .inr ⟨S, j, st, jb, kb, ps, qs, vs, vt, vl, vm, rfl, rfl, rfl, rfl, rfl, rfl, rfl, rfl, hok.1, hps.trans hqs.symm, hlen, fun p hp => (hok.2 p.2 (by rw [← hps]; exact List.mem_map_of_mem hp)).1, ?_⟩
      -- JQ, rowsA qs, own vm, rdA vt, JD, rowsA ps, own vl, rdA vs
      refine K2.perm ?_
      have h : ∀ (a b c d e f g h : Asr), [a, b, c, d, e, f, g, h].Perm [e, a, h, d, f, g, b, c] := fun a b c d e f g h => by
        refine (List.perm_middle (l₁ := [a, b, c, d]) (a := e) (l₂ := [f, g, h])).trans (.cons _ (.cons _ ?_))
        refine (List.perm_middle (l₁ := [b, c, d, f, g]) (a := h) (l₂ := [])).trans (.cons _ ?_)
        refine (List.perm_middle (l₁ := [b, c]) (a := d) (l₂ := [f, g])).trans (.cons _ ?_)
        exact List.perm_append_comm (l₁ := [b, c]) (l₂ := [f, g])
      exact (h _ _ _ _ _ _ _ _).symm
theorem RdS.keepE {α : Type} {enc : α → List Value} {k : Nat} {M : Nat → Prop} {w w' : World} {v : Value} {xs : List α} (h : RdS enc k w v xs) (e : Ext M w w') (hM : xs ≠ [] → ∀ j, v.ownBlock = some j → ¬ M j) : RdS enc k w' v xs := by
  by_cases h0 : xs = []
  · obtain ⟨A, cap, rfl, hc, _⟩ := h
    exact ⟨A, cap, rfl, hc, .inl h0⟩
  · exact h.keepM e (hM h0)
theorem rds_lt {w : World} {v : Value} {xs : List Int} (h : RdS (encInt .u8) 1 w v xs) (hne : xs ≠ []) {j : Nat} (hj : v.ownBlock = some j) : j < w.heap.size := by
  obtain ⟨A, cap, rfl, hc, h0 | ⟨b, off, cs, T, fr, rfl, hb, _⟩⟩ := h
  · exact absurd h0 hne
  · have hj' : some b = some j := hj
    cases hj'
    exact blk_lt' hb
set_option maxRecDepth 100000 in
set_option maxHeartbeats 4000000 in
theorem format_anyE {b bs bm : Nat} {d : DS} {W0 : Int} (w0 : World) (h : (DiskA b bs bm d).says w0) (hf : d.Fine W0) (hW : W0 ≤ 100000000) (slot log : Int) {v : Value} {xs : List Int} (hr : RdS (encInt .u8) 1 w0 v xs) (hb : ∀ x ∈ xs, 0 ≤ x ∧ x ≤ 255)
    (hap : xs ≠ [] → ∀ j, v.ownBlock = some j → ¬ (DiskA b bs bm d).fp j) :
    Calls Tryz.prog 6 #[.pointer (some ⟨b, 0, none⟩), .int .i64 slot, .int .i64 log, v] w0 (FormatE b bs bm d (formatP d slot log xs) w0) := by
  obtain ⟨A, cap, rfl, hcap⟩ := hr.len
  have H := SH.base h
  have hlen := hf.len
  by_cases hmay : mayP d.sure.length slot log
  · obtain ⟨s, rfl⟩ := Int.eq_ofNat_of_zero_le (show 0 ≤ slot by have := hmay.1; omega)
    obtain ⟨l, rfl⟩ := Int.eq_ofNat_of_zero_le (show 0 ≤ log by have := hmay.2.1; omega)
    have hm := fun {w : World} (hD : (DiskA b bs bm d).says w) => may_any w hD hf (s : Int) (l : Int)
    rw [show decide (mayP d.sure.length s l) = true from decide_eq_true hmay] at hm
    have hs4 : s ≤ 4096 := by have := hmay.2.2.1; omega
    have hp0 : IntKind.i64.wrap (0 * (s : Int)) = 0 := by rw [IntKind.wrap_i64]; omega
    have hp1 : IntKind.i64.wrap ((0 : Int) + 1) = 1 := by rw [IntKind.wrap_i64]; omega
    have hp2 : IntKind.i64.wrap (1 * (s : Int)) = (s : Int) := by rw [IntKind.wrap_i64]; omega
    have hplace := fun {w : World} => place_any b (s : Int) (l : Int) 0 1 0 (s : Int) w hp0 hp1 hp2
    have hfo : formatP d s l xs = if recErr s 1 xs.length ≠ 0 then (d, recErr s 1 xs.length) else if (d.lay 0 (countP xs.length) (layP 1 0 xs)).2 ≠ 0 then d.lay 0 (countP xs.length) (layP 1 0 xs) else (d.lay 0 (countP xs.length) (layP 1 0 xs)).1.flushR := by
      unfold formatP
      rw [if_neg (fun e => e hmay), Int.toNat_natCast]
    have hrec := fun {w : World} (hE : Ext (DiskA b bs bm d).fp w0 w) => record_any b s (l : Int) 1 0 (.slice A xs.length cap) xs w (by decide) ⟨by decide, by decide⟩ (RdS.keepE hr hE hap) hb
    obtain ⟨r, hre⟩ : ∃ r, formatP d s l xs = r := ⟨_, rfl⟩
    rw [hre] at hfo ⊢
    have HR := Lib.hid (And.intro hf (And.intro hb hfo))
    have HM := Lib.hid hmay
    clear hmay hfo h hr hre hp0 hp1 hp2 hf hb
    go_enter Tryz.func6, Tryz.ntmps6
    go_upto_region 4 with (first
      | (refine L_alloc rfl rfl H Tryz.zeroValue65 ?_; clear H; intro g3 w H; simp only [Value.cells] at H; (try simp only [Act.put, List.setIfInBounds_toArray, List.set_cons_succ, List.set_cons_zero, List.getElem_toArray, List.getElem_cons_succ, List.getElem_cons_zero]))
      | (refine L_storerow rfl rfl H 0 rfl rfl rfl info65 rfl rfl (one3 _ _ _ rfl rfl rfl) ?_; clear H; intro w H; simp only [List.set_cons_zero, List.set_cons_succ, List.setIfInBounds_toArray, Act.eval, Array.getD_eq_getD_getElem?, List.getElem?_toArray, List.getElem?_cons_succ, List.getElem?_cons_zero, Option.getD_some] at H; (try simp only [Act.put, List.setIfInBounds_toArray, List.set_cons_succ, List.set_cons_zero, List.getElem_toArray, List.getElem_cons_succ, List.getElem_cons_zero]))
      | (refine L_loadrow rfl rfl H 0 rfl rfl Tryz.underlying65 rfl info65 ?hn ?_; (case hn => first | rfl | assumption | (simp only [List.size_toArray]; assumption)); (try simp only [Act.put, List.setIfInBounds_toArray, List.set_cons_succ, List.set_cons_zero, List.getElem_toArray, List.getElem_cons_succ, List.getElem_cons_zero]))
      | (go_at_call 27; refine (hm (H.get 1 rfl)).mono ?_; rintro e1 w1 ⟨rfl, hE⟩; replace H := H.calls hE; clear hE))
    by_cases hc : recErr s 1 xs.length = 0
    · have hrec2 := fun {w : World} (hE : Ext (DiskA b bs bm d).fp w0 w) => (hrec hE).mono (R' := LayE (layP 1 0 xs) w) (fun e w' h => h.elim (fun h => absurd hc h.1) (fun h => h.2))
      have HC := Lib.hid hc
      clear hrec hc
      go_upto_region 7 with (first
        | (refine L_loadrow rfl rfl H 0 rfl rfl Tryz.underlying65 rfl info65 ?hn ?_; (case hn => first | rfl | assumption | (simp only [List.size_toArray]; assumption)); (try simp only [Act.put, List.setIfInBounds_toArray, List.set_cons_succ, List.set_cons_zero, List.getElem_toArray, List.getElem_cons_succ, List.getElem_cons_zero]))
        | (go_at_call 28; refine (hrec2 H.ext).mono ?_; rintro e1 w1 ⟨va, rfl, hra, hE, hfr⟩; have hap2 := fun j hj (hfp : (DiskA b bs bm d).fp j) => Nat.lt_irrefl _ (Nat.lt_of_lt_of_le (DiskA.fp_lt (H.get 1 rfl) hfp) (hfr j hj)); clear hfr; replace H := H.calls hE; clear hE; obtain ⟨Aa, ca, rfl⟩ := hra.isSlice))
      clear hrec2 hm
      have hn65 : xs.length ≤ 65535 := by have := HC.out; unfold recErr at this; split at this <;> omega
      have hcn : 1 ≤ countP xs.length ∧ countP xs.length ≤ 10000 := by unfold countP; omega
      have hfl := HR.out.1.lay (countP xs.length) 0 (lay_bytes (e := 1) (q := 0) HR.out.2.1)
      have hwr := fun {w : World} (hD : (DiskA b bs bm d).says w) (hr : RdS (encInt .u8) 1 w (.slice Aa (layP 1 0 xs).length ca) (layP 1 0 xs)) => ewrite_at w hD HR.out.1 (by omega) 0 (countP xs.length) 0 (s : Int) rfl hr (lay_bytes HR.out.2.1) (layP_len 1 0 xs) hcn (by omega) hap2
      obtain ⟨d1, hd1⟩ : ∃ d1, d.lay 0 (countP xs.length) (layP 1 0 xs) = d1 := ⟨_, rfl⟩
      have hro := HR.out.2.2
      rw [if_neg (fun h => h HC.out), hd1] at hro
      rw [hd1] at hfl
      unfold WriteE at hwr
      rw [hd1] at hwr
      obtain ⟨y, hy⟩ : ∃ y, layP 1 0 xs = y := ⟨_, rfl⟩
      rw [hy] at hwr hra ⊢
      have HY := Lib.hid (And.intro hfl (And.intro hro hcn))
      clear hy hd1 hro hfl hcn hap2
      obtain ⟨e1, he1⟩ : ∃ e1, d1.2 = e1 := ⟨_, rfl⟩
      rw [he1] at hwr
      by_cases he : e1 = 0
      · subst he
        have HE := Lib.hid he1
        clear he1
        go_wp2_with (first
          | (refine L_loadrow rfl rfl H 0 rfl rfl Tryz.underlying65 rfl info65 ?hn ?_; (case hn => first | rfl | assumption | (simp only [List.size_toArray]; assumption)); (try simp only [Act.put, List.setIfInBounds_toArray, List.set_cons_succ, List.set_cons_zero, List.getElem_toArray, List.getElem_cons_succ, List.getElem_cons_zero]))
          | (go_at_call 29; refine hplace.mono ?_; rintro e1 w2 ⟨rfl, hE⟩; replace H := H.calls hE; replace hra := hra.keep hE; clear hE)
          | (go_at_call 30; refine (hwr (H.get 1 rfl) hra).mono ?_; rintro e1 w3 ⟨rfl, hE, hsay⟩; replace H := H.disk 1 rfl hE hsay; simp only [List.set_cons_zero, List.set_cons_succ] at H; clear hE hsay)
          | (go_at_call 31; refine (dflush (H.get 1 rfl) HY.out.1).mono ?_; rintro e1 w4 ⟨rfl, hE, hsay⟩; replace H := H.disk 1 rfl hE hsay; simp only [List.set_cons_zero, List.set_cons_succ] at H; clear hE hsay))
        go_ret
        have hrr : r = d1.1.flushR := by rw [HY.out.2.1, if_neg (fun h => h HE.out)]
        exact ⟨by rw [hrr]; rfl, H.ext, by rw [hrr]; exact H.get 1 rfl⟩
      · have HE := Lib.hid (And.intro he1 he)
        clear he1
        go_wp2_with (first
          | (refine L_loadrow rfl rfl H 0 rfl rfl Tryz.underlying65 rfl info65 ?hn ?_; (case hn => first | rfl | assumption | (simp only [List.size_toArray]; assumption)); (try simp only [Act.put, List.setIfInBounds_toArray, List.set_cons_succ, List.set_cons_zero, List.getElem_toArray, List.getElem_cons_succ, List.getElem_cons_zero]))
          | (go_at_call 29; refine hplace.mono ?_; rintro e1 w2 ⟨rfl, hE⟩; replace H := H.calls hE; replace hra := hra.keep hE; clear hE)
          | (go_at_call 30; refine (hwr (H.get 1 rfl) hra).mono ?_; rintro e1 w3 ⟨rfl, hE, hsay⟩; replace H := H.disk 1 rfl hE hsay; simp only [List.set_cons_zero, List.set_cons_succ] at H; clear hE hsay))
        go_ret
        have hrr : r = d1 := by rw [HY.out.2.1, if_pos (by rw [HE.out.1]; exact HE.out.2)]
        exact ⟨by rw [hrr, HE.out.1]; rfl, H.ext, by rw [hrr]; exact H.get 1 rfl⟩
    · have hrec2 := fun {w : World} (hE : Ext (DiskA b bs bm d).fp w0 w) => (hrec hE).mono (R' := fun e w' => e = .returned (.tuple #[.slice none 0 0, .int .i64 (recErr s 1 xs.length)]) ∧ Ext0 w w') (fun e w' h => h.elim (fun h => h.2) (fun h => absurd h.1 hc))
      obtain ⟨re, hre⟩ : ∃ re, recErr s 1 xs.length = re := ⟨_, rfl⟩
      rw [hre] at hrec2 hc
      have HC := Lib.hid (And.intro hre hc)
      clear hrec hre
      go_wp2_with (first
        | (refine L_loadrow rfl rfl H 0 rfl rfl Tryz.underlying65 rfl info65 ?hn ?_; (case hn => first | rfl | assumption | (simp only [List.size_toArray]; assumption)); (try simp only [Act.put, List.setIfInBounds_toArray, List.set_cons_succ, List.set_cons_zero, List.getElem_toArray, List.getElem_cons_succ, List.getElem_cons_zero]))
        | (go_at_call 28; refine (hrec2 H.ext).mono ?_; rintro e1 w1 ⟨rfl, hE⟩; replace H := H.calls hE; clear hE))
      go_ret
      have hrr : r = (d, re) := by rw [HR.out.2.2, HC.out.1, if_pos HC.out.2]
      exact ⟨by rw [hrr]; rfl, H.ext, by rw [hrr]; exact H.get 1 rfl⟩
  · have hm := fun {w : World} (hD : (DiskA b bs bm d).says w) => may_any w hD hf slot log
    rw [show decide (mayP d.sure.length slot log) = false from decide_eq_false hmay] at hm
    have hfo : formatP d slot log xs = (d, 1) := by unfold formatP; rw [if_pos hmay]
    have HF := Lib.hid hfo
    clear hmay hfo h hr
    go_enter Tryz.func6, Tryz.ntmps6
    go_wp2_with (first
      | (refine L_alloc rfl rfl H Tryz.zeroValue65 ?_; clear H; intro g3 w H; simp only [Value.cells] at H; (try simp only [Act.put, List.setIfInBounds_toArray, List.set_cons_succ, List.set_cons_zero, List.getElem_toArray, List.getElem_cons_succ, List.getElem_cons_zero]))
      | (refine L_storerow rfl rfl H 0 rfl rfl rfl info65 rfl rfl (one3 _ _ _ rfl rfl rfl) ?_; clear H; intro w H; simp only [List.set_cons_zero, List.set_cons_succ, List.setIfInBounds_toArray, Act.eval, Array.getD_eq_getD_getElem?, List.getElem?_toArray, List.getElem?_cons_succ, List.getElem?_cons_zero, Option.getD_some] at H; (try simp only [Act.put, List.setIfInBounds_toArray, List.set_cons_succ, List.set_cons_zero, List.getElem_toArray, List.getElem_cons_succ, List.getElem_cons_zero]))
      | (refine L_loadrow rfl rfl H 0 rfl rfl Tryz.underlying65 rfl info65 ?hn ?_; (case hn => first | rfl | assumption | (simp only [List.size_toArray]; assumption)); (try simp only [Act.put, List.setIfInBounds_toArray, List.set_cons_succ, List.set_cons_zero, List.getElem_toArray, List.getElem_cons_succ, List.getElem_cons_zero]))
      | (go_at_call 27; refine (hm (H.get 1 rfl)).mono ?_; rintro e1 w1 ⟨rfl, hE⟩; replace H := H.calls hE; clear hE))
    go_ret
    exact ⟨by rw [HF.out]; rfl, H.ext, by rw [HF.out]; exact H.get 1 rfl⟩

set_option maxHeartbeats 1000000 in
theorem few_c (v : Value) (xs : List Int) (k : Nat) (hk : k ≤ 1000) (w0 w : World) (hr : RdS (encInt .u8) 1 w0 v xs) : Calls Tryz.prog 7 #[v, .int .i64 (k : Int)] w fun e w' => (∃ A n c, e = .returned (.slice A n c) ∧ n = (xs.take k).length ∧ RdS (encInt .u8) 1 w0 (.slice A n c) (xs.take k)) ∧ w' = w := by
  obtain ⟨A, cap, rfl, hc⟩ := hr.len
  by_cases hl : k < xs.length
  · have hl' : (k : Int) < (xs.length : Int) := by omega
    obtain ⟨b, off, _, _, _, rfl, _, _⟩ := hr.cell (j := 0) (by omega)
    have hcc : k ≤ cap := by omega
    have hc0 : ¬ cap = 0 := by omega
    have h2 := sub_rd hr 0 k cap (by omega) hcc
    rw [List.drop_zero, Nat.add_zero] at h2
    have HR := Lib.hid h2
    clear hr h2
    go_enter Tryz.func7, Tryz.ntmps7
    go_wp2
    go_ret
    exact ⟨⟨_, _, _, rfl, by rw [List.length_take]; omega, by simpa using HR.out⟩, rfl⟩
  · have hl' : ¬ (k : Int) < (xs.length : Int) := by omega
    have HR := Lib.hid hr
    clear hr
    go_enter Tryz.func7, Tryz.ntmps7
    go_wp2
    go_ret
    exact ⟨⟨_, _, _, rfl, (by first | omega | (rw [List.length_take]; omega)), by rw [List.take_of_length_le (by omega)]; exact HR.out⟩, rfl⟩

end Go.Proofs.YtgmeahogdjhejaaGreatDoor
