/- Tables: the law's fixed fact. -/
import Derived.Test.YtoaieodcdbbndaaTabO
import Derived.Test.YtoaieodcdbbndaaTabP
namespace Go.Proofs.Ytoaieodcdbbndaa
set_option linter.unusedVariables false
set_option linter.unusedSimpArgs false
open Go.RowKit

def awB : Blk := ⟨0, 1, 2, 88, 1, List.replicate 72 0⟩
def awT : Tab := ⟨1, 0, 0, 0, 1, 1, [awB]⟩
theorem awB_fit : awB.Fit := ⟨by simp [awB], fun x hx => by rw [(List.mem_replicate.1 hx).2]; omega⟩
theorem awT_fit : ∀ b ∈ awT.bs, b.Fit := fun b hb => by rw [List.mem_singleton.1 hb]; exact awB_fit
theorem awT_num : ∀ b ∈ awT.bs, b.Num := fun b hb => by rw [List.mem_singleton.1 hb]; exact ⟨by simp [awB], by simp [awB]⟩
theorem aw_len : (encTab awT).length = 170 := by kernel_rfl
theorem aw_dec : decR (encTab awT) = (awT, 0) := by kernel_rfl
theorem aw_dec1 : decR ((encTab awT).drop 1) = (zeroT, 12) := by kernel_rfl
theorem aw_sp : spansP awT.bs = [⟨2, 3⟩] := by kernel_rfl
theorem aw_head : headP awT := by
  refine ⟨.inl ⟨rfl, rfl, rfl⟩, by decide, by decide, by decide, by decide, fun b hb => ?_⟩
  cases hb
  rfl
theorem aw_blk : ∀ k b, awT.bs[k]? = some b → blkP awT k b := by
  intro k b hb
  cases k with
  | zero =>
    cases hb
    exact ⟨fun c h => absurd h (by omega), by decide, by decide, by decide, by simp [awB], .inl rfl⟩
  | succ k => simp [awT] at hb
open Classical in
theorem aw_good5 : decide (goodP awT 5) = true := by
  rw [decide_eq_true_eq]
  refine ⟨aw_head, aw_blk, ?_⟩
  rw [aw_sp]
  exact decide_eq_true ⟨fun s hs => by rw [List.mem_singleton.1 hs]; simp, List.pairwise_singleton _ _⟩
open Classical in
theorem aw_good4 : decide (goodP awT 4) = false := by
  rw [decide_eq_false_iff_not]
  intro h
  have := h.2.2
  rw [aw_sp] at this
  have h2 := (of_decide_eq_true this).1 ⟨2, 3⟩ (by simp)
  simp at h2

theorem aw_given {w w' : World} {e : Ending} (h : GivesTab w awT e w') : ∃ Ab cb ps, e = .returned (.agg #[.int .i64 1, .int .i64 0, .int .i64 0, .int .i64 0, .int .i64 1, .int .i64 1, .slice Ab 1 cb]) ∧ ps.length = 1 ∧ ps.map (·.2) = awT.bs ∧ BsR w' (.slice Ab 1 cb) ps ∧ Ext0 w w' := by
  obtain ⟨bv, ps, rfl, hps, hbs, hE⟩ := h
  have hl : ps.length = 1 := by have := congrArg List.length hps; simpa [awT] using this
  obtain ⟨Ab, cb, rfl, _⟩ := hbs.row.len
  rw [hl] at hbs ⊢
  exact ⟨Ab, cb, ps, rfl, hl, hps, hbs, hE⟩
theorem dec_given {w w' : World} {e : Ending} {eb : List Int} (hd : decR eb = (awT, 0)) (h : DecE w eb e w') : ∃ Ad cd ps, e = .returned (.tuple #[.agg #[.int .i64 1, .int .i64 0, .int .i64 0, .int .i64 0, .int .i64 1, .int .i64 1, .slice Ad 1 cd], .int .i64 0]) ∧ ps.length = 1 ∧ ps.map (·.2) = awT.bs ∧ BsR w' (.slice Ad 1 cd) ps ∧ Ext0 w w' := by
  unfold DecE at h
  rw [hd] at h
  obtain ⟨bv, ps, rfl, hps, hbs, _, _, hE⟩ := h
  have hl : ps.length = 1 := by have := congrArg List.length hps; simpa [awT] using this
  obtain ⟨Ab, cb, rfl, _⟩ := hbs.row.len
  rw [hl] at hbs ⊢
  exact ⟨Ab, cb, ps, rfl, hl, hps, hbs, hE⟩
theorem dec_given1 {w w' : World} {e : Ending} {eb : List Int} (hd : decR eb = (zeroT, 12)) (h : DecE w eb e w') : ∃ Ad cd, e = .returned (.tuple #[.agg #[.int .i64 0, .int .i64 0, .int .i64 0, .int .i64 0, .int .i64 0, .int .i64 0, .slice Ad 0 cd], .int .i64 12]) ∧ Ext0 w w' := by
  unfold DecE at h
  rw [hd] at h
  obtain ⟨bv, ps, rfl, hps, hbs, _, _, hE⟩ := h
  have hl : ps.length = 0 := by have := congrArg List.length hps; simpa [zeroT] using this
  obtain ⟨Ab, cb, rfl, _⟩ := hbs.row.len
  rw [hl]
  exact ⟨Ab, cb, rfl, hE⟩
theorem RdS.drop1 {w : World} {b off n c : Nat} {xs : List Int} (h : RdS (encInt .u8) 1 w (.slice (some ⟨b, off, none⟩) n c) xs) (h0 : 0 < n) : RdS (encInt .u8) 1 w (.slice (some ⟨b, off + 1, none⟩) (n - 1) (c - 1)) (xs.drop 1) := by
  obtain ⟨A, c', he, hc, hh⟩ := h
  simp only [Value.slice.injEq] at he
  obtain ⟨hA, hn, rfl⟩ := he
  rcases hh with hh | ⟨b2, off2, cs, T, fr, hA2, hb, hcs⟩
  · rw [hh] at hn; simp at hn; omega
  · rw [hA2] at hA
    simp only [Option.some.injEq, Addr.mk.injEq] at hA
    obtain ⟨rfl, rfl, _⟩ := hA
    refine ⟨_, _, by rw [List.length_drop, ← hn], by rw [List.length_drop]; omega, .inr ⟨b, off + 1, cs, T, fr, rfl, hb, fun j hj i hi => ?_⟩⟩
    have hj2 : j + 1 < xs.length := by rw [List.length_drop] at hj; omega
    have := hcs (j + 1) hj2 i hi
    rw [show off + 1 + j * 1 + i = off + (j + 1) * 1 + i by omega, this]
    simp [List.getElem_drop, Nat.add_comm]
theorem row7 {w : World} {g : Nat} {a b c d e f h : Value} {T : TypeId} {fr : Nat × Nat} (hg : w.heap[g]? = some (.cells #[a, b, c, d, e, f, h] T fr)) :
    w.cell? ⟨g, 0, none⟩ = some a ∧ w.cell? ⟨g, 1, none⟩ = some b ∧ w.cell? ⟨g, 2, none⟩ = some c ∧ w.cell? ⟨g, 3, none⟩ = some d ∧ w.cell? ⟨g, 4, none⟩ = some e ∧ w.cell? ⟨g, 5, none⟩ = some f ∧ w.cell? ⟨g, 6, none⟩ = some h :=
  ⟨cell_of_row w g 0 _ _ _ hg, cell_of_row w g 1 _ _ _ hg, cell_of_row w g 2 _ _ _ hg, cell_of_row w g 3 _ _ _ hg, cell_of_row w g 4 _ _ _ hg, cell_of_row w g 5 _ _ _ hg, cell_of_row w g 6 _ _ _ hg⟩
theorem aw_none {w w' : World} {e : Ending} (h : GivesNone ⟨1, 0, 0, 0, 1, 1, []⟩ w e w') : ∃ A c, e = .returned (.agg #[.int .i64 1, .int .i64 0, .int .i64 0, .int .i64 0, .int .i64 1, .int .i64 1, .slice A 0 c]) ∧ Ext0 w w' := h
theorem ids_new (w : World) : RdS (encInt .i64) 1 (w.alloc (.cells #[.int .i64 0] 3)) (.slice (some ⟨w.heap.size, 0, none⟩) 1 1) [0] :=
  ⟨_, 1, rfl, Nat.le_refl _, .inr ⟨_, 0, _, _, _, rfl, heap_alloc_new w _, fun j hj i hi => by
    obtain rfl : j = 0 := by simpa using hj
    obtain rfl : i = 0 := by omega
    rfl⟩⟩
theorem field6 (A : Option Addr) (c : Nat) (W : World) : (Instr.field 24 (.agg #[.int .i64 1, .int .i64 0, .int .i64 0, .int .i64 0, .int .i64 1, .int .i64 1, .slice A 0 c]) 6).run Try.prog W = .ok (.slice A 0 c) W := by
  unfold Instr.field
  simp only [Sem.run_bind, run_underlying Try.underlying24, Result.andThen_ok]
  simp [part, asAgg, Try.isAgg22]
open Classical in
set_option maxRecDepth 100000 in
set_option maxHeartbeats 4000000 in
theorem awake_any (w0 : World) : Calls Try.prog 9 #[] w0 fun e w' => e = .returned (.bool true) ∧ Ext0 w0 w' := by
  obtain ⟨i0, hi, hz, hsz, hby⟩ := info_parts info5
  have H : SH (fun _ => False) w0 w0 [] := SH.nil _ _
  have hwith : ∀ {W : World} {A : Option Addr} {c : Nat}, RdS (encInt .u8) 1 W (.slice A 72 c) (List.replicate 72 0) → Calls Try.prog 24 #[.agg #[.int .i64 1, .int .i64 0, .int .i64 0, .int .i64 0, .int .i64 1, .int .i64 1, .slice none 0 0], .agg #[.int .i64 0, .int .i64 1, .int .i64 2, .int .i64 88, .int .i64 1, .slice A 72 c]] W (GivesTab W awT) :=
    fun {W A c} h => with0_any 1 0 0 0 1 1 ((A, c), awB) W h (by simp [awB])
  go_enter Try.func9, Try.ntmps9
  go_upto_region 2 with (first
    | (refine L_make (n := 72) rfl rfl H Try.underlying34 hi hz rfl rfl (by rw [hby]; omega) (by simp only [maxLen]; omega) ?_; clear H; intro g8 w H; rw [hsz, made_bytes] at H))
  have hr8 := bytesRd (H.at_ 0 rfl)
  rw [List.length_replicate] at hr8
  replace hr8 := hr8.keep (Ext.alloc (fun _ => False) w (.cells #[.int .i64 0, .int .i64 1, .int .i64 2, .int .i64 88, .int .i64 1, .slice (some ⟨g8, 0, none⟩) 72 72] 45))
  replace H := H.alloc (.cells #[.int .i64 0, .int .i64 1, .int .i64 2, .int .i64 88, .int .i64 1, .slice (some ⟨g8, 0, none⟩) 72 72] 45)
  generalize w.heap.size = g1 at *
  generalize w.alloc (.cells #[.int .i64 0, .int .i64 1, .int .i64 2, .int .i64 88, .int .i64 1, .slice (some ⟨g8, 0, none⟩) 72 72] 45) = w1 at *
  go_upto_region 3 with (first
    | (refine L_loadrow rfl rfl H 0 rfl rfl Try.underlying45 rfl info45 rfl ?_; (try simp only [Act.put, List.setIfInBounds_toArray, List.set_cons_succ, List.set_cons_zero, List.getElem_toArray, List.getElem_cons_succ, List.getElem_cons_zero]))
    | (go_at_call 24; refine (hwith hr8).mono ?_; intro e w2 hgv; obtain ⟨Ab, cb, ps, rfl, hpl, hps, hbs, hE⟩ := aw_given hgv; clear hgv; replace H := H.calls hE; clear hE))
  replace H := H.alloc (.cells #[.int .i64 1, .int .i64 0, .int .i64 0, .int .i64 0, .int .i64 1, .int .i64 1, .slice Ab 1 cb] 24)
  replace hbs := hbs.keep (Ext.alloc (fun _ => False) w2 (.cells #[.int .i64 1, .int .i64 0, .int .i64 0, .int .i64 0, .int .i64 1, .int .i64 1, .slice Ab 1 cb] 24))
  generalize w2.heap.size = g2 at *
  generalize w2.alloc (.cells #[.int .i64 1, .int .i64 0, .int .i64 0, .int .i64 0, .int .i64 1, .int .i64 1, .slice Ab 1 cb] 24) = w3 at *
  obtain ⟨eb, heb⟩ : ∃ eb, encTab awT = eb := ⟨_, rfl⟩
  have henc : ∀ {W : World}, BsR W (.slice Ab 1 cb) ps → Calls Try.prog 17 #[.agg #[.int .i64 1, .int .i64 0, .int .i64 0, .int .i64 0, .int .i64 1, .int .i64 1, .slice Ab 1 cb]] W (GivesB W eb) := fun {W} h => by rw [← heb]; exact encode_any awT _ ps W hps h (by omega) awT_fit
  have hdec := aw_dec
  have hdec1 := aw_dec1
  have hlen := aw_len
  have hbyt := encTab_bytes awT_fit
  rw [heb] at hdec hdec1 hlen hbyt
  have HEB := Lib.hid heb
  clear heb
  go_upto_region 6 with (first
    | (refine L_loadrow rfl rfl H 0 rfl rfl Try.underlying24 rfl info24 rfl ?_; (try simp only [Act.put, List.setIfInBounds_toArray, List.set_cons_succ, List.set_cons_zero, List.getElem_toArray, List.getElem_cons_succ, List.getElem_cons_zero]))
    | (go_at_call 17; refine (henc hbs).mono ?_; rintro e w4 ⟨v3, rfl, hv3, hE⟩; replace H := H.calls hE; replace hbs := hbs.keep hE; clear hE; obtain ⟨A3, c3, hv3e, hc3⟩ := hv3.len; rw [hlen] at hv3e hc3; subst hv3e))
  go_upto_region 7 with (first
    | (go_at_call 19; refine (decode_any _ eb _ hv3 hbyt (by omega)).mono ?_; intro e w5 hgv; obtain ⟨Ad, cd, ps2, rfl, hpl2, hps2, hbs2, hE⟩ := dec_given hdec hgv; clear hgv; replace H := H.calls hE; replace hbs := hbs.keep hE; replace hv3 := hv3.keep hE; clear hE))
  have hE6 := Ext.alloc (fun _ => False) w5 (.cells #[.int .i64 1, .int .i64 0, .int .i64 0, .int .i64 0, .int .i64 1, .int .i64 1, .slice Ad 1 cd] 24)
  replace H := H.alloc (.cells #[.int .i64 1, .int .i64 0, .int .i64 0, .int .i64 0, .int .i64 1, .int .i64 1, .slice Ad 1 cd] 24)
  replace hbs := hbs.keep hE6
  replace hbs2 := hbs2.keep hE6
  replace hv3 := hv3.keep hE6
  clear hE6
  generalize w5.heap.size = g4 at *
  generalize w5.alloc (.cells #[.int .i64 1, .int .i64 0, .int .i64 0, .int .i64 0, .int .i64 1, .int .i64 1, .slice Ad 1 cd] 24) = w6 at *
  obtain ⟨b3, o3, cs3, T3, fr3, rfl, hz1, hz2⟩ := hv3.cell (show 0 < eb.length by omega)
  clear hz1 hz2
  have hc3i : (170 : Int) ≤ (c3 : Int) := by omega
  have hc3n : ¬ c3 = 1 := by omega
  have hv4 := hv3.drop1 (by omega)
  go_upto_region 8 with (first
    | (go_at_call 19; refine (decode_any _ (eb.drop 1) _ hv4 (fun x hx => hbyt x (List.mem_of_mem_drop hx)) (by rw [List.length_drop]; omega)).mono ?_; intro e w7 hgv; obtain ⟨Az, cz, rfl, hE⟩ := dec_given1 hdec1 hgv; clear hgv; replace H := H.calls hE; replace hbs := hbs.keep hE; replace hbs2 := hbs2.keep hE; clear hE))
  have hE6 := Ext.alloc (fun _ => False) w7 (.cells #[.int .i64 0, .int .i64 0, .int .i64 0, .int .i64 0, .int .i64 0, .int .i64 0, .slice Az 0 cz] 24)
  replace H := H.alloc (.cells #[.int .i64 0, .int .i64 0, .int .i64 0, .int .i64 0, .int .i64 0, .int .i64 0, .slice Az 0 cz] 24)
  replace hbs := hbs.keep hE6
  replace hbs2 := hbs2.keep hE6
  clear hE6
  generalize w7.heap.size = g6 at *
  generalize w7.alloc (.cells #[.int .i64 0, .int .i64 0, .int .i64 0, .int .i64 0, .int .i64 0, .int .i64 0, .slice Az 0 cz] 24) = w8 at *
  have hneed : ∀ {W : World}, Calls Try.prog 15 #[.int .i64 88] W fun e w' => e = .returned (.int .i64 3) ∧ w' = W := fun {W} => need_any 88 W (by omega) (by omega)
  have hg5 : ∀ {W : World}, BsR W (.slice Ab 1 cb) ps → Calls Try.prog 10 #[.agg #[.int .i64 1, .int .i64 0, .int .i64 0, .int .i64 0, .int .i64 1, .int .i64 1, .slice Ab 1 cb], .int .i64 5] W fun e w' => e = .returned (.bool true) ∧ Ext0 W w' := fun {W} h => by
    have := good_table awT (.slice Ab 1 cb) ps 5 W hps h.row (by omega) awT_num (by omega) (by omega)
    rw [aw_good5] at this
    exact this
  have hg4 : ∀ {W : World}, BsR W (.slice Ab 1 cb) ps → Calls Try.prog 10 #[.agg #[.int .i64 1, .int .i64 0, .int .i64 0, .int .i64 0, .int .i64 1, .int .i64 1, .slice Ab 1 cb], .int .i64 4] W fun e w' => e = .returned (.bool false) ∧ Ext0 W w' := fun {W} h => by
    have := good_table awT (.slice Ab 1 cb) ps 4 W hps h.row (by omega) awT_num (by omega) (by omega)
    rw [aw_good4] at this
    exact this
  have hsame : ∀ {W : World}, BsR W (.slice Ab 1 cb) ps → BsR W (.slice Ad 1 cd) ps2 → Calls Try.prog 21 #[.agg #[.int .i64 1, .int .i64 0, .int .i64 0, .int .i64 0, .int .i64 1, .int .i64 1, .slice Ab 1 cb], .agg #[.int .i64 1, .int .i64 0, .int .i64 0, .int .i64 0, .int .i64 1, .int .i64 1, .slice Ad 1 cd]] W fun e w' => e = .returned (.bool true) ∧ Ext0 W w' := fun {W} h h2 =>
    refSame_any awT awT _ _ ps ps2 W hps h (by omega) awT_fit hps2 h2 (by omega) awT_fit rfl
  have hfind : ∀ {W : World}, BsR W (.slice Ab 1 cb) ps → Calls Try.prog 22 #[.agg #[.int .i64 1, .int .i64 0, .int .i64 0, .int .i64 0, .int .i64 1, .int .i64 1, .slice Ab 1 cb], .int .i64 0] W fun e w' => e = .returned (.int .i64 0) ∧ Ext0 W w' := fun {W} h =>
    find_any awT _ ps 0 W hps h.row (by omega)
  have hwo : ∀ {W : World} {iv : Value}, BsR W (.slice Ab 1 cb) ps → RdS (encInt .i64) 1 W iv [0] → Calls Try.prog 26 #[.agg #[.int .i64 1, .int .i64 0, .int .i64 0, .int .i64 0, .int .i64 1, .int .i64 1, .slice Ab 1 cb], iv] W (GivesNone ⟨1, 0, 0, 0, 1, 1, []⟩ W) := fun {W iv} h h2 => by
    match ps, hpl, hps, h with
    | [p], _, hps, h =>
      have hp : p.2 = awB := by simpa [awT] using hps
      have := without1_any 1 0 0 0 1 1 p (.slice Ab 1 cb) iv [0] W h (by rw [hp]; simp [awB]) h2 (by simp) (by rw [hp]; simp [awB])
      exact this
  obtain ⟨k0, k1, k2, k3, k4, k5, k6⟩ := row7 (H.at_ 2 rfl)
  clear hwith henc hdec hdec1 hi hz hsz hby hr8
  go_wp2_with (first
    | (go_at_call 15; refine hneed.mono ?_; rintro e w9 ⟨rfl, rfl⟩)
    | (go_at_call_of 10 (Value.int IntKind.i64 5); refine (hg5 hbs).mono ?_; rintro e w9 ⟨rfl, hE⟩; replace H := H.calls hE; replace hbs := hbs.keep hE; replace hbs2 := hbs2.keep hE; clear hE; obtain ⟨k0, k1, k2, k3, k4, k5, k6⟩ := row7 (H.at_ 2 rfl); obtain ⟨m0, m1, m2, m3, m4, m5, m6⟩ := row7 (H.at_ 1 rfl))
    | (go_at_call_of 10 (Value.int IntKind.i64 4); refine (hg4 hbs).mono ?_; rintro e w9 ⟨rfl, hE⟩; replace H := H.calls hE; replace hbs := hbs.keep hE; replace hbs2 := hbs2.keep hE; clear hE; obtain ⟨k0, k1, k2, k3, k4, k5, k6⟩ := row7 (H.at_ 2 rfl); obtain ⟨m0, m1, m2, m3, m4, m5, m6⟩ := row7 (H.at_ 1 rfl))
    | (go_at_call 21; refine (hsame hbs hbs2).mono ?_; rintro e w9 ⟨rfl, hE⟩; replace H := H.calls hE; replace hbs := hbs.keep hE; replace hbs2 := hbs2.keep hE; clear hE; obtain ⟨k0, k1, k2, k3, k4, k5, k6⟩ := row7 (H.at_ 2 rfl); obtain ⟨m0, m1, m2, m3, m4, m5, m6⟩ := row7 (H.at_ 1 rfl))
    | (go_at_call 22; refine (hfind hbs).mono ?_; rintro e w9 ⟨rfl, hE⟩; replace H := H.calls hE; replace hbs := hbs.keep hE; replace hbs2 := hbs2.keep hE; clear hE; obtain ⟨k0, k1, k2, k3, k4, k5, k6⟩ := row7 (H.at_ 2 rfl); obtain ⟨m0, m1, m2, m3, m4, m5, m6⟩ := row7 (H.at_ 1 rfl))
    | (go_at_call 26; refine (hwo (hbs.keep (Ext.alloc _ _ _)) (ids_new _)).mono ?_; intro e w10 hgv; obtain ⟨Aw, cw, rfl, hE9⟩ := aw_none hgv; clear hgv; have hf6 := field6 Aw cw w10))
  go_ret
  exact ⟨rfl, (H.ext.trans0 (Ext.alloc _ _ _)).trans0 hE9⟩
end Go.Proofs.Ytoaieodcdbbndaa
