/- Open. -/
import Derived.Test.YtgmeahogdjhejaaGreatDoorWalT
namespace Go.Proofs.YtgmeahogdjhejaaGreatDoor
set_option linter.unusedVariables false
set_option linter.unusedSimpArgs false
open Go.RowKit Go.Shelf

theorem info76 : (Tryz.prog.info? 76).map (·.size) = some 9 := by kernel_rfl
theorem SH.addEmpty {M : Nat → Prop} {w0 w : World} {L : List Asr} (H : SH M w0 w L) (A : Asr) (hs : A.says w) (hf : ∀ i, ¬ A.fp i) : SH M w0 w (L ++ [A]) := by
  refine ⟨H.ext, ?_, ?_, ?_, ?_⟩
  · intro X hX
    rcases List.mem_append.1 hX with hX | hX
    · exact H.says X hX
    · rw [List.mem_singleton.1 hX]; exact hs
  · intro X hX i hi
    rcases List.mem_append.1 hX with hX | hX
    · exact H.lt X hX i hi
    · rw [List.mem_singleton.1 hX] at hi; exact absurd hi (hf i)
  · intro X hX i hi
    rcases List.mem_append.1 hX with hX | hX
    · exact H.own X hX i hi
    · rw [List.mem_singleton.1 hX] at hi; exact absurd hi (hf i)
  · refine List.pairwise_append.2 ⟨H.apart, List.pairwise_singleton _ _, fun X hX Y hY i hi hi' => ?_⟩
    rw [List.mem_singleton.1 hY] at hi'
    exact hf i hi'

def OpenE (b : Nat) (r : Option (JS × List Int × List (List Int))) (w : World) (e : Ending) (w' : World) : Prop :=
  (r = none ∧ e = .returned (.tuple #[.pointer none, .slice none 0 0, .slice none 0 0, .int .i64 15]) ∧ Ext0 w w') ∨
  ∃ j st xss jb vs vl ps, r = some (j, st, xss) ∧ e = .returned (.tuple #[.pointer (some ⟨jb, 0, none⟩), vs, vl, .int .i64 0]) ∧ ps.map (·.2) = xss ∧
    SH (fun _ => False) w w' [rowsA ps, ownA 22 1 vl ps.length (cellsOf encSl (ps.map (·.1))), JA b jb j, rdA vs st]
def BestR (b jb : Nat) (d : DS) (s l : Nat) (w0 : World) (vn v : Value) (wr : World) : Prop :=
  ∃ n : Nat, n ≤ 2 ∧ vn = .int .i64 (n : Int) ∧ AccOk (bestUp d s n) ∧ SH (fun _ => False) w0 wr [pt jb (.cells (jCells b (accJ s l (bestUp d s n))) 76 (0, 0)), rdA v (accB (bestUp d s n))]
def ScanR (b jb s l : Nat) (a : Rec) (p : Nat) (xs : List Int) (g cap : Nat) (v7 : Value) (w0 : World) (v16 v6 v7' v8 : Value) (wr : World) : Prop :=
  v6 = .pointer (some ⟨jb, 0, none⟩) ∧ v7 = v7' ∧ ∃ (ps : List ((Option Addr × Nat × Nat) × List Int)) (seq : Int) (used f : Nat) (A : Option Addr) (m c : Nat), v16 = .slice A m c ∧ m = 32 * (l - used) ∧ m ≤ c ∧ (used < l → A = some ⟨g, 32 * used, none⟩) ∧ used ≤ l ∧ l ≤ f + used ∧ U32 seq ∧ ps.length ≤ used ∧
    scanP xs a.epoch l a.seq 0 = (ps.map (·.2) ++ (scanP xs a.epoch f seq used).1, (scanP xs a.epoch f seq used).2) ∧
    SH (fun _ => False) w0 wr [rowsA ps, ownA 22 1 v8 ps.length (cellsOf encSl (ps.map (·.1))), ownA 5 1 (.slice (some ⟨g, 0, none⟩) (32 * l) cap) (32 * l) (cellsOf (encInt .u8) xs), pt jb (.cells (jCells b ⟨s, l, a.epoch, seq, p, used, false, false⟩) 76 (0, 0)), rdA v7 a.bytes]
set_option maxRecDepth 100000 in
set_option maxHeartbeats 8000000 in
theorem open_any {b bs bm : Nat} {d : DS} {W0 : Int} (w0 : World) (h : (DiskA b bs bm d).says w0) (hf : d.Fine W0) (s l : Nat) (hmay : mayP d.sure.length s l) :
    Calls Tryz.prog 9 #[.pointer (some ⟨b, 0, none⟩), .int .i64 s, .int .i64 l] w0 (OpenE b (openP d s l) w0) := by
  have H : SH (fun _ => False) w0 w0 [] := SH.nil _ _
  have hlen := hf.len
  have hdis : ∀ w : World, Ext0 w0 w → (DiskA b bs bm d).says w := fun w hE => (DiskA b bs bm d).keep w0 w (fun j hj => hE.block j (DiskA.fp_lt h hj) (fun e => e)) h
  have hm := fun {w : World} (hE : Ext0 w0 w) => may_any w (hdis w hE) hf (s : Int) (l : Int)
  rw [show decide (mayP d.sure.length s l) = true from decide_eq_true hmay] at hm
  have HF := Lib.hid (And.intro hf hmay)
  have HD := Lib.hid hdis
  clear hmay hf h hdis
  go_enter Tryz.func9, Tryz.ntmps9
  go_upto_region 4 with (first
    | (refine L_box (cs := jCells b (accJ s l none)) rfl rfl H rfl rfl ?_; clear H; intro jb w H; (try simp only [Act.put, List.setIfInBounds_toArray, List.set_cons_succ, List.set_cons_zero, List.getElem_toArray, List.getElem_cons_succ, List.getElem_cons_zero]))
    | (refine L_loadmidp (off := 0) (ty := 65) rfl rfl H 0 rfl rfl Tryz.underlying65 rfl info65 [.pointer (some ⟨b, 0, none⟩), .int .i64 (s : Int), .int .i64 (l : Int)] rfl (fun j hj => by rcases (show j = 0 ∨ j = 1 ∨ j = 2 by omega) with rfl | rfl | rfl <;> rfl) ?_; (try simp only [Act.put, List.setIfInBounds_toArray, List.set_cons_succ, List.set_cons_zero, List.getElem_toArray, List.getElem_cons_succ, List.getElem_cons_zero]))
    | (go_at_call 27; refine (hm H.ext).mono ?_; rintro e1 w1 ⟨rfl, hE⟩; replace H := H.calls hE; clear hE))
  have H1 := H.addEmpty (rdA (.slice none 0 0) []) ⟨none, 0, rfl, Nat.le_refl _, .inl rfl⟩ (fun i hi => by cases hi)
  simp only [List.cons_append, List.nil_append] at H1
  clear H hm
  go_wp2_with fail
  go_loopw [34, 7] (BestR b jb d s l w0) (fun vn _ _ => 2 - (intOf vn).toNat)
  case atStart => exact ⟨0, Nat.zero_le _, rfl, (fun a p h => by cases h), H1⟩
  case round =>
    obtain ⟨n, hn, rfl, hok, hs⟩ := hrel
    by_cases hlt : n < 2
    · have hni : (n : Int) < 2 := by omega
      have hmay := HF.out.2
      have hms : 2 * s + l ≤ d.sure.length := by have := hmay.2.2.2.2; omega
      have hnl : n * s + s ≤ 2 * s := by rcases (show n = 0 ∨ n = 1 by omega) with rfl | rfl <;> omega
      have hp0 : IntKind.i64.wrap ((n : Int) * (s : Int)) = ((n * s : Nat) : Int) := by rw [IntKind.wrap_i64]; push_cast; rcases (show n = 0 ∨ n = 1 by omega) with rfl | rfl <;> omega
      have hp1 : IntKind.i64.wrap ((n : Int) + 1) = (n : Int) + 1 := by rw [IntKind.wrap_i64]; omega
      have hp2 : IntKind.i64.wrap (((n : Int) + 1) * (s : Int)) = ((n * s + s : Nat) : Int) := by rw [IntKind.wrap_i64]; push_cast; rcases (show n = 0 ∨ n = 1 by omega) with rfl | rfl <;> omega
      have hplace := fun {w : World} => place_any b (s : Int) (l : Int) n _ _ _ w hp0 hp1 hp2
      have hread := fun {w : World} (hE : Ext0 w0 w) => eread_any w (HD.out w hE) HF.out.1 (n * s) s ((n * s : Nat) : Int) ((n * s + s : Nat) : Int) rfl rfl (by omega)
      have hbl := DS.between_len HF.out.1 (n * s) s (by omega)
      have hbb := DS.between_bytes HF.out.1 (n * s) s (by omega)
      have hst : bestUp d s (n + 1) = bestStep d s n (bestUp d s n) := rfl
      unfold bestStep at hst
      obtain ⟨xs, hxs⟩ : ∃ xs, d.between (n * s) s = xs := ⟨_, rfl⟩
      obtain ⟨acc, hacc⟩ : ∃ acc, bestUp d s n = acc := ⟨_, rfl⟩
      obtain ⟨p0, hp00⟩ : ∃ p0 : Int, ((n * s : Nat) : Int) = p0 := ⟨_, rfl⟩
      obtain ⟨q0, hq00⟩ : ∃ q0 : Int, ((n * s + s : Nat) : Int) = q0 := ⟨_, rfl⟩
      rw [hp00, hq00] at hread hplace
      rw [hxs] at hread hbl hbb hst
      rw [hacc] at hs hok hst
      have hlift := fun {v : Value} {w : World} (hr : RdS (encInt .u8) 1 w v xs) => lift_any v xs w hr hbb (by omega)
      have HX := Lib.hid (And.intro hbl (And.intro hbb (And.intro hst hok)))
      clear hbl hbb hst hok hacc hxs hp00 hq00 hp0 hp2 hmay hms hnl
      unfold LiftE at hlift
      obtain ⟨ep, sq, pl, hj⟩ : ∃ ep sq pl, accJ s l acc = ⟨s, l, ep, sq, pl, 0, false, false⟩ := by cases acc <;> exact ⟨_, _, _, rfl⟩
      have HJ := Lib.hid hj
      rw [hj] at hs
      simp only [jCells] at hs
      have hR : ∀ W, SH (fun _ => False) w0 W [pt jb (.cells #[.pointer (some ⟨b, 0, none⟩), .int .i64 (s : Int), .int .i64 (l : Int), .int .i64 ep, .int .i64 sq, .int .i64 (pl : Int), .int .i64 ((0 : Nat) : Int), .bool false, .bool false] 76 (0, 0)), rdA u7 (accB acc)] → bestUp d s (n + 1) = acc → BestR b jb d s l w0 (.int .i64 ((n + 1 : Nat) : Int)) u7 W := fun W hW he => ⟨n + 1, by omega, rfl, by rw [he]; exact HX.out.2.2.2, by rw [he, HJ.out]; exact hW⟩
      have HR := Lib.hid hR
      clear hj hR
      cases hl : liftP xs with
      | none =>
        have hlift2 := fun {v : Value} {w : World} (hr : RdS (encInt .u8) 1 w v xs) => (hlift hr).mono (R' := fun e w' => e = .returned (.tuple #[.int .i64 0, .int .i64 0, .slice none 0 0, .int .i64 0, .int .i64 3]) ∧ Ext0 w w') (fun e w' h => by
          obtain ⟨h1 | h1, h2⟩ := h
          · obtain ⟨r, v, h3, _⟩ := h1; rw [hl] at h3; cases h3
          · exact ⟨h1.2, h2⟩)
        have hbe : bestUp d s (n + 1) = acc := by rw [HX.out.2.2.1, hl]
        have HB := Lib.hid hbe
        clear hl hlift hbe
        go_wp2_with (first
          | (refine L_loadmidp (off := 0) (ty := 65) rfl rfl hs 0 rfl rfl Tryz.underlying65 rfl info65 [.pointer (some ⟨b, 0, none⟩), .int .i64 (s : Int), .int .i64 (l : Int)] rfl (fun j hj => by rcases (show j = 0 ∨ j = 1 ∨ j = 2 by omega) with rfl | rfl | rfl <;> rfl) ?_; (try simp only [Act.put, List.setIfInBounds_toArray, List.set_cons_succ, List.set_cons_zero, List.getElem_toArray, List.getElem_cons_succ, List.getElem_cons_zero]))
          | (go_at_call 29; refine hplace.mono ?_; rintro e1 w2 ⟨rfl, hE⟩; replace hs := hs.calls hE; clear hE)
          | (go_at_call 38; refine (hread hs.ext).mono ?_; rintro e1 w3 ⟨v, rfl, ho, hE⟩; have hrd := own_rd (own_base ho (Nat.zero_le _)) rfl; replace hs := hs.calls hE; clear ho hE)
          | (go_at_call 37; refine (hlift2 hrd).mono ?_; rintro e1 w4 ⟨rfl, hE⟩; replace hs := hs.calls hE; clear hE))
        go_roundw
        case rel => exact HR.out _ hs HB.out
        case measure => simp [intOf]; omega
      | some r =>
        have hlift2 := fun {v : Value} {w : World} (hr : RdS (encInt .u8) 1 w v xs) => (hlift hr).mono (R' := fun e w' => ∃ vr, e = .returned (.tuple #[.int .i64 r.epoch, .int .i64 r.seq, vr, .int .i64 (r.sectors : Int), .int .i64 0]) ∧ RdS (encInt .u8) 1 w' vr r.bytes ∧ (∀ j, vr.ownBlock = some j → w.heap.size ≤ j ∧ j < w'.heap.size) ∧ Ext0 w w') (fun e w' h => by
          obtain ⟨h1 | h1, h2⟩ := h
          · obtain ⟨r', v, h3, h4, h5, h6⟩ := h1; rw [hl] at h3; cases h3; exact ⟨v, h4, h5, h6, h2⟩
          · rw [hl] at h1; cases h1.1)
        have hfa := lift_facts HX.out.2.1 hl
        have hacc : ∀ a p, acc = some (a, p) → a.epoch = ep := fun a p he => by have := HJ.out; rw [he] at this; cases this; rfl
        have hnone : acc = none → ep = -1 := fun he => by have := HJ.out; rw [he] at this; cases this; rfl
        clear hlift
        by_cases hgt : ep < r.epoch
        · have hbe : bestUp d s (n + 1) = some (r, n) := by
            rw [HX.out.2.2.1, hl]
            cases hac : acc with
            | none => rfl
            | some a => obtain ⟨a, p⟩ := a; show (if a.epoch < r.epoch then _ else _) = _; rw [if_pos (by rw [hacc a p hac]; exact hgt)]
          have HB := Lib.hid (And.intro hbe hfa)
          clear hl hbe hacc hnone hfa
          go_upto_region 8 with (first
          | (refine L_loadmidp (off := 0) (ty := 65) rfl rfl hs 0 rfl rfl Tryz.underlying65 rfl info65 [.pointer (some ⟨b, 0, none⟩), .int .i64 (s : Int), .int .i64 (l : Int)] rfl (fun j hj => by rcases (show j = 0 ∨ j = 1 ∨ j = 2 by omega) with rfl | rfl | rfl <;> rfl) ?_; (try simp only [Act.put, List.setIfInBounds_toArray, List.set_cons_succ, List.set_cons_zero, List.getElem_toArray, List.getElem_cons_succ, List.getElem_cons_zero]))
          | (go_at_call 29; refine hplace.mono ?_; rintro e1 w2 ⟨rfl, hE⟩; replace hs := hs.calls hE; clear hE)
          | (go_at_call 38; refine (hread hs.ext).mono ?_; rintro e1 w3 ⟨v, rfl, ho, hE⟩; have hrd := own_rd (own_base ho (Nat.zero_le _)) rfl; replace hs := hs.calls hE; clear ho hE)
          | (go_at_call 37; refine (hlift2 hrd).mono ?_; rintro e1 w4 ⟨vr, rfl, hrr, hfr, hE⟩; replace hs := hs.swap 1 rfl hE (A' := rdA vr r.bytes) hrr hfr; simp only [List.set_cons_zero, List.set_cons_succ] at hs; clear hrr hfr hE))
          have hc3 := cell_of_row _ jb 3 _ _ _ (hs.at_ 0 rfl)
          simp only [List.getElem?_toArray, List.getElem?_cons_succ, List.getElem?_cons_zero] at hc3
          go_wp2_with (first
            | (refine L_store1 rfl rfl hs 0 rfl rfl rfl rfl rfl (Nat.le_of_ble_eq_true rfl) Tryz.sizeOf3 ?_; clear hs; (try clear hc3); intro w hs; simp only [List.set_cons_zero, List.set_cons_succ, List.setIfInBounds_toArray, Act.eval, Array.getD_eq_getD_getElem?, List.getElem?_toArray, List.getElem?_cons_succ, List.getElem?_cons_zero, Option.getD_some] at hs; (try simp only [Act.put, List.setIfInBounds_toArray, List.set_cons_succ, List.set_cons_zero, List.getElem_toArray, List.getElem_cons_succ, List.getElem_cons_zero])))
          go_roundw
          case rel => exact ⟨n + 1, by omega, rfl, (by rw [HB.out.1]; intro a p he; cases he; exact ⟨HB.out.2.1, HB.out.2.2.1, by omega⟩), by rw [HB.out.1]; exact hs⟩
          case measure => simp [intOf]; omega
        · have hbe : bestUp d s (n + 1) = acc := by
            rw [HX.out.2.2.1, hl]
            cases hac : acc with
            | none => exact absurd (hnone hac) (fun e => hgt (by have := hfa.1.1; omega))
            | some a => obtain ⟨a, p⟩ := a; show (if a.epoch < r.epoch then _ else _) = _; rw [if_neg (by rw [hacc a p hac]; exact hgt)]
          have HB := Lib.hid hbe
          clear hl hbe hacc hnone hfa
          go_upto_region 8 with (first
          | (refine L_loadmidp (off := 0) (ty := 65) rfl rfl hs 0 rfl rfl Tryz.underlying65 rfl info65 [.pointer (some ⟨b, 0, none⟩), .int .i64 (s : Int), .int .i64 (l : Int)] rfl (fun j hj => by rcases (show j = 0 ∨ j = 1 ∨ j = 2 by omega) with rfl | rfl | rfl <;> rfl) ?_; (try simp only [Act.put, List.setIfInBounds_toArray, List.set_cons_succ, List.set_cons_zero, List.getElem_toArray, List.getElem_cons_succ, List.getElem_cons_zero]))
          | (go_at_call 29; refine hplace.mono ?_; rintro e1 w2 ⟨rfl, hE⟩; replace hs := hs.calls hE; clear hE)
          | (go_at_call 38; refine (hread hs.ext).mono ?_; rintro e1 w3 ⟨v, rfl, ho, hE⟩; have hrd := own_rd (own_base ho (Nat.zero_le _)) rfl; replace hs := hs.calls hE; clear ho hE)
          | (go_at_call 37; refine (hlift2 hrd).mono ?_; rintro e1 w4 ⟨vr, rfl, hrr, hfr, hE⟩; replace hs := hs.calls hE; clear hrr hfr hE))
          have hc3 := cell_of_row _ jb 3 _ _ _ (hs.at_ 0 rfl)
          simp only [List.getElem?_toArray, List.getElem?_cons_succ, List.getElem?_cons_zero] at hc3
          go_wp2_with fail
          go_roundw
          case rel => exact HR.out _ hs HB.out
          case measure => simp [intOf]; omega
    · have hn2 : n = 2 := by omega
      subst hn2
      clear hlt hn
      have hbest := best_eq d s
      cases hac : bestUp d s 2 with
      | none =>
        rw [hac] at hs hbest
        have hop : openP d s l = none := by unfold openP; rw [hbest]
        have HO := Lib.hid hop
        clear hop hbest hac hok
        simp only [accJ, jCells] at hs
        go_wp2_with (first
          | (refine L_load1 rfl rfl hs 0 rfl rfl rfl Tryz.isAgg3 ?_; (try simp only [Act.put, List.setIfInBounds_toArray, List.set_cons_succ, List.set_cons_zero, List.getElem_toArray, List.getElem_cons_succ, List.getElem_cons_zero])))
        (try simp only [Exit.inBlock, Exit.then])
        refine bodyPost_ret (results_tmp4 rfl _ _ _) rfl ?_
        exact .inl ⟨HO.out, rfl, hs.ext⟩
      | some ap =>
        obtain ⟨a, p⟩ := ap
        rw [hac] at hs hbest hok
        obtain ⟨hU1, hU2, hpl⟩ := hok a p rfl
        have hmay := HF.out.2
        have hms : 2 * s + l ≤ d.sure.length := by have := hmay.2.2.2.2; omega
        have hl1 : 1 ≤ l := by have := hmay.2.1; omega
        have hw1 : IntKind.i64.wrap (2 * (s : Int)) = 2 * (s : Int) := by rw [IntKind.wrap_i64]; omega
        have hw2 : IntKind.i64.wrap (2 * (s : Int) + 0) = 2 * (s : Int) := by rw [IntKind.wrap_i64]; omega
        have hw3 : IntKind.i64.wrap (2 * (s : Int) + (l : Int)) = 2 * (s : Int) + (l : Int) := by rw [IntKind.wrap_i64]; omega
        have hlogs := fun {w : World} => logs_any b (s : Int) (l : Int) 0 _ _ _ w hw1 hw2 hw3
        have hread := fun {w : World} (hE : Ext0 w0 w) => eread_any w (HD.out w hE) HF.out.1 (2 * s) l (2 * (s : Int)) (2 * (s : Int) + (l : Int)) (by omega) (by omega) (by omega)
        have hbl := DS.between_len HF.out.1 (2 * s) l (by omega)
        have hbb := DS.between_bytes HF.out.1 (2 * s) l (by omega)
        have hop : openP d s l = some (⟨s, l, a.epoch, (scanP (d.between (2 * s) l) a.epoch l a.seq 0).2.1, p, (scanP (d.between (2 * s) l) a.epoch l a.seq 0).2.2, false, false⟩, a.bytes, (scanP (d.between (2 * s) l) a.epoch l a.seq 0).1) := by unfold openP; rw [hbest]
        obtain ⟨xs, hxs⟩ : ∃ xs, d.between (2 * s) l = xs := ⟨_, rfl⟩
        rw [hxs] at hread hbl hbb hop
        obtain ⟨r, hr⟩ : ∃ r, openP d s l = r := ⟨_, rfl⟩
        have HX := Lib.hid (And.intro hbl (And.intro hbb (And.intro hop (And.intro hU1 (And.intro hU2 hpl)))))
        have hneg : ¬ a.epoch < 0 := by have := hU1.1; omega
        clear hbl hbb hop hU1 hU2 hpl hxs hr hbest hac hok hw1 hw2 hw3 hmay hms
        simp only [accJ, jCells, accB] at hs
        go_wp2_with (first
          | (refine L_load1 rfl rfl hs 0 rfl rfl rfl Tryz.isAgg3 ?_; (try simp only [Act.put, List.setIfInBounds_toArray, List.set_cons_succ, List.set_cons_zero, List.getElem_toArray, List.getElem_cons_succ, List.getElem_cons_zero]))
          | (refine L_loadmidp (off := 0) (ty := 65) rfl rfl hs 0 rfl rfl Tryz.underlying65 rfl info65 [.pointer (some ⟨b, 0, none⟩), .int .i64 (s : Int), .int .i64 (l : Int)] rfl (fun j hj => by rcases (show j = 0 ∨ j = 1 ∨ j = 2 by omega) with rfl | rfl | rfl <;> rfl) ?_; (try simp only [Act.put, List.setIfInBounds_toArray, List.set_cons_succ, List.set_cons_zero, List.getElem_toArray, List.getElem_cons_succ, List.getElem_cons_zero]))
          | (go_at_call 39; refine hlogs.mono ?_; rintro e1 w2 ⟨rfl, hE⟩; replace hs := hs.calls hE; clear hE)
          | (go_at_call 38; refine (hread hs.ext).mono ?_; rintro e1 w3 ⟨v, rfl, ho, hE⟩; rw [HX.out.1] at ho; obtain ⟨g, cap, rfl, hcap⟩ := own_some ho (by omega); replace hs := hs.addOwn hE ho; clear ho hE))
        have H3 := (hs.addNil 22 1).rowsNil
        clear hs hlogs hread
        have hvb : ∃ vb, u7 = vb := ⟨_, rfl⟩
        obtain ⟨vb, hvb⟩ := hvb
        rw [hvb] at H3
        rw [hvb]
        go_loopw [16, 6, 7, 8] (ScanR b jb s l a p xs g cap vb w0) (fun vr _ _ _ _ => match vr with | .slice _ n _ => n | _ => 0)
        case atStart => exact ⟨rfl, rfl, [], a.seq, 0, l, some ⟨g, 0, none⟩, 32 * l, cap, rfl, by omega, hcap, fun _ => rfl, Nat.zero_le _, Nat.le_refl _, HX.out.2.2.2.2.1, Nat.le_refl _, rfl, H3⟩
        case round =>
          obtain ⟨h6, h7, ps, seq, used, f, A, m, c, rfl, hm, hmc, hA, hul, hlf, hU, hpu, hsc, hs⟩ := hrel
          subst h6
          subst h7
          have hl4 : l ≤ 4096 := by have := HF.out.2.2.2.2.1; omega
          obtain ⟨ys, hys⟩ : ∃ ys, xs.drop (32 * used) = ys := ⟨_, rfl⟩
          have hyl : ys.length = m := by rw [← hys, List.length_drop, HX.out.1]; omega
          have hyb : ∀ x ∈ ys, 0 ≤ x ∧ x ≤ 255 := fun x hx => by rw [← hys] at hx; exact HX.out.2.1 x (List.mem_of_mem_drop hx)
          have hrd : ∀ W, SH (fun _ => False) w0 W [rowsA ps, ownA 22 1 u8 ps.length (cellsOf encSl (ps.map (·.1))), ownA 5 1 (.slice (some ⟨g, 0, none⟩) (32 * l) cap) (32 * l) (cellsOf (encInt .u8) xs), pt jb (.cells (jCells b ⟨s, l, a.epoch, seq, p, used, false, false⟩) 76 (0, 0)), rdA vb a.bytes] → RdS (encInt .u8) 1 W (.slice A m c) ys := fun W hW => by
            by_cases hu : used < l
            · have h1 := own_rd (hW.get 2 rfl) HX.out.1.symm
              rw [← HX.out.1] at h1
              have h2 := sub_rd h1 (32 * used) m c (by rw [HX.out.1]; omega) hmc
              rw [hys, List.take_of_length_le (by omega), Nat.zero_add] at h2
              rw [hA hu]
              exact h2
            · have hy0 : ys = [] := List.eq_nil_of_length_eq_zero (by omega)
              subst hy0
              exact ⟨A, c, by rw [← hyl], Nat.zero_le _, .inl rfl⟩
          have hlift := fun {w : World} (hr : RdS (encInt .u8) 1 w (.slice A m c) ys) => lift_any (.slice A m c) ys w hr hyb (by omega)
          unfold LiftE at hlift
          have hend : ∀ W, SH (fun _ => False) w0 W [rowsA ps, ownA 22 1 u8 ps.length (cellsOf encSl (ps.map (·.1))), ownA 5 1 (.slice (some ⟨g, 0, none⟩) (32 * l) cap) (32 * l) (cellsOf (encInt .u8) xs), pt jb (.cells (jCells b ⟨s, l, a.epoch, seq, p, used, false, false⟩) 76 (0, 0)), rdA vb a.bytes] → (∀ r, liftP ys = some r → ¬ (r.epoch = a.epoch ∧ r.seq = seq + 1)) → OpenE b (openP d s l) w0 (.returned (.tuple #[.pointer (some ⟨jb, 0, none⟩), vb, u8, .int .i64 0])) W := fun W hW hno => by
            have h1 : scanP xs a.epoch l a.seq 0 = (ps.map (·.2), seq, used) := by
              rw [hsc, scan_end (by rw [hys]; exact hno), List.append_nil]
            refine .inr ⟨⟨s, l, a.epoch, seq, p, used, false, false⟩, a.bytes, ps.map (·.2), jb, vb, u8, ps, ?_, rfl, rfl, hW.drop (.cons_cons _ (.cons_cons _ (.cons _ (.cons_cons _ (.cons_cons _ .slnil)))))⟩
            rw [HX.out.2.2.1, h1]
          have hws : IntKind.i64.wrap (seq + 1) = seq + 1 := by rw [IntKind.wrap_i64]; have := hU; unfold U32 at this; omega
          have HRET := Lib.hid hend
          have HRD := Lib.hid hrd
          have HY := Lib.hid (And.intro hys (And.intro hyl (And.intro hyb (And.intro hA (And.intro hU hsc)))))
          have HM := Lib.hid hm
          clear hend hrd hys hyl hyb hA hU hsc hneg hm
          cases hl : liftP ys with
          | none =>
            have hlift2 := fun {w : World} (hr : RdS (encInt .u8) 1 w (.slice A m c) ys) => (hlift hr).mono (R' := fun e w' => e = .returned (.tuple #[.int .i64 0, .int .i64 0, .slice none 0 0, .int .i64 0, .int .i64 3]) ∧ Ext0 w w') (fun e w' h => by
              obtain ⟨h1 | h1, h2⟩ := h
              · obtain ⟨r, v, h3, _⟩ := h1; rw [hl] at h3; cases h3
              · exact ⟨h1.2, h2⟩)
            have HE := Lib.hid (show ∀ r, liftP ys = some r → ¬ (r.epoch = a.epoch ∧ r.seq = seq + 1) from fun r h => by rw [hl] at h; cases h)
            clear hl hlift
            go_wp2_with (first
              | (go_at_call 37; refine (hlift2 (HRD.out _ hs)).mono ?_; rintro e1 w4 ⟨rfl, hE⟩; replace hs := hs.calls hE; clear hE))
            (try simp only [Exit.inBlock, Exit.then])
            refine bodyPost_ret (results_tmp4 rfl _ _ _) rfl ?_
            exact HRET.out _ hs HE.out
          | some r =>
            have hlift2 := fun {w : World} (hr : RdS (encInt .u8) 1 w (.slice A m c) ys) => (hlift hr).mono (R' := fun e w' => ∃ vr, e = .returned (.tuple #[.int .i64 r.epoch, .int .i64 r.seq, vr, .int .i64 (r.sectors : Int), .int .i64 0]) ∧ RdS (encInt .u8) 1 w' vr r.bytes ∧ (∀ j, vr.ownBlock = some j → w.heap.size ≤ j ∧ j < w'.heap.size) ∧ Ext0 w w') (fun e w' h => by
              obtain ⟨h1 | h1, h2⟩ := h
              · obtain ⟨r', v, h3, h4, h5, h6⟩ := h1; rw [hl] at h3; cases h3; exact ⟨v, h4, h5, h6, h2⟩
              · rw [hl] at h1; cases h1.1)
            clear hlift
            by_cases he : r.epoch = a.epoch
            · rw [he] at hlift2
              by_cases hq : r.seq = seq + 1
              · rw [hq] at hlift2
                have hm := HM.out
                have hfa := lift_facts HY.out.2.2.1 hl
                obtain ⟨k, hk⟩ : ∃ k, r.sectors = k := ⟨_, rfl⟩
                rw [hk] at hfa hlift2
                have hk1 : 1 ≤ k := by rw [hfa.2.2.2.1]; unfold countP; omega
                have hk2 : 32 * k ≤ m := by have := hfa.2.2.2.2.1; rw [HY.out.2.1] at this; exact this
                have huk : used + k ≤ l := by omega
                obtain ⟨u', hu'⟩ : ∃ u', used + k = u' := ⟨_, rfl⟩
                obtain ⟨z, hz⟩ : ∃ z, 32 * k = z := ⟨_, rfl⟩
                have hsL : 2 * s + l ≤ d.sure.length := by have := HF.out.2.2.2.2.2; omega
                have hw7 : IntKind.i64.wrap ((used : Int) + (k : Int)) = (u' : Int) := by rw [IntKind.wrap_i64]; omega
                have hw8 : IntKind.i64.wrap ((k : Int) * 32) = (z : Int) := by rw [IntKind.wrap_i64]; omega
                have hnew : ∀ t W v8', SH (fun _ => False) w0 W [rowsA (ps ++ [(t, r.bytes)]), ownA 22 1 v8' (ps.length + [t].length) (cellsOf encSl (ps.map (·.1)) ++ cellsOf encSl [t]), ownA 5 1 (.slice (some ⟨g, 0, none⟩) (32 * l) cap) (32 * l) (cellsOf (encInt .u8) xs), pt jb (.cells (jCells b ⟨s, l, a.epoch, seq + 1, p, u', false, false⟩) 76 (0, 0)), rdA vb a.bytes] →
                    ScanR b jb s l a p xs g cap vb w0 (.slice (if c = z then A else A.map (·.add (z * 1))) (m - z) (c - z)) (.pointer (some ⟨jb, 0, none⟩)) vb v8' W := fun t W v8' hW => by
                  refine ⟨rfl, rfl, ps ++ [(t, r.bytes)], seq + 1, u', f - 1, _, m - z, c - z, rfl, by omega, by omega, fun hu => ?_, by omega, by omega, ?_, by rw [List.length_append]; simp only [List.length_cons, List.length_nil]; omega, ?_, ?_⟩
                  · rw [if_neg (by omega), HY.out.2.2.2.1 (by omega)]
                    show some ((⟨g, 32 * used, none⟩ : Addr).add (z * 1)) = _
                    have hz0 : z ≠ 0 := by omega
                    have hadd : (⟨g, 32 * used, none⟩ : Addr).add (z * 1) = ⟨g, 32 * used + z * 1, none⟩ := by simp [Addr.add, hz0]
                    rw [hadd, show 32 * used + z * 1 = 32 * u' by omega]
                  · rw [← hq]; exact hfa.2.1
                  · rw [HY.out.2.2.2.2.2, show f = (f - 1) + 1 by omega, scan_more (by rw [HY.out.1]; exact hl) he hq, hk, hu', Nat.add_sub_cancel]
                    simp [List.append_assoc]
                  · rw [List.length_append, List.map_append, cellsOf_append]; exact hW
                have HN := Lib.hid (And.intro hnew (And.intro hz (And.intro hk2 hk1)))
                have hzm : z ≤ m := by omega
                have hb1 : (ps.length + [((none, 0, 0) : Option Addr × Nat × Nat)].length) * 24 ≤ 140737488355328 := by simp only [List.length_cons, List.length_nil]; have := hlen; omega
                have hm1 : ps.length + [((none, 0, 0) : Option Addr × Nat × Nat)].length ≤ maxLen := by simp only [maxLen, List.length_cons, List.length_nil]; omega
                have hsl := fun (w : World) (ac : Act) (o : Oper) (ho : o.op = .slice 22 (.tmp 129) (some (.tmp 131)) none none) (hx : ac.eval (.tmp 129) = .slice A m c) (hlo : ac.eval (.tmp 131) = .int .i64 (z : Int)) => R_sliceFrom (P := Tryz.prog) (w := w) ho hx hlo hzm (by kernel_rfl) (fun _ => by rfl)
                have HSL := Lib.hid hsl
                clear hl he hnew hfa hk1 hk2 huk hu' hz hsl hzm hk hm
                go_upto_region 15 with (first
                  | (go_at_call 37; refine (hlift2 (HRD.out _ hs)).mono ?_; rintro e1 w4 ⟨vr, rfl, hrr, hfr, hE⟩; obtain ⟨Ab, cb, hvb, hcb⟩ := hrr.len; subst hvb; replace hs := hs.addRow hE (Ab, r.bytes.length, cb) r.bytes hrr hfr; clear hrr hfr hE hcb))
                have hc3 := cell_of_row _ jb 3 _ _ _ (hs.at_ 3 rfl)
                have hc4 := cell_of_row _ jb 4 _ _ _ (hs.at_ 3 rfl)
                simp only [jCells, List.getElem?_toArray, List.getElem?_cons_succ, List.getElem?_cons_zero] at hc3 hc4
                go_upto_region 17 with fail
                clear hc3 hc4 hlift2
                have H := hs
                clear hs
                go_upto_region 18 with (first
                  | (refine L_lit (e := ?_) (cs := ?_) rfl rfl H ?_ ?_; rotate_left 2; (focus (intro _; first | (go_simp; done) | (go_simp; with_reducible rfl) | (go_simp; rfl))); all_goals skip; clear H; intro g w H; (try simp only [Act.put, List.setIfInBounds_toArray, List.set_cons_succ, List.set_cons_zero, List.getElem_toArray, List.getElem_cons_succ, List.getElem_cons_zero]))
                  | (refine L_append (ys := [(Ab, r.bytes.length, cb)]) encSl_len encSl_one rfl rfl Tryz.underlying33 infoSl rfl (Nat.le_refl _) H 2 rfl rfl rfl (one_part (Ab, r.bytes.length, cb) (H.at_ 0 rfl)) hb1 hm1 ?_; clear H; intro v2 w H hnn; clear hnn; simp only [List.set_cons_succ, List.set_cons_zero] at H))
                have HJ := (H.drop (.cons _ (List.Sublist.refl _))).drew
                have H0 := H.drop (List.nil_sublist _)
                clear H
                simp only [jCells] at HJ
                refine D_start H0 (by kernel_rfl) (fun hS => ?_)
                try simp only [Act.put, List.setIfInBounds_toArray, List.set_cons_succ, List.set_cons_zero]
                refine D_take 0 (v := ?_) rfl (by kernel_rfl) (by kernel_rfl) (by kernel_rfl) (fun _ _ _ h => h) rfl (by rfl) (fun W hS => ?_) hS ?_
                rotate_left; (focus (first | (go_simp; done) | (go_simp; with_reducible rfl) | (go_simp; rfl))); all_goals skip; (try simp only [List.set_cons_succ, List.set_cons_zero])
                refine D_take 1 (v := ?_) rfl (by kernel_rfl) (by kernel_rfl) (by kernel_rfl) (fun _ _ _ h => h) rfl (by rfl) (fun W hS => ?_) hS ?_
                rotate_left; (focus (first | (go_simp; done) | (go_simp; with_reducible rfl) | (go_simp; rfl))); all_goals skip; (try simp only [List.set_cons_succ, List.set_cons_zero])
                refine D_take 2 (v := ?_) rfl (by kernel_rfl) (by kernel_rfl) (by kernel_rfl) (fun _ _ _ h => h) rfl (by rfl) (fun W hS => ?_) hS ?_
                rotate_left; (focus (first | (go_simp; done) | (go_simp; with_reducible rfl) | (go_simp; rfl))); all_goals skip; (try simp only [List.set_cons_succ, List.set_cons_zero])
                refine D_take 3 (v := ?_) rfl (by kernel_rfl) (by kernel_rfl) (by kernel_rfl) (fun _ _ _ h => h) rfl (by rfl) (fun W hS => ?_) hS ?_
                rotate_left; (focus (first | (go_simp; done) | (go_simp; with_reducible rfl) | (go_simp; rfl))); all_goals skip; (try simp only [List.set_cons_succ, List.set_cons_zero])
                refine D_take 4 (v := ?_) rfl (by kernel_rfl) (by kernel_rfl) (by kernel_rfl) (fun _ _ _ h => h) rfl (by rfl) (fun W hS => ?_) hS ?_
                rotate_left; (focus (first | (go_simp; done) | (go_simp; with_reducible rfl) | (go_simp; rfl))); all_goals skip; (try simp only [List.set_cons_succ, List.set_cons_zero])
                refine D_take 5 (v := ?_) rfl (by kernel_rfl) (by kernel_rfl) (by kernel_rfl) (fun _ _ _ h => h) rfl (by rfl) (fun W hS => ?_) hS ?_
                rotate_left; (focus (first | (go_simp; done) | (go_simp; with_reducible rfl) | (go_simp; rfl))); all_goals skip; (try simp only [List.set_cons_succ, List.set_cons_zero])
                refine D_take 7 (v := ?_) rfl (by kernel_rfl) (by kernel_rfl) (by kernel_rfl) (fun _ _ _ h => h) rfl (by rfl) (fun W hS => ?_) hS ?_
                rotate_left; (focus (first | (go_simp; done) | (go_simp; with_reducible rfl) | (go_simp; rfl))); all_goals skip; (try simp only [List.set_cons_succ, List.set_cons_zero])
                refine D_take 9 (v := ?_) rfl (by kernel_rfl) (by kernel_rfl) (by kernel_rfl) (fun _ _ _ h => h) rfl (by rfl) (fun W hS => ?_) hS ?_
                rotate_left; (focus (first | (go_simp; done) | (go_simp; with_reducible rfl) | (go_simp; rfl))); all_goals skip; (try simp only [List.set_cons_succ, List.set_cons_zero])
                refine D_take 10 (v := ?_) rfl (by kernel_rfl) (by kernel_rfl) (by kernel_rfl) (fun _ _ _ h => h) rfl (by rfl) (fun W hS => ?_) hS ?_
                rotate_left; (focus (first | (go_simp; done) | (go_simp; with_reducible rfl) | (go_simp; rfl))); all_goals skip; (try simp only [List.set_cons_succ, List.set_cons_zero])
                refine D_take 11 (v := ?_) rfl (by kernel_rfl) (by kernel_rfl) (by kernel_rfl) (fun _ _ _ h => h) rfl (by rfl) (fun W hS => ?_) hS ?_
                rotate_left; (focus (first | (go_simp; done) | (go_simp; with_reducible rfl) | (go_simp; rfl))); all_goals skip; (try simp only [List.set_cons_succ, List.set_cons_zero])
                refine D_take 12 (v := .slice (if c = z then A else A.map (·.add (z * 1))) (m - z) (c - z)) rfl (by kernel_rfl) (by kernel_rfl) (by kernel_rfl) (fun _ _ _ h => h) rfl (by rfl) (fun W hS => HSL.out W _ _ rfl rfl (by first | rfl | (go_simp; done) | (go_simp; rfl))) hS ?_; (try simp only [List.set_cons_succ, List.set_cons_zero])
                refine D_one 6 rfl (by kernel_rfl) (by rfl) ?_
                refine wp_of_value (R_load1 (ty := 3) (x := .tmp 125) rfl HJ 3 rfl rfl rfl Tryz.isAgg3) ⟨hS, ?_⟩
                try simp only [Act.put, List.getElem_toArray, List.getElem_cons_succ, List.getElem_cons_zero, List.setIfInBounds_toArray, List.set_cons_succ, List.set_cons_zero]
                refine D_take 8 (v := ?_) rfl (by kernel_rfl) (by kernel_rfl) (by kernel_rfl) (fun _ _ _ h => h) rfl (by rfl) (fun W hS => ?_) hS ?_
                rotate_left; (focus (first | (go_simp; done) | (go_simp; with_reducible rfl) | (go_simp; rfl))); all_goals skip; (try simp only [List.set_cons_succ, List.set_cons_zero])
                refine D_take 13 (v := ?_) rfl (by kernel_rfl) (by kernel_rfl) (by kernel_rfl) (fun _ _ _ h => h) rfl (by rfl) (fun W hS => ?_) hS ?_
                rotate_left; (focus (first | (go_simp; done) | (go_simp; with_reducible rfl) | (go_simp; rfl))); all_goals skip; (try simp only [List.set_cons_succ, List.set_cons_zero])
                refine D_take 14 (v := ?_) rfl (by kernel_rfl) (by kernel_rfl) (by kernel_rfl) (fun _ _ _ h => h) rfl (by rfl) (fun W hS => ?_) hS ?_
                rotate_left; (focus (first | (go_simp; done) | (go_simp; with_reducible rfl) | (go_simp; rfl))); all_goals skip; (try simp only [List.set_cons_succ, List.set_cons_zero])
                refine D_one 15 rfl (by kernel_rfl) (by rfl) ?_
                refine W_store1 (ty := 3) (x := .tmp 134) (y := .tmp 122) rfl HJ 3 rfl rfl rfl rfl rfl (Nat.le_of_ble_eq_true rfl) Tryz.sizeOf3 ?_
                intro w5 HJ5
                simp only [List.set_cons_zero, List.set_cons_succ, List.setIfInBounds_toArray, Act.eval, Array.getD_eq_getD_getElem?, List.getElem?_toArray, List.getElem?_cons_succ, List.getElem?_cons_zero, Option.getD_some] at HJ5
                clear hS
                have hS := HJ5.drop (List.nil_sublist _)
                refine ⟨hS, ?_⟩
                try simp only [Act.put, List.getElem_toArray, List.getElem_cons_succ, List.getElem_cons_zero, List.setIfInBounds_toArray, List.set_cons_succ, List.set_cons_zero]
                refine D_take 16 (v := ?_) rfl (by kernel_rfl) (by kernel_rfl) (by kernel_rfl) (fun _ _ _ h => h) rfl (by rfl) (fun W hS => ?_) hS ?_
                rotate_left; (focus (first | (go_simp; done) | (go_simp; with_reducible rfl) | (go_simp; rfl))); all_goals skip; (try simp only [List.set_cons_succ, List.set_cons_zero])
                refine D_take 17 (v := ?_) rfl (by kernel_rfl) (by kernel_rfl) (by kernel_rfl) (fun _ _ _ h => h) rfl (by rfl) (fun W hS => ?_) hS ?_
                rotate_left; (focus (first | (go_simp; done) | (go_simp; with_reducible rfl) | (go_simp; rfl))); all_goals skip; (try simp only [List.set_cons_succ, List.set_cons_zero])
                refine D_one 18 rfl (by kernel_rfl) (by rfl) ?_
                refine W_store1 (ty := 3) (x := .tmp 136) (y := .tmp 128) rfl HJ5 3 rfl rfl rfl rfl rfl (Nat.le_of_ble_eq_true rfl) Tryz.sizeOf3 ?_
                intro w6 HJ6
                simp only [List.set_cons_zero, List.set_cons_succ, List.setIfInBounds_toArray, Act.eval, Array.getD_eq_getD_getElem?, List.getElem?_toArray, List.getElem?_cons_succ, List.getElem?_cons_zero, Option.getD_some] at HJ6
                clear hS
                have hS := HJ6.drop (List.nil_sublist _)
                refine ⟨hS, ?_⟩
                try simp only [Act.put, List.getElem_toArray, List.getElem_cons_succ, List.getElem_cons_zero, List.setIfInBounds_toArray, List.set_cons_succ, List.set_cons_zero]
                refine D_take 19 (v := ?_) rfl (by kernel_rfl) (by kernel_rfl) (by kernel_rfl) (fun _ _ _ h => h) rfl (by rfl) (fun W hS => ?_) hS ?_
                rotate_left; (focus (first | (go_simp; done) | (go_simp; with_reducible rfl) | (go_simp; rfl))); all_goals skip; (try simp only [List.set_cons_succ, List.set_cons_zero])
                refine wpAnyH_done (by kernel_rfl) ?_ _
                go_wp2_with fail
                go_roundw
                case rel => have h9 := HN.out.1 _ _ _ HJ6; simp only [Nat.mul_one] at h9; exact h9
                case measure => have := HN.out.2; show m - z < m; omega
              · have HE := Lib.hid (show ∀ r, liftP ys = some r → ¬ (r.epoch = a.epoch ∧ r.seq = seq + 1) from fun r' h => by rw [hl] at h; cases h; exact fun h => hq h.2)
                clear hl he
                go_upto_region 15 with (first
                  | (go_at_call 37; refine (hlift2 (HRD.out _ hs)).mono ?_; rintro e1 w4 ⟨vr, rfl, _, _, hE⟩; replace hs := hs.calls hE; clear hE))
                have hc3 := cell_of_row _ jb 3 _ _ _ (hs.at_ 3 rfl)
                have hc4 := cell_of_row _ jb 4 _ _ _ (hs.at_ 3 rfl)
                simp only [jCells, List.getElem?_toArray, List.getElem?_cons_succ, List.getElem?_cons_zero] at hc3 hc4
                go_wp2_with fail
                (try simp only [Exit.inBlock, Exit.then])
                refine bodyPost_ret (results_tmp4 rfl _ _ _) rfl ?_
                exact HRET.out _ hs HE.out
            · have HE := Lib.hid (show ∀ r, liftP ys = some r → ¬ (r.epoch = a.epoch ∧ r.seq = seq + 1) from fun r' h => by rw [hl] at h; cases h; exact fun h => he h.1)
              clear hl
              go_upto_region 15 with (first
                | (go_at_call 37; refine (hlift2 (HRD.out _ hs)).mono ?_; rintro e1 w4 ⟨vr, rfl, _, _, hE⟩; replace hs := hs.calls hE; clear hE))
              have hc3 := cell_of_row _ jb 3 _ _ _ (hs.at_ 3 rfl)
              have hc4 := cell_of_row _ jb 4 _ _ _ (hs.at_ 3 rfl)
              simp only [jCells, List.getElem?_toArray, List.getElem?_cons_succ, List.getElem?_cons_zero] at hc3 hc4
              go_wp2_with fail
              (try simp only [Exit.inBlock, Exit.then])
              refine bodyPost_ret (results_tmp4 rfl _ _ _) rfl ?_
              exact HRET.out _ hs HE.out
end Go.Proofs.YtgmeahogdjhejaaGreatDoor
