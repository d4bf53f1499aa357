/- Decode walked. (Printed by gentabi.py.) -/
import Derived.Test.YtoaieodcdbbndaaTabH
namespace Go.Proofs.Ytoaieodcdbbndaa
set_option linter.unusedVariables false
set_option linter.unusedSimpArgs false
open Go.RowKit

theorem rdBlks_succ (n : Nat) (r : Rd) : rdBlks (n + 1) r = ((rdBlks n r).1 ++ [(rdBlk (rdBlks n r).2).1], (rdBlk (rdBlks n r).2).2) := rfl
def DecRel (n g5 r g2 : Nat) (n1 n2 n3 n4 n5 n6 : Int) (r7 : Rd) (w0 : World) (vi : Value) (wr : World) : Prop :=
  ∃ (j : Nat) (bv : Value) (ps : List BV) (rd : Rd) (by_ : List (Value × List Int)), vi = .int .i64 (j : Int) ∧ ps.length = j ∧ j ≤ n ∧ rdBlks j r7 = (ps.map (·.2), rd) ∧ (∀ p ∈ ps, (p.wv, p.2.wrap) ∈ by_ ∧ p.2.Fit) ∧
    SH (fun _ => False) w0 wr [pt g5 (.cells #[.int .i64 n1, .int .i64 n2, .int .i64 n3, .int .i64 n4, .int .i64 n5, .int .i64 n6, bv] 24 (0, 0)), RdrA r rd, pt g2 (.cells #[.int .i64 0, .int .i64 0, .int .i64 0, .int .i64 0, .int .i64 0, .int .i64 0, .slice none 0 0] 24 (0, 0)), ownA 45 6 bv j (cellsOf bvCells ps), bytesA by_]
theorem one7 (a b c d e f : Int) : (#[Value.int .i64 a, .int .i64 b, .int .i64 c, .int .i64 d, .int .i64 e, .int .i64 f, .slice none 0 0] : Array Value).all (·.oneCell') = true := by simp [Value.oneCell']
theorem one7s (a b c d e f : Int) (A : Option Addr) (n m : Nat) : (#[Value.int .i64 a, .int .i64 b, .int .i64 c, .int .i64 d, .int .i64 e, .int .i64 f, .slice A n m] : Array Value).all (·.oneCell') = true := by simp [Value.oneCell']
theorem own_slice {w : World} {base : Nat} {T : TypeId} {k : Nat} {v : Value} {n : Nat} {xs : List Value} (h : w.ownsRow base T k v n xs) : ∃ A c, v = .slice A n c := by
  rcases h.2 with ⟨h1, h2⟩ | ⟨g, c, cur, h1, _⟩
  · exact ⟨none, 0, by rw [h1, h2]⟩
  · exact ⟨_, c, h1⟩
set_option maxRecDepth 100000 in
set_option maxHeartbeats 4000000 in
theorem decode_any (v : Value) (xs : List Int) (w0 : World) (hv : RdS (encInt .u8) 1 w0 v xs) (hx : ∀ x ∈ xs, 0 ≤ x ∧ x ≤ 255) (hl : xs.length ≤ 1000000) :
    Calls Try.prog 19 #[v] w0 (DecE w0 xs) := by
  have H : SH (fun _ => False) w0 w0 [] := SH.nil _ _
  have hnew := fun {W : World} (h : Ext0 w0 W) => rdNew_any v xs W (hv.keep h) hx (by omega)
  obtain ⟨n1, r1, h1⟩ : ∃ x y, rdN (some xs) = (x, y) := ⟨_, _, rfl⟩
  have hN1 := fun {r : Nat} {W : World} (h : (RdrA r (some xs)).says W) => rdInt_any h
  rw [h1] at hN1
  dsimp only at hN1
  obtain ⟨n2, r2, h2⟩ : ∃ x y, rdN r1 = (x, y) := ⟨_, _, rfl⟩
  have hN2 := fun {r : Nat} {W : World} (h : (RdrA r r1).says W) => rdInt_any h
  rw [h2] at hN2
  dsimp only at hN2
  obtain ⟨n3, r3, h3⟩ : ∃ x y, rdN r2 = (x, y) := ⟨_, _, rfl⟩
  have hN3 := fun {r : Nat} {W : World} (h : (RdrA r r2).says W) => rdInt_any h
  rw [h3] at hN3
  dsimp only at hN3
  obtain ⟨n4, r4, h4⟩ : ∃ x y, rdN r3 = (x, y) := ⟨_, _, rfl⟩
  have hN4 := fun {r : Nat} {W : World} (h : (RdrA r r3).says W) => rdInt_any h
  rw [h4] at hN4
  dsimp only at hN4
  obtain ⟨n5, r5, h5⟩ : ∃ x y, rdN r4 = (x, y) := ⟨_, _, rfl⟩
  have hN5 := fun {r : Nat} {W : World} (h : (RdrA r r4).says W) => rdInt_any h
  rw [h5] at hN5
  dsimp only at hN5
  obtain ⟨n6, r6, h6⟩ : ∃ x y, rdN r5 = (x, y) := ⟨_, _, rfl⟩
  have hN6 := fun {r : Nat} {W : World} (h : (RdrA r r5).says W) => rdInt_any h
  rw [h6] at hN6
  dsimp only at hN6
  obtain ⟨n7, r7, h7⟩ : ∃ x y, rdN r6 = (x, y) := ⟨_, _, rfl⟩
  have hN7 := fun {r : Nat} {W : World} (h : (RdrA r r6).says W) => rdInt_any h
  rw [h7] at hN7
  dsimp only at hN7
  have hdec : decTab xs = if n7 < 0 ∨ 12 < n7 then none else if (rdBlks n7.toNat r7).2 = some [] ∧ encTab ⟨n1, n2, n3, n4, n5, n6, (rdBlks n7.toNat r7).1⟩ = xs then some ⟨n1, n2, n3, n4, n5, n6, (rdBlks n7.toNat r7).1⟩ else none := by
    unfold decTab
    simp only [h1, h2, h3, h4, h5, h6, h7]
  clear h1 h2 h3 h4 h5 h6 h7
  have HV := Lib.hid (And.intro hv (And.intro hx hl))
  have HD := Lib.hid hdec
  have hz : decTab xs = none → decR xs = (zeroT, 12) := fun h => by unfold decR; rw [h]
  have hso : ∀ t, decTab xs = some t → decR xs = (t, 0) := fun t h => by unfold decR; rw [h]
  have HZ := Lib.hid (And.intro hz hso)
  clear hv hx hl hdec hz hso
  go_enter Try.func19, Try.ntmps19
  go_upto_region 1 with (first
    | (refine L_alloc rfl rfl H Try.zeroValue24 ?_; clear H; intro g2 w H; simp only [Value.cells] at H))
  go_upto_region 4 with (first
    | (refine L_alloc rfl rfl H Try.zeroValue24 ?_; clear H; intro g5 w H; simp only [Value.cells] at H)
    | (go_at_call 39; refine (hnew H.ext).mono ?_; rintro e w ⟨r, rfl, h⟩; replace H := H.cat h; clear h; simp only [List.cons_append, List.nil_append] at H)
    | (go_at_call 40; refine (hN1 (H.get 0 rfl)).mono ?_; rintro e w ⟨rfl, h1, h2⟩; replace H := H.rdr 0 rfl h1 h2; clear h1 h2; simp only [List.set_cons_zero] at H)
    | (go_at_call 40; refine (hN2 (H.get 0 rfl)).mono ?_; rintro e w ⟨rfl, h1, h2⟩; replace H := H.rdr 0 rfl h1 h2; clear h1 h2; simp only [List.set_cons_zero] at H)
    | (go_at_call 40; refine (hN3 (H.get 0 rfl)).mono ?_; rintro e w ⟨rfl, h1, h2⟩; replace H := H.rdr 0 rfl h1 h2; clear h1 h2; simp only [List.set_cons_zero] at H)
    | (go_at_call 40; refine (hN4 (H.get 0 rfl)).mono ?_; rintro e w ⟨rfl, h1, h2⟩; replace H := H.rdr 0 rfl h1 h2; clear h1 h2; simp only [List.set_cons_zero] at H)
    | (go_at_call 40; refine (hN5 (H.get 0 rfl)).mono ?_; rintro e w ⟨rfl, h1, h2⟩; replace H := H.rdr 0 rfl h1 h2; clear h1 h2; simp only [List.set_cons_zero] at H)
    | (go_at_call 40; refine (hN6 (H.get 0 rfl)).mono ?_; rintro e w ⟨rfl, h1, h2⟩; replace H := H.rdr 0 rfl h1 h2; clear h1 h2; simp only [List.set_cons_zero] at H)
    | (go_at_call 40; refine (hN7 (H.get 1 rfl)).mono ?_; rintro e w ⟨rfl, h1, h2⟩; replace H := H.rdr 1 rfl h1 h2; clear h1 h2; simp only [List.set_cons_zero, List.set_cons_succ] at H)
    | (refine L_storerow rfl rfl H 0 rfl rfl rfl info24 ?hn ?ho ?h1 ?_; (case hn => first | rfl | assumption); (case ho => first | rfl | assumption); (case h1 => first | assumption | exact one7 _ _ _ _ _ _ | rfl); clear H; intro w H; simp only [List.set_cons_zero, List.set_cons_succ, List.setIfInBounds_toArray, Act.eval, Array.getD_eq_getD_getElem?, List.getElem?_toArray, List.getElem?_cons_succ, List.getElem?_cons_zero, Option.getD_some] at H; (try simp only [Act.put, List.setIfInBounds_toArray, List.set_cons_succ, List.set_cons_zero, List.getElem_toArray, List.getElem_cons_succ, List.getElem_cons_zero])))
  clear hnew hN1 hN2 hN3 hN4 hN5 hN6 hN7
  by_cases hbad : n7 < 0 ∨ 12 < n7
  · have hres := HZ.out.1 (by rw [HD.out, if_pos hbad])
    have HRES := Lib.hid hres
    clear hres
    rcases hbad with hb | hb
    · go_wp2_with (first | (refine L_storerow rfl rfl H 0 rfl rfl rfl info24 ?hn ?ho ?h1 ?_; (case hn => first | rfl | assumption); (case ho => first | rfl | assumption); (case h1 => first | assumption | exact one7 _ _ _ _ _ _ | rfl); clear H; intro w H; simp only [List.set_cons_zero, List.set_cons_succ, List.setIfInBounds_toArray, Act.eval, Array.getD_eq_getD_getElem?, List.getElem?_toArray, List.getElem?_cons_succ, List.getElem?_cons_zero, Option.getD_some] at H; (try simp only [Act.put, List.setIfInBounds_toArray, List.set_cons_succ, List.set_cons_zero, List.getElem_toArray, List.getElem_cons_succ, List.getElem_cons_zero])) | (refine L_storerow rfl rfl H 1 rfl rfl rfl info24 ?hn ?ho ?h1 ?_; (case hn => first | rfl | assumption); (case ho => first | rfl | assumption); (case h1 => first | assumption | exact one7 _ _ _ _ _ _ | rfl); clear H; intro w H; simp only [List.set_cons_zero, List.set_cons_succ, List.setIfInBounds_toArray, Act.eval, Array.getD_eq_getD_getElem?, List.getElem?_toArray, List.getElem?_cons_succ, List.getElem?_cons_zero, Option.getD_some] at H; (try simp only [Act.put, List.setIfInBounds_toArray, List.set_cons_succ, List.set_cons_zero, List.getElem_toArray, List.getElem_cons_succ, List.getElem_cons_zero])) | (refine L_storerow rfl rfl H 2 rfl rfl rfl info24 ?hn ?ho ?h1 ?_; (case hn => first | rfl | assumption); (case ho => first | rfl | assumption); (case h1 => first | assumption | exact one7 _ _ _ _ _ _ | rfl); clear H; intro w H; simp only [List.set_cons_zero, List.set_cons_succ, List.setIfInBounds_toArray, Act.eval, Array.getD_eq_getD_getElem?, List.getElem?_toArray, List.getElem?_cons_succ, List.getElem?_cons_zero, Option.getD_some] at H; (try simp only [Act.put, List.setIfInBounds_toArray, List.set_cons_succ, List.set_cons_zero, List.getElem_toArray, List.getElem_cons_succ, List.getElem_cons_zero])))
      (try simp only [Exit.inBlock, Exit.then])
      exact L_retrow2 (p := 2) (q := 3) (n := 7) rfl H 2 rfl rfl Try.underlying24 rfl info24 rfl rfl (v := .int .i64 12) rfl (DecE_none HRES.out H.ext)
    · have hb2 : ¬ n7 < 0 := by omega
      go_wp2_with (first | (refine L_storerow rfl rfl H 0 rfl rfl rfl info24 ?hn ?ho ?h1 ?_; (case hn => first | rfl | assumption); (case ho => first | rfl | assumption); (case h1 => first | assumption | exact one7 _ _ _ _ _ _ | rfl); clear H; intro w H; simp only [List.set_cons_zero, List.set_cons_succ, List.setIfInBounds_toArray, Act.eval, Array.getD_eq_getD_getElem?, List.getElem?_toArray, List.getElem?_cons_succ, List.getElem?_cons_zero, Option.getD_some] at H; (try simp only [Act.put, List.setIfInBounds_toArray, List.set_cons_succ, List.set_cons_zero, List.getElem_toArray, List.getElem_cons_succ, List.getElem_cons_zero])) | (refine L_storerow rfl rfl H 1 rfl rfl rfl info24 ?hn ?ho ?h1 ?_; (case hn => first | rfl | assumption); (case ho => first | rfl | assumption); (case h1 => first | assumption | exact one7 _ _ _ _ _ _ | rfl); clear H; intro w H; simp only [List.set_cons_zero, List.set_cons_succ, List.setIfInBounds_toArray, Act.eval, Array.getD_eq_getD_getElem?, List.getElem?_toArray, List.getElem?_cons_succ, List.getElem?_cons_zero, Option.getD_some] at H; (try simp only [Act.put, List.setIfInBounds_toArray, List.set_cons_succ, List.set_cons_zero, List.getElem_toArray, List.getElem_cons_succ, List.getElem_cons_zero])) | (refine L_storerow rfl rfl H 2 rfl rfl rfl info24 ?hn ?ho ?h1 ?_; (case hn => first | rfl | assumption); (case ho => first | rfl | assumption); (case h1 => first | assumption | exact one7 _ _ _ _ _ _ | rfl); clear H; intro w H; simp only [List.set_cons_zero, List.set_cons_succ, List.setIfInBounds_toArray, Act.eval, Array.getD_eq_getD_getElem?, List.getElem?_toArray, List.getElem?_cons_succ, List.getElem?_cons_zero, Option.getD_some] at H; (try simp only [Act.put, List.setIfInBounds_toArray, List.set_cons_succ, List.set_cons_zero, List.getElem_toArray, List.getElem_cons_succ, List.getElem_cons_zero])))
      (try simp only [Exit.inBlock, Exit.then])
      exact L_retrow2 (p := 2) (q := 3) (n := 7) rfl H 2 rfl rfl Try.underlying24 rfl info24 rfl rfl (v := .int .i64 12) rfl (DecE_none HRES.out H.ext)
  · have hdec := HD.out
    rw [if_neg hbad] at hdec
    clear HD
    obtain ⟨n, rfl⟩ := Int.eq_ofNat_of_zero_le (show 0 ≤ n7 by omega)
    have hn12 : n ≤ 12 := by omega
    have hA : ¬ (n : Int) < 0 := by omega
    have hB : ¬ 12 < (n : Int) := by omega
    rw [Int.toNat_natCast] at hdec
    have HD := Lib.hid hdec
    clear hdec hbad
    have H2 := (H.addEmpty (ownA 45 6 (.slice none 0 0) 0 (cellsOf bvCells [])) (World.ownsRow_nil _ _ _ _) (fun i h => by cases h)).addEmpty (bytesA []) (fun p hp => by cases hp) (fun i ⟨p, hp, _⟩ => by cases hp)
    clear H
    simp only [List.cons_append, List.nil_append] at H2
    go_wp2_with fail
    go_loopw [32] (fun vi wr => DecRel n g5 r g2 n1 n2 n3 n4 n5 n6 r7 w0 vi wr) (fun vi _ => n - (intOf vi).toNat)
    case atStart => exact ⟨0, .slice none 0 0, [], r7, [], rfl, rfl, by omega, rfl, by simp, H2⟩
    case round =>
      clear H2 hA hB
      obtain ⟨j, bv, ps, rd, by_, rfl, hpl, hj12, hrb, hfp, H⟩ := hrel
      obtain ⟨Abv, cbv, rfl⟩ := own_slice (H.get 3 rfl)
      by_cases hjn : j < n
      · have hji : (j : Int) < (n : Int) := by omega
        obtain ⟨b1, q1, hq1⟩ : ∃ x y, rdN rd = (x, y) := ⟨_, _, rfl⟩
        obtain ⟨b2, q2, hq2⟩ : ∃ x y, rdN q1 = (x, y) := ⟨_, _, rfl⟩
        obtain ⟨b3, q3, hq3⟩ : ∃ x y, rdN q2 = (x, y) := ⟨_, _, rfl⟩
        obtain ⟨b4, q4, hq4⟩ : ∃ x y, rdN q3 = (x, y) := ⟨_, _, rfl⟩
        obtain ⟨b5, q5, hq5⟩ : ∃ x y, rdN q4 = (x, y) := ⟨_, _, rfl⟩
        obtain ⟨f, q6, hq6⟩ : ∃ x y, rdW 72 q5 = (x, y) := ⟨_, _, rfl⟩
        have hI1 := fun {W : World} (h : (RdrA r rd).says W) => rdInt_any h
        have hI2 := fun {W : World} (h : (RdrA r q1).says W) => rdInt_any h
        have hI3 := fun {W : World} (h : (RdrA r q2).says W) => rdInt_any h
        have hI4 := fun {W : World} (h : (RdrA r q3).says W) => rdInt_any h
        have hI5 := fun {W : World} (h : (RdrA r q4).says W) => rdInt_any h
        have hT := fun {W : World} (h : (RdrA r q5).says W) => rdText_any h 72 (by omega)
        rw [hq1] at hI1
        rw [hq2] at hI2
        rw [hq3] at hI3
        rw [hq4] at hI4
        rw [hq5] at hI5
        rw [show ((72 : Nat) : Int) = 72 from rfl, hq6] at hT
        dsimp only at hI1 hI2 hI3 hI4 hI5 hT
        have hblk : rdBlk rd = (⟨b1, b2, b3, b4, b5, f⟩, q6) := by
          unfold rdBlk
          simp only [hq1, hq2, hq3, hq4, hq5, hq6]
        have hrb2 : rdBlks (j + 1) r7 = (ps.map (·.2) ++ [⟨b1, b2, b3, b4, b5, f⟩], q6) := by
          rw [rdBlks_succ, hrb, hblk]
        have HRB := Lib.hid hrb2
        have HFP := Lib.hid hfp
        clear hrb hblk hrb2 hfp hq1 hq2 hq3 hq4 hq5
        go_wp2_with fail
        have HX := H.drop (L' := [_]) (List.Sublist.cons_cons _ (List.nil_sublist _))
        have HW := H.drew
        clear H
        refine D_startX 19 #[false, false, false, false, false, false, false, false, false, false, false, false, false, false, false, false, false, false, false, false] (by kernel_rfl) HX (by kernel_rfl) (fun hS => ?_)
        try simp only [Act.put, List.setIfInBounds_toArray, List.set_cons_succ, List.set_cons_zero]
        refine D_freeX 0 #[true, false, false, false, false, false, false, false, false, false, false, false, false, false, false, false, false, false, false, false] (by kernel_rfl) (v := ?_) rfl (by kernel_rfl) (by kernel_rfl) (by kernel_rfl) (by kernel_rfl) (fun _ _ _ h => h) rfl (by rfl) (fun W => ?_) hS ?_
        rotate_left; (focus (first | (go_simp; done) | (go_simp; with_reducible rfl) | (go_simp; rfl))); all_goals skip; (try simp only [List.set_cons_succ, List.set_cons_zero])
        refine D_takeX 1 #[true, true, false, false, false, false, false, false, false, false, false, false, false, false, false, false, false, false, false, false] (by kernel_rfl) (v := ?_) rfl (by kernel_rfl) (by kernel_rfl) (by kernel_rfl) (by kernel_rfl) (by kernel_rfl) (fun _ _ _ h => h) rfl (by rfl) (fun W hS => ?_) hS ?_
        rotate_left; (focus (first | (refine R_load1 (ty := 22) (x := Operand.tmp 34) rfl hS 0 rfl rfl ?_ Try.isAgg22; rfl))); all_goals skip; (try simp only [List.set_cons_succ, List.set_cons_zero, List.getElem_toArray, List.getElem_cons_succ, List.getElem_cons_zero])
        refine D_freeX 2 #[true, true, true, false, false, false, false, false, false, false, false, false, false, false, false, false, false, false, false, false] (by kernel_rfl) (v := ?_) rfl (by kernel_rfl) (by kernel_rfl) (by kernel_rfl) (by kernel_rfl) (fun _ _ _ h => h) rfl (by rfl) (fun W => ?_) hS ?_
        rotate_left; (focus (first | (go_simp; done) | (go_simp; with_reducible rfl) | (go_simp; rfl))); all_goals skip; (try simp only [List.set_cons_succ, List.set_cons_zero])
        refine D_freeX 4 #[true, true, true, false, true, false, false, false, false, false, false, false, false, false, false, false, false, false, false, false] (by kernel_rfl) (v := ?_) rfl (by kernel_rfl) (by kernel_rfl) (by kernel_rfl) (by kernel_rfl) (fun _ _ _ h => h) rfl (by rfl) (fun W => ?_) hS ?_
        rotate_left; (focus (first | (go_simp; done) | (go_simp; with_reducible rfl) | (go_simp; rfl))); all_goals skip; (try simp only [List.set_cons_succ, List.set_cons_zero])
        refine D_freeX 6 #[true, true, true, false, true, false, true, false, false, false, false, false, false, false, false, false, false, false, false, false] (by kernel_rfl) (v := ?_) rfl (by kernel_rfl) (by kernel_rfl) (by kernel_rfl) (by kernel_rfl) (fun _ _ _ h => h) rfl (by rfl) (fun W => ?_) hS ?_
        rotate_left; (focus (first | (go_simp; done) | (go_simp; with_reducible rfl) | (go_simp; rfl))); all_goals skip; (try simp only [List.set_cons_succ, List.set_cons_zero])
        refine D_freeX 8 #[true, true, true, false, true, false, true, false, true, false, false, false, false, false, false, false, false, false, false, false] (by kernel_rfl) (v := ?_) rfl (by kernel_rfl) (by kernel_rfl) (by kernel_rfl) (by kernel_rfl) (fun _ _ _ h => h) rfl (by rfl) (fun W => ?_) hS ?_
        rotate_left; (focus (first | (go_simp; done) | (go_simp; with_reducible rfl) | (go_simp; rfl))); all_goals skip; (try simp only [List.set_cons_succ, List.set_cons_zero])
        refine D_freeX 10 #[true, true, true, false, true, false, true, false, true, false, true, false, false, false, false, false, false, false, false, false] (by kernel_rfl) (v := ?_) rfl (by kernel_rfl) (by kernel_rfl) (by kernel_rfl) (by kernel_rfl) (fun _ _ _ h => h) rfl (by rfl) (fun W => ?_) hS ?_
        rotate_left; (focus (first | (go_simp; done) | (go_simp; with_reducible rfl) | (go_simp; rfl))); all_goals skip; (try simp only [List.set_cons_succ, List.set_cons_zero])
        refine D_freeX 12 #[true, true, true, false, true, false, true, false, true, false, true, false, true, false, false, false, false, false, false, false] (by kernel_rfl) (v := ?_) rfl (by kernel_rfl) (by kernel_rfl) (by kernel_rfl) (by kernel_rfl) (fun _ _ _ h => h) rfl (by rfl) (fun W => ?_) hS ?_
        rotate_left; (focus (first | (go_simp; done) | (go_simp; with_reducible rfl) | (go_simp; rfl))); all_goals skip; (try simp only [List.set_cons_succ, List.set_cons_zero])
        refine D_oneX 3 #[true, true, true, true, true, false, true, false, true, false, true, false, true, false, false, false, false, false, false, false] (by kernel_rfl) rfl (by kernel_rfl) (by rfl) ?_
        refine R_call (f := 40) (args := #[.pointer (some ⟨r, 0, none⟩)]) (by first | (go_simp; done) | (go_simp; rfl)) (hI1 (HW.get 1 rfl)) ?_
        rintro e w' ⟨rfl, h1, h2⟩
        have HW2 := HW.rdr 1 rfl h1 h2
        simp only [List.set_cons_succ, List.set_cons_zero] at HW2
        clear HW
        have HW := HW2
        clear HW2 h1 h2
        clear hS
        have hS := HW.drop (L' := [_]) (List.Sublist.cons_cons _ (List.nil_sublist _))
        refine ⟨_, rfl, hS, ?_⟩
        try simp only [Act.put, List.getElem_toArray, List.getElem_cons_succ, List.getElem_cons_zero, List.setIfInBounds_toArray, List.set_cons_succ, List.set_cons_zero]
        refine D_oneX 5 #[true, true, true, true, true, true, true, false, true, false, true, false, true, false, false, false, false, false, false, false] (by kernel_rfl) rfl (by kernel_rfl) (by rfl) ?_
        refine R_call (f := 40) (args := #[.pointer (some ⟨r, 0, none⟩)]) (by first | (go_simp; done) | (go_simp; rfl)) (hI2 (HW.get 1 rfl)) ?_
        rintro e w' ⟨rfl, h1, h2⟩
        have HW2 := HW.rdr 1 rfl h1 h2
        simp only [List.set_cons_succ, List.set_cons_zero] at HW2
        clear HW
        have HW := HW2
        clear HW2 h1 h2
        clear hS
        have hS := HW.drop (L' := [_]) (List.Sublist.cons_cons _ (List.nil_sublist _))
        refine ⟨_, rfl, hS, ?_⟩
        try simp only [Act.put, List.getElem_toArray, List.getElem_cons_succ, List.getElem_cons_zero, List.setIfInBounds_toArray, List.set_cons_succ, List.set_cons_zero]
        refine D_oneX 7 #[true, true, true, true, true, true, true, true, true, false, true, false, true, false, false, false, false, false, false, false] (by kernel_rfl) rfl (by kernel_rfl) (by rfl) ?_
        refine R_call (f := 40) (args := #[.pointer (some ⟨r, 0, none⟩)]) (by first | (go_simp; done) | (go_simp; rfl)) (hI3 (HW.get 1 rfl)) ?_
        rintro e w' ⟨rfl, h1, h2⟩
        have HW2 := HW.rdr 1 rfl h1 h2
        simp only [List.set_cons_succ, List.set_cons_zero] at HW2
        clear HW
        have HW := HW2
        clear HW2 h1 h2
        clear hS
        have hS := HW.drop (L' := [_]) (List.Sublist.cons_cons _ (List.nil_sublist _))
        refine ⟨_, rfl, hS, ?_⟩
        try simp only [Act.put, List.getElem_toArray, List.getElem_cons_succ, List.getElem_cons_zero, List.setIfInBounds_toArray, List.set_cons_succ, List.set_cons_zero]
        refine D_oneX 9 #[true, true, true, true, true, true, true, true, true, true, true, false, true, false, false, false, false, false, false, false] (by kernel_rfl) rfl (by kernel_rfl) (by rfl) ?_
        refine R_call (f := 40) (args := #[.pointer (some ⟨r, 0, none⟩)]) (by first | (go_simp; done) | (go_simp; rfl)) (hI4 (HW.get 1 rfl)) ?_
        rintro e w' ⟨rfl, h1, h2⟩
        have HW2 := HW.rdr 1 rfl h1 h2
        simp only [List.set_cons_succ, List.set_cons_zero] at HW2
        clear HW
        have HW := HW2
        clear HW2 h1 h2
        clear hS
        have hS := HW.drop (L' := [_]) (List.Sublist.cons_cons _ (List.nil_sublist _))
        refine ⟨_, rfl, hS, ?_⟩
        try simp only [Act.put, List.getElem_toArray, List.getElem_cons_succ, List.getElem_cons_zero, List.setIfInBounds_toArray, List.set_cons_succ, List.set_cons_zero]
        refine D_oneX 11 #[true, true, true, true, true, true, true, true, true, true, true, true, true, false, false, false, false, false, false, false] (by kernel_rfl) rfl (by kernel_rfl) (by rfl) ?_
        refine R_call (f := 40) (args := #[.pointer (some ⟨r, 0, none⟩)]) (by first | (go_simp; done) | (go_simp; rfl)) (hI5 (HW.get 1 rfl)) ?_
        rintro e w' ⟨rfl, h1, h2⟩
        have HW2 := HW.rdr 1 rfl h1 h2
        simp only [List.set_cons_succ, List.set_cons_zero] at HW2
        clear HW
        have HW := HW2
        clear HW2 h1 h2
        clear hS
        have hS := HW.drop (L' := [_]) (List.Sublist.cons_cons _ (List.nil_sublist _))
        refine ⟨_, rfl, hS, ?_⟩
        try simp only [Act.put, List.getElem_toArray, List.getElem_cons_succ, List.getElem_cons_zero, List.setIfInBounds_toArray, List.set_cons_succ, List.set_cons_zero]
        refine D_oneX 13 #[true, true, true, true, true, true, true, true, true, true, true, true, true, true, false, false, false, false, false, false] (by kernel_rfl) rfl (by kernel_rfl) (by rfl) ?_
        have hfit := rdW_fit (fun l hl => (RdrA.bytes (HW.get 1 rfl) l hl).1)
        rw [hq6] at hfit
        dsimp only at hfit
        refine R_call (f := 41) (args := #[.pointer (some ⟨r, 0, none⟩), .int .i64 72]) (by first | (go_simp; done) | (go_simp; rfl)) (hT (HW.get 1 rfl)) ?_
        rintro e w' ⟨rfl, h1, h2⟩
        have HW2 := HW.rdr 1 rfl h1 h2
        simp only [List.set_cons_succ, List.set_cons_zero] at HW2
        clear HW
        have HW := HW2
        clear HW2 h1 h2
        clear hS
        have hS := HW.drop (L' := [_]) (List.Sublist.cons_cons _ (List.nil_sublist _))
        refine ⟨_, rfl, hS, ?_⟩
        try simp only [Act.put, List.getElem_toArray, List.getElem_cons_succ, List.getElem_cons_zero, List.setIfInBounds_toArray, List.set_cons_succ, List.set_cons_zero]
        refine D_oneX 14 #[true, true, true, true, true, true, true, true, true, true, true, true, true, true, true, false, false, false, false, false] (by kernel_rfl) rfl (by kernel_rfl) (by rfl) ?_
        refine W_convBytes (x := .tmp 47) (ys := f) rfl HW rfl hfit.2 Try.underlying9 Try.underlying34 Try.underlying5 ?_
        intro WA wc w' HW6 hE
        clear HW
        have HW := HW6
        clear HW6 hE
        clear hS
        have hS := HW.drop (L' := [_]) (List.Sublist.cons _ (List.Sublist.cons_cons _ (List.nil_sublist _)))
        refine ⟨hS, ?_⟩
        try simp only [Act.put, List.getElem_toArray, List.getElem_cons_succ, List.getElem_cons_zero, List.setIfInBounds_toArray, List.set_cons_succ, List.set_cons_zero]
        refine D_freeX 15 #[true, true, true, true, true, true, true, true, true, true, true, true, true, true, true, true, false, false, false, false] (by kernel_rfl) (v := ?_) rfl (by kernel_rfl) (by kernel_rfl) (by kernel_rfl) (by kernel_rfl) (fun _ _ _ h => h) rfl (by rfl) (fun W => ?_) hS ?_
        rotate_left; (focus (first | (go_simp; done) | (go_simp; with_reducible rfl) | (go_simp; rfl))); all_goals skip; (try simp only [List.set_cons_succ, List.set_cons_zero])
        refine D_oneX 16 #[true, true, true, true, true, true, true, true, true, true, true, true, true, true, true, true, true, false, false, false] (by kernel_rfl) rfl (by kernel_rfl) (by rfl) ?_
        refine W_litE (e := 45) (cs := #[.int .i64 b1, .int .i64 b2, .int .i64 b3, .int .i64 b4, .int .i64 b5, .slice WA f.length wc]) rfl HW (by intro _; first | (go_simp; done) | (go_simp; rfl)) ?_
        intro gl w' HW6 hE
        clear HW
        have HW := HW6
        clear HW6 hE
        clear hS
        have hS := HW.drop (L' := [_]) (List.Sublist.cons _ (List.Sublist.cons _ (List.Sublist.cons_cons _ (List.nil_sublist _))))
        refine ⟨hS, ?_⟩
        try simp only [Act.put, List.getElem_toArray, List.getElem_cons_succ, List.getElem_cons_zero, List.setIfInBounds_toArray, List.set_cons_succ, List.set_cons_zero]
        refine D_oneX 17 #[true, true, true, true, true, true, true, true, true, true, true, true, true, true, true, true, true, true, false, false] (by kernel_rfl) rfl (by kernel_rfl) (by rfl) ?_
        refine W_append bvLen bvOne (s := .tmp 35) (x := .tmp 50) (xv := .slice (some ⟨gl, 0, none⟩) 1 1) (ys := [((WA, wc), ⟨b1, b2, b3, b4, b5, f⟩)]) rfl Try.underlying22 infoBZ rfl (by decide) HW 5 rfl rfl rfl (oneBV (p := ((WA, wc), ⟨b1, b2, b3, b4, b5, f⟩)) (HW.at_ 0 rfl)) (by simp; omega) (by simp [maxLen]; omega) ?_
        intro vn w' HW7 hnn
        obtain ⟨gn, cn, rfl⟩ := own_form (HW7.get 5 rfl) (by simp)
        simp only [List.set_cons_succ, List.set_cons_zero] at HW7
        clear HW
        have HW := HW7
        clear HW7 hnn
        clear hS
        have hS := HW.drop (L' := [_]) (List.Sublist.cons _ (List.Sublist.cons _ (List.Sublist.cons_cons _ (List.nil_sublist _))))
        refine ⟨hS, ?_⟩
        try simp only [Act.put, List.getElem_toArray, List.getElem_cons_succ, List.getElem_cons_zero, List.setIfInBounds_toArray, List.set_cons_succ, List.set_cons_zero]
        refine D_freeX 18 #[true, true, true, true, true, true, true, true, true, true, true, true, true, true, true, true, true, true, true, false] (by kernel_rfl) (v := ?_) rfl (by kernel_rfl) (by kernel_rfl) (by kernel_rfl) (by kernel_rfl) (fun _ _ _ h => h) rfl (by rfl) (fun W => ?_) hS ?_
        rotate_left; (focus (first | (go_simp; done) | (go_simp; with_reducible rfl) | (go_simp; rfl))); all_goals skip; (try simp only [List.set_cons_succ, List.set_cons_zero])
        refine D_pX #[true, true, true, true, true, true, true, true, true, true, true, true, true, true, true, true, true, true, true, true] (by kernel_rfl) rfl (by kernel_rfl) (by rfl) ?_
        have hbk := HW.at_ 2 rfl
        have hcb := cell_of_row _ g5 6 _ _ _ hbk
        have hfb := frozen_of_row _ g5 6 _ _ hbk
        have HW8 := HW.setCell (off := 6) 2 (.slice (some ⟨gn, 0, none⟩) (j + 1) cn) rfl
        simp only [List.set_cons_succ, List.set_cons_zero, List.setIfInBounds_toArray] at HW8
        refine wp_of_skip (R_store1 (ty := 22) (x := .tmp 52) (y := .tmp 51) (g := g5) (j := 6) (v := .slice (some ⟨gn, 0, none⟩) (j + 1) cn) rfl rfl rfl rfl rfl hcb hfb Try.sizeOf22) ?_
        clear HW
        have HW := HW8
        clear HW8 hbk hcb hfb hS
        try simp only [Act.put, List.getElem_toArray, List.getElem_cons_succ, List.getElem_cons_zero, List.setIfInBounds_toArray, List.set_cons_succ, List.set_cons_zero]
        refine wpAnyX_done (by kernel_rfl) ?_ _
        have HWd := HW.drop (L' := [_, _, _, _, _, _]) (List.Sublist.cons _ (List.Sublist.cons_cons _ (List.Sublist.cons_cons _ (List.Sublist.cons_cons _ (List.Sublist.cons_cons _ (List.Sublist.cons_cons _ (List.Sublist.cons_cons _ (List.nil_sublist _))))))))
        clear HX HW
        have H := SH.mergeBA (L1 := [_, _, _, _]) HWd
        clear HWd
        simp only [List.cons_append, List.nil_append] at H
        go_wp2_with fail
        go_roundw
        case rel =>
          refine ⟨j + 1, _, ps ++ [((WA, wc), ⟨b1, b2, b3, b4, b5, f⟩)], q6, _, by go_num, by simp [hpl], by omega, by rw [HRB.out, List.map_append]; rfl, ?_, by rw [cellsOf_append]; exact H⟩
          intro p hp
          rcases List.mem_append.1 hp with hp | hp
          · exact ⟨List.mem_cons_of_mem _ (HFP.out p hp).1, (HFP.out p hp).2⟩
          · rw [List.mem_singleton.1 hp]
            exact ⟨by simp [BV.wv], by have := hfit.1; show f.length ≤ 1000; omega, hfit.2⟩
        case measure => simp [intOf]; omega
      · obtain rfl : j = n := by omega
        have hjn2 : ¬ ((j : Int) < (j : Int)) := by omega
        have hdec := HD.out
        rw [hrb] at hdec
        dsimp only at hdec
        have hfit : ∀ b ∈ ps.map (·.2), Blk.Fit b := fun b hb => by obtain ⟨p, hp, rfl⟩ := List.mem_map.1 hb; exact (hfp p hp).2
        have hcb : j ≤ cbv := by
          obtain ⟨_, c, he, hc⟩ := (RdS.own bvLen hpl.symm (H.get 3 rfl)).len
          cases he
          omega
        have hE := fun {W : World} (h : (RdrA r rd).says W) => rdEnd_any h
        have henc := fun {W : World} (hb : BsR W (.slice Abv j cbv) ps) => encode_any ⟨n1, n2, n3, n4, n5, n6, ps.map (·.2)⟩ _ ps W rfl hb (by omega) hfit
        simp only [tabV] at henc
        have hetb := encTab_bytes (t := ⟨n1, n2, n3, n4, n5, n6, ps.map (·.2)⟩) hfit
        have HFP := Lib.hid hfp
        have HPL := Lib.hid hpl
        have HFIT := Lib.hid hfit
        clear hrb hfp hpl hfit
        have hbk := H.at_ 0 rfl
        have hk0 : wr.cell? ⟨g5, 0, none⟩ = some (.int .i64 n1) := cell_of_row _ g5 0 _ _ _ hbk
        have hk1 : wr.cell? ⟨g5, 1, none⟩ = some (.int .i64 n2) := cell_of_row _ g5 1 _ _ _ hbk
        have hk2 : wr.cell? ⟨g5, 2, none⟩ = some (.int .i64 n3) := cell_of_row _ g5 2 _ _ _ hbk
        have hk3 : wr.cell? ⟨g5, 3, none⟩ = some (.int .i64 n4) := cell_of_row _ g5 3 _ _ _ hbk
        have hk4 : wr.cell? ⟨g5, 4, none⟩ = some (.int .i64 n5) := cell_of_row _ g5 4 _ _ _ hbk
        have hk5 : wr.cell? ⟨g5, 5, none⟩ = some (.int .i64 n6) := cell_of_row _ g5 5 _ _ _ hbk
        have hk6 : wr.cell? ⟨g5, 6, none⟩ = some (.slice Abv j cbv) := cell_of_row _ g5 6 _ _ _ hbk
        clear hbk
        obtain ⟨et, het⟩ : ∃ et, encTab ⟨n1, n2, n3, n4, n5, n6, ps.map (·.2)⟩ = et := ⟨_, rfl⟩
        rw [het] at hdec henc hetb
        clear het
        by_cases he : rd = some []
        · have hd : decide (rd = some []) = true := by simp [he]
          rw [hd] at hE
          have hEq := fun {W : World} {u u2 : Value} (h1 : RdS (encInt .u8) 1 W u et) (h2 : RdS (encInt .u8) 1 W u2 xs) => bytesEqual_any u u2 et xs W h1 h2 hetb HV.out.2.1
          by_cases hq : et = xs
          · have hdq : decide (et = xs) = true := by simp [hq]
            rw [hdq] at hEq
            have hres := HZ.out.2 _ (by rw [hdec, if_pos ⟨he, hq⟩])
            have HRES := Lib.hid hres
            clear hres hdq hdec hd he hq hetb
            go_wp2_with (first
              | (go_at_call 42; refine (hE (H.get 1 rfl)).mono ?_; rintro e w2 ⟨rfl, rfl⟩)
              | (refine L_loadrow rfl rfl H 0 rfl rfl Try.underlying24 rfl info24 ?hn ?_; (case hn => first | rfl | assumption | (simp only [List.size_toArray]; assumption)); (try simp only [Act.put, List.setIfInBounds_toArray, List.set_cons_succ, List.set_cons_zero, List.getElem_toArray, List.getElem_cons_succ, List.getElem_cons_zero]))
              | (go_at_call 17; (refine (henc ⟨RdS.own bvLen HPL.out.symm (H.get 3 rfl), fun p hp => H.get 4 (A := bytesA by_) rfl _ (HFP.out p hp).1⟩).mono ?_; rintro e w ⟨v2, rfl, hv2, hE2⟩; replace H := H.calls hE2; clear hE2))
              | (go_at_call 43; (refine (hEq hv2 (HV.out.1.keep H.ext)).mono ?_; rintro e w2 ⟨rfl, rfl⟩))
              | (go_at_call 44; refine (clipBs_any Abv j cbv _ hcb (by omega)).mono ?_; rintro e w2 ⟨rfl, rfl⟩)
              | (refine L_load1 rfl rfl H 0 rfl rfl rfl Try.isAgg22 ?_; (try simp only [Act.put, List.setIfInBounds_toArray, List.set_cons_succ, List.set_cons_zero, List.getElem_toArray, List.getElem_cons_succ, List.getElem_cons_zero])) | (refine L_store1 rfl rfl H 0 rfl rfl rfl rfl rfl (Nat.le_of_ble_eq_true rfl) Try.sizeOf22 ?_; clear H; intro w H; simp only [List.set_cons_zero, List.set_cons_succ, List.setIfInBounds_toArray, Act.eval, Array.getD_eq_getD_getElem?, List.getElem?_toArray, List.getElem?_cons_succ, List.getElem?_cons_zero, Option.getD_some] at H; (try simp only [Act.put, List.setIfInBounds_toArray, List.set_cons_succ, List.set_cons_zero, List.getElem_toArray, List.getElem_cons_succ, List.getElem_cons_zero]))
              | (refine L_storerow rfl rfl H 0 rfl rfl rfl info24 ?hn ?ho ?h1 ?_; (case hn => first | rfl | assumption); (case ho => first | rfl | assumption); (case h1 => first | assumption | exact one7s _ _ _ _ _ _ _ _ _ | rfl); clear H; intro w H; simp only [List.set_cons_zero, List.set_cons_succ, List.setIfInBounds_toArray, Act.eval, Array.getD_eq_getD_getElem?, List.getElem?_toArray, List.getElem?_cons_succ, List.getElem?_cons_zero, Option.getD_some] at H; (try simp only [Act.put, List.setIfInBounds_toArray, List.set_cons_succ, List.set_cons_zero, List.getElem_toArray, List.getElem_cons_succ, List.getElem_cons_zero])) | (refine L_storerow rfl rfl H 1 rfl rfl rfl info24 ?hn ?ho ?h1 ?_; (case hn => first | rfl | assumption); (case ho => first | rfl | assumption); (case h1 => first | assumption | exact one7s _ _ _ _ _ _ _ _ _ | rfl); clear H; intro w H; simp only [List.set_cons_zero, List.set_cons_succ, List.setIfInBounds_toArray, Act.eval, Array.getD_eq_getD_getElem?, List.getElem?_toArray, List.getElem?_cons_succ, List.getElem?_cons_zero, Option.getD_some] at H; (try simp only [Act.put, List.setIfInBounds_toArray, List.set_cons_succ, List.set_cons_zero, List.getElem_toArray, List.getElem_cons_succ, List.getElem_cons_zero])) | (refine L_storerow rfl rfl H 2 rfl rfl rfl info24 ?hn ?ho ?h1 ?_; (case hn => first | rfl | assumption); (case ho => first | rfl | assumption); (case h1 => first | assumption | exact one7s _ _ _ _ _ _ _ _ _ | rfl); clear H; intro w H; simp only [List.set_cons_zero, List.set_cons_succ, List.setIfInBounds_toArray, Act.eval, Array.getD_eq_getD_getElem?, List.getElem?_toArray, List.getElem?_cons_succ, List.getElem?_cons_zero, Option.getD_some] at H; (try simp only [Act.put, List.setIfInBounds_toArray, List.set_cons_succ, List.set_cons_zero, List.getElem_toArray, List.getElem_cons_succ, List.getElem_cons_zero])))
            (try simp only [Exit.inBlock, Exit.then])
            refine L_retrow2 (p := 2) (q := 3) (n := 7) rfl H 2 rfl rfl Try.underlying24 rfl info24 rfl rfl (v := .int .i64 0) rfl ?_
            unfold DecE
            rw [HRES.out]
            exact ⟨.slice Abv j j, ps, rfl, rfl, ⟨(RdS.own bvLen HPL.out.symm (H.get 3 rfl)).clip, fun p hp => H.get 4 (A := bytesA by_) rfl _ (HFP.out p hp).1⟩, by have := HPL.out; omega, HFIT.out, H.ext⟩
          · have hdq : decide (et = xs) = false := by simp [hq]
            rw [hdq] at hEq
            have hres := HZ.out.1 (by rw [hdec, if_neg (fun h => hq h.2)])
            have HRES := Lib.hid hres
            clear hres hdq hdec hd he hq hetb
            go_wp2_with (first
              | (go_at_call 42; refine (hE (H.get 1 rfl)).mono ?_; rintro e w2 ⟨rfl, rfl⟩)
              | (refine L_loadrow rfl rfl H 0 rfl rfl Try.underlying24 rfl info24 ?hn ?_; (case hn => first | rfl | assumption | (simp only [List.size_toArray]; assumption)); (try simp only [Act.put, List.setIfInBounds_toArray, List.set_cons_succ, List.set_cons_zero, List.getElem_toArray, List.getElem_cons_succ, List.getElem_cons_zero]))
              | (go_at_call 17; (refine (henc ⟨RdS.own bvLen HPL.out.symm (H.get 3 rfl), fun p hp => H.get 4 (A := bytesA by_) rfl _ (HFP.out p hp).1⟩).mono ?_; rintro e w ⟨v2, rfl, hv2, hE2⟩; replace H := H.calls hE2; clear hE2))
              | (go_at_call 43; (refine (hEq hv2 (HV.out.1.keep H.ext)).mono ?_; rintro e w2 ⟨rfl, rfl⟩))
              | (refine L_storerow rfl rfl H 0 rfl rfl rfl info24 ?hn ?ho ?h1 ?_; (case hn => first | rfl | assumption); (case ho => first | rfl | assumption); (case h1 => first | assumption | exact one7 _ _ _ _ _ _ | rfl); clear H; intro w H; simp only [List.set_cons_zero, List.set_cons_succ, List.setIfInBounds_toArray, Act.eval, Array.getD_eq_getD_getElem?, List.getElem?_toArray, List.getElem?_cons_succ, List.getElem?_cons_zero, Option.getD_some] at H; (try simp only [Act.put, List.setIfInBounds_toArray, List.set_cons_succ, List.set_cons_zero, List.getElem_toArray, List.getElem_cons_succ, List.getElem_cons_zero])) | (refine L_storerow rfl rfl H 1 rfl rfl rfl info24 ?hn ?ho ?h1 ?_; (case hn => first | rfl | assumption); (case ho => first | rfl | assumption); (case h1 => first | assumption | exact one7 _ _ _ _ _ _ | rfl); clear H; intro w H; simp only [List.set_cons_zero, List.set_cons_succ, List.setIfInBounds_toArray, Act.eval, Array.getD_eq_getD_getElem?, List.getElem?_toArray, List.getElem?_cons_succ, List.getElem?_cons_zero, Option.getD_some] at H; (try simp only [Act.put, List.setIfInBounds_toArray, List.set_cons_succ, List.set_cons_zero, List.getElem_toArray, List.getElem_cons_succ, List.getElem_cons_zero])) | (refine L_storerow rfl rfl H 2 rfl rfl rfl info24 ?hn ?ho ?h1 ?_; (case hn => first | rfl | assumption); (case ho => first | rfl | assumption); (case h1 => first | assumption | exact one7 _ _ _ _ _ _ | rfl); clear H; intro w H; simp only [List.set_cons_zero, List.set_cons_succ, List.setIfInBounds_toArray, Act.eval, Array.getD_eq_getD_getElem?, List.getElem?_toArray, List.getElem?_cons_succ, List.getElem?_cons_zero, Option.getD_some] at H; (try simp only [Act.put, List.setIfInBounds_toArray, List.set_cons_succ, List.set_cons_zero, List.getElem_toArray, List.getElem_cons_succ, List.getElem_cons_zero])))
            (try simp only [Exit.inBlock, Exit.then])
            exact L_retrow2 (p := 2) (q := 3) (n := 7) rfl H 2 rfl rfl Try.underlying24 rfl info24 rfl rfl (v := .int .i64 12) rfl (DecE_none HRES.out H.ext)
        · have hd : decide (rd = some []) = false := by simp [he]
          rw [hd] at hE
          have hres := HZ.out.1 (by rw [hdec, if_neg (fun h => he h.1)])
          have HRES := Lib.hid hres
          clear hres hdec hd he hetb henc
          go_wp2_with (first
            | (go_at_call 42; refine (hE (H.get 1 rfl)).mono ?_; rintro e w2 ⟨rfl, rfl⟩)
            | (refine L_storerow rfl rfl H 0 rfl rfl rfl info24 ?hn ?ho ?h1 ?_; (case hn => first | rfl | assumption); (case ho => first | rfl | assumption); (case h1 => first | assumption | exact one7 _ _ _ _ _ _ | rfl); clear H; intro w H; simp only [List.set_cons_zero, List.set_cons_succ, List.setIfInBounds_toArray, Act.eval, Array.getD_eq_getD_getElem?, List.getElem?_toArray, List.getElem?_cons_succ, List.getElem?_cons_zero, Option.getD_some] at H; (try simp only [Act.put, List.setIfInBounds_toArray, List.set_cons_succ, List.set_cons_zero, List.getElem_toArray, List.getElem_cons_succ, List.getElem_cons_zero])) | (refine L_storerow rfl rfl H 1 rfl rfl rfl info24 ?hn ?ho ?h1 ?_; (case hn => first | rfl | assumption); (case ho => first | rfl | assumption); (case h1 => first | assumption | exact one7 _ _ _ _ _ _ | rfl); clear H; intro w H; simp only [List.set_cons_zero, List.set_cons_succ, List.setIfInBounds_toArray, Act.eval, Array.getD_eq_getD_getElem?, List.getElem?_toArray, List.getElem?_cons_succ, List.getElem?_cons_zero, Option.getD_some] at H; (try simp only [Act.put, List.setIfInBounds_toArray, List.set_cons_succ, List.set_cons_zero, List.getElem_toArray, List.getElem_cons_succ, List.getElem_cons_zero])) | (refine L_storerow rfl rfl H 2 rfl rfl rfl info24 ?hn ?ho ?h1 ?_; (case hn => first | rfl | assumption); (case ho => first | rfl | assumption); (case h1 => first | assumption | exact one7 _ _ _ _ _ _ | rfl); clear H; intro w H; simp only [List.set_cons_zero, List.set_cons_succ, List.setIfInBounds_toArray, Act.eval, Array.getD_eq_getD_getElem?, List.getElem?_toArray, List.getElem?_cons_succ, List.getElem?_cons_zero, Option.getD_some] at H; (try simp only [Act.put, List.setIfInBounds_toArray, List.set_cons_succ, List.set_cons_zero, List.getElem_toArray, List.getElem_cons_succ, List.getElem_cons_zero])))
          (try simp only [Exit.inBlock, Exit.then])
          exact L_retrow2 (p := 2) (q := 3) (n := 7) rfl H 2 rfl rfl Try.underlying24 rfl info24 rfl rfl (v := .int .i64 12) rfl (DecE_none HRES.out H.ext)
end Go.Proofs.Ytoaieodcdbbndaa
