/- Catalogues: Decode. -/
import Derived.Test.YtmfcccflohpjiaaGreatDoorCatL
import Derived.Test.YtmfcccflohpjiaaGreatDoorCatG
import Derived.Test.YtmfcccflohpjiaaGreatDoorCatV
namespace Go.Proofs.YtmfcccflohpjiaaGreatDoor
set_option linter.unusedVariables false
set_option linter.unusedSimpArgs false
open Go.RowKit

def rdEnt (r : Rd) : Ent × Rd :=
  let f := rdW 32 r
  let a := rdN f.2
  let b := rdN a.2
  let c := rdN b.2
  let d := rdN c.2
  let e := rdN d.2
  (⟨strOfNums f.1, a.1, b.1, c.1, d.1, e.1⟩, e.2)
def rdEnts : Nat → Rd → List Ent × Rd
  | 0, r => ([], r)
  | n + 1, r => let a := rdEnts n r; let b := rdEnt a.2; (a.1 ++ [b.1], b.2)
theorem rdEnts_succ (n : Nat) (r : Rd) : rdEnts (n + 1) r = ((rdEnts n r).1 ++ [(rdEnt (rdEnts n r).2).1], (rdEnt (rdEnts n r).2).2) := rfl
/-- These entries are what the bytes say. -/
def DecOk (xs : List Int) (es : List Ent) : Prop := ∃ n r1, rdN (some xs) = (n, r1) ∧ 0 ≤ n ∧ n ≤ 12 ∧ rdEnts n.toNat r1 = (es, some []) ∧ CatGood es ∧ encCat es = xs
theorem DecOk.uniq {xs : List Int} {es fs : List Ent} (h1 : DecOk xs es) (h2 : DecOk xs fs) : es = fs := by
  obtain ⟨n, r, h, _, _, he, _⟩ := h1
  obtain ⟨m, s, h', _, _, hf, _⟩ := h2
  rw [h] at h'
  cases h'
  rw [he] at hf
  cases hf
  rfl
def DecE (xs : List Int) (e : Ending) (w' : World) : Prop :=
  (∃ es v, DecOk xs es ∧ e = .returned (.tuple #[v, .int .i64 0]) ∧ RdS eCells 6 w' v es) ∨ ((∀ es, ¬ DecOk xs es) ∧ e = .returned (.tuple #[.slice none 0 0, .int .i64 12]))
def Fit6 (x : Ent) : Prop := x.path.size ≤ 32 ∧ x.Num
theorem be8_rng (n : Int) : ∀ x ∈ be8 n, 0 ≤ x ∧ x ≤ 255 := by
  intro x hx
  simp only [be8, List.mem_cons, List.not_mem_nil, or_false] at hx
  rcases hx with rfl | rfl | rfl | rfl | rfl | rfl | rfl | rfl <;> omega
theorem encCat_bytes (ps : List Ent) : ∀ x ∈ encCat ps, 0 ≤ x ∧ x ≤ 255 := by
  intro x hx
  unfold encCat at hx
  rcases List.mem_append.1 hx with hx | hx
  · exact be8_rng _ x hx
  · obtain ⟨y, _, hy⟩ := List.mem_flatMap.1 hx
    unfold encE at hy
    rcases List.mem_append.1 hy with hy | hy
    · rcases List.mem_append.1 hy with hy | hy
      · simp only [be2, List.mem_cons, List.not_mem_nil, or_false] at hy
        rcases hy with rfl | rfl <;> omega
      · exact pN_bytes _ x hy
    · obtain ⟨z, _, hz⟩ := List.mem_flatMap.1 hy
      exact be8_rng _ x hz
theorem rdN_rng (r : Rd) : -9223372036854775808 ≤ (rdN r).1 ∧ (rdN r).1 ≤ 9223372036854775807 := by
  cases r with
  | none => simp [rdN]
  | some l =>
    unfold rdN
    simp only
    split
    · simp
    · unfold num8
      simp only
      rw [IntKind.wrap_i64]
      omega
theorem rdW_len (r : Rd) : (rdW 32 r).1.length ≤ 32 := by
  cases r with
  | none => simp [rdW]
  | some l =>
    simp only [rdW]
    split
    · simp
    · split
      · simp
      · simp only [List.length_take]
        omega
theorem fit_path {xs : List Ent} (h : ∀ x ∈ xs, Fit6 x) : PathOk xs := fun x hx => ⟨by have := (h x hx).1; omega, (h x hx).2⟩
def DecRelC (n r : Nat) (r1 : Rd) (w0 : World) (s6 vi : Value) (wr : World) : Prop :=
  ∃ (j : Nat) (ps : List Ent) (rd : Rd), vi = .int .i64 (j : Int) ∧ j ≤ n ∧ Hid (ps.length = j ∧ rdEnts j r1 = (ps, rd) ∧ ∀ p ∈ ps, Fit6 p) ∧
    SH (fun _ => False) w0 wr [RdrA r rd, ownA 39 6 s6 j (cellsOf eCells ps)]
set_option maxRecDepth 100000 in
set_option maxHeartbeats 4000000 in
theorem decodeC_any (v : Value) (xs : List Int) (w0 : World) (hv : RdS (encInt .u8) 1 w0 v xs) (hx : ∀ x ∈ xs, 0 ≤ x ∧ x ≤ 255) (hl : xs.length ≤ 1000000) (hm : Pth.ML w0) :
    Calls Tryz.prog 13 #[v] w0 fun e w' => DecE xs e w' ∧ Ext0 w0 w' := by
  have H : SH (fun _ => False) w0 w0 [] := SH.nil _ _
  have hnew := fun {W : World} (h : Ext0 w0 W) => rdNew_any v xs W (hv.keep h) hx (by omega)
  obtain ⟨n1, r1, h1⟩ : ∃ x y, rdN (some xs) = (x, y) := ⟨_, _, rfl⟩
  have hN1 := fun {r : Nat} {W : World} (h : (RdrA r (some xs)).says W) => rdInt_any h
  rw [h1] at hN1
  dsimp only at hN1
  have HV := Lib.hid (And.intro hv (And.intro hx (And.intro hl (And.intro hm h1))))
  clear hv hx hl hm h1
  go_enter Tryz.func13, Tryz.ntmps13
  go_upto_region 3 with (first
    | (go_at_call 35; refine (hnew H.ext).mono ?_; rintro e w ⟨r, rfl, h⟩; replace H := H.cat h; clear h; simp only [List.cons_append, List.nil_append] at H)
    | (go_at_call 36; refine (hN1 (H.get 0 rfl)).mono ?_; rintro e w ⟨rfl, h1, h2⟩; replace H := H.rdr 0 rfl h1 h2; clear h1 h2; simp only [List.set_cons_zero] at H))
  clear hnew hN1
  by_cases hbad : n1 < 0 ∨ 12 < n1
  · have hno : ∀ es, ¬ DecOk xs es := fun es ⟨n, r, h, ha, hb, _⟩ => by
      rw [HV.out.2.2.2.2] at h
      cases h
      omega
    have HNO := Lib.hid hno
    clear hno
    rcases hbad with hb | hb
    · go_wp2_with fail
      go_ret2
      exact ⟨.inr ⟨HNO.out, rfl⟩, H.ext⟩
    · have hb2 : ¬ n1 < 0 := by omega
      go_wp2_with fail
      go_ret2
      exact ⟨.inr ⟨HNO.out, rfl⟩, H.ext⟩
  · obtain ⟨n, rfl⟩ := Int.eq_ofNat_of_zero_le (show 0 ≤ n1 by omega)
    have hn12 : n ≤ 12 := by omega
    have hA : ¬ (n : Int) < 0 := by omega
    have hB : ¬ 12 < (n : Int) := by omega
    clear hbad
    have H2 := H.add (A := ownA 39 6 (.slice none 0 0) 0 (cellsOf eCells [])) (Ext.refl _ _) (World.ownsRow_nil _ _ _ _) (fun i h => by cases h)
    replace H2 := H2.perm (List.Perm.swap _ _ _)
    clear H
    go_wp2_with fail
    go_loopw [6, 20] (fun s6 vi wr => DecRelC n r r1 w0 s6 vi wr) (fun _ vi _ => n - (intOf vi).toNat)
    case atStart => exact ⟨0, [], r1, rfl, by omega, Lib.hid ⟨rfl, rfl, by simp⟩, H2⟩
    case round =>
      clear H2 hA hB
      obtain ⟨j, ps, rd, rfl, hj12, HP, H⟩ := hrel
      obtain ⟨Abv, cbv, rfl⟩ := own_slice (H.get 1 rfl)
      by_cases hjn : j < n
      · have hji : (j : Int) < (n : Int) := by omega
        obtain ⟨f, q0, hq0⟩ : ∃ x y, rdW 32 rd = (x, y) := ⟨_, _, rfl⟩
        obtain ⟨b1, q1, hq1⟩ : ∃ x y, rdN q0 = (x, y) := ⟨_, _, rfl⟩
        obtain ⟨b2, q2, hq2⟩ : ∃ x y, rdN q1 = (x, y) := ⟨_, _, rfl⟩
        obtain ⟨b3, q3, hq3⟩ : ∃ x y, rdN q2 = (x, y) := ⟨_, _, rfl⟩
        obtain ⟨b4, q4, hq4⟩ : ∃ x y, rdN q3 = (x, y) := ⟨_, _, rfl⟩
        obtain ⟨b5, q5, hq5⟩ : ∃ x y, rdN q4 = (x, y) := ⟨_, _, rfl⟩
        have hT := fun {W : World} (h : (RdrA r rd).says W) => rdText_any h 32 (by omega)
        have hI1 := fun {W : World} (h : (RdrA r q0).says W) => rdInt_any h
        have hI2 := fun {W : World} (h : (RdrA r q1).says W) => rdInt_any h
        have hI3 := fun {W : World} (h : (RdrA r q2).says W) => rdInt_any h
        have hI4 := fun {W : World} (h : (RdrA r q3).says W) => rdInt_any h
        have hI5 := fun {W : World} (h : (RdrA r q4).says W) => rdInt_any h
        rw [show ((32 : Nat) : Int) = 32 from rfl, hq0] at hT
        rw [hq1] at hI1
        rw [hq2] at hI2
        rw [hq3] at hI3
        rw [hq4] at hI4
        rw [hq5] at hI5
        dsimp only at hI1 hI2 hI3 hI4 hI5 hT
        have hent : rdEnt rd = (⟨strOfNums f, b1, b2, b3, b4, b5⟩, q5) := by
          unfold rdEnt
          simp only [hq0, hq1, hq2, hq3, hq4, hq5]
        have hfit : Fit6 ⟨strOfNums f, b1, b2, b3, b4, b5⟩ := by
          have h0 := rdW_len rd
          have h4 := rdN_rng q3
          have h5 := rdN_rng q4
          rw [hq0] at h0
          rw [hq4] at h4
          rw [hq5] at h5
          exact ⟨by rw [strOfNums_size]; exact h0, h4, h5⟩
        have hrb2 : rdEnts (j + 1) r1 = (ps ++ [⟨strOfNums f, b1, b2, b3, b4, b5⟩], q5) := by
          rw [rdEnts_succ, HP.out.2.1, hent]
        have HRB := Lib.hid (And.intro hrb2 hfit)
        clear hent hrb2 hfit hq0 hq1 hq2 hq3 hq4 hq5
        generalize strOfNums f = fs at *
        have hb1 : (j + 1) * 56 ≤ 140737488355328 := by omega
        have hm1 : j + 1 ≤ maxLen := by simp only [maxLen]; omega
        go_wp2_with (first
          | (go_at_call 37; refine (hT (H.get 0 rfl)).mono ?_; rintro e w ⟨rfl, h1, h2⟩; replace H := H.rdr 0 rfl h1 h2; clear h1 h2; simp only [List.set_cons_zero] at H) | (go_at_call 36; refine (hI1 (H.get 0 rfl)).mono ?_; rintro e w ⟨rfl, h1, h2⟩; replace H := H.rdr 0 rfl h1 h2; clear h1 h2; simp only [List.set_cons_zero] at H) | (go_at_call 36; refine (hI2 (H.get 0 rfl)).mono ?_; rintro e w ⟨rfl, h1, h2⟩; replace H := H.rdr 0 rfl h1 h2; clear h1 h2; simp only [List.set_cons_zero] at H) | (go_at_call 36; refine (hI3 (H.get 0 rfl)).mono ?_; rintro e w ⟨rfl, h1, h2⟩; replace H := H.rdr 0 rfl h1 h2; clear h1 h2; simp only [List.set_cons_zero] at H) | (go_at_call 36; refine (hI4 (H.get 0 rfl)).mono ?_; rintro e w ⟨rfl, h1, h2⟩; replace H := H.rdr 0 rfl h1 h2; clear h1 h2; simp only [List.set_cons_zero] at H) | (go_at_call 36; refine (hI5 (H.get 0 rfl)).mono ?_; rintro e w ⟨rfl, h1, h2⟩; replace H := H.rdr 0 rfl h1 h2; clear h1 h2; simp only [List.set_cons_zero] at H)
          | (refine L_litE (e := 39) (cs := #[.string fs, .int .i64 b1, .int .i64 b2, .int .i64 b3, .int .i64 b4, .int .i64 b5]) rfl rfl H (by intro _; first | (go_simp; done) | (go_simp; rfl)) ?_; clear H; intro gl w H hEx; clear hEx)
          | (refine L_append eLen eOne rfl rfl Tryz.underlying22 infoEZ rfl (by decide) H 2 rfl rfl rfl (oneEnt ⟨fs, b1, b2, b3, b4, b5⟩ (H.at_ 0 rfl)) hb1 hm1 ?_; clear H; intro v2 w H hnn; clear hnn; simp only [List.set_cons_succ, List.set_cons_zero] at H))
        go_roundw
        case rel =>
          refine ⟨j + 1, ps ++ [⟨fs, b1, b2, b3, b4, b5⟩], q5, by go_num, by omega, Lib.hid ⟨by rw [List.length_append, HP.out.1]; rfl, HRB.out.1, fun p hp => ?_⟩, by rw [cellsOf_append]; exact H.drop (List.sublist_cons_self _ _)⟩
          rcases List.mem_append.1 hp with hp | hp
          · exact HP.out.2.2 p hp
          · rw [List.mem_singleton.1 hp]
            exact HRB.out.2
        case measure => simp [intOf]; omega
      · obtain rfl : j = n := by omega
        have hjn2 : ¬ ((j : Int) < (j : Int)) := by omega
        have hE := fun {W : World} (h : (RdrA r rd).says W) => rdEnd_any h
        have henc := fun {W : World} (hE : Ext0 w0 W) (hb : RdS eCells 6 W (.slice Abv j cbv) ps) => encode_any _ ps W hb (by have := HP.out.1; omega) (fit_path HP.out.2.2) (HV.out.2.2.2.1.ext hE)
        have hokk : ∀ es, DecOk xs es → es = ps ∧ rd = some [] ∧ CatGood ps ∧ encCat ps = xs := fun es ⟨n, r, h, ha, hb, h2, h3, h4⟩ => by
          rw [HV.out.2.2.2.2] at h
          cases h
          rw [Int.toNat_natCast, HP.out.2.1] at h2
          cases h2
          exact ⟨rfl, rfl, h3, h4⟩
        have hyes : rd = some [] → CatGood ps → encCat ps = xs → DecOk xs ps := fun h1 h2 h3 => ⟨_, _, HV.out.2.2.2.2, by omega, by omega, by rw [Int.toNat_natCast, HP.out.2.1, h1], h2, h3⟩
        have HK := Lib.hid (And.intro hokk hyes)
        clear hokk hyes
        go_upto_region 11 with (first
          | (go_at_call 7; refine (henc H.ext (RdS.own eLen HP.out.1.symm (H.get 1 rfl))).mono ?_; rintro e w ⟨hg, hE2⟩; rcases hg with ⟨hgood, v2, rfl, hv2⟩ | ⟨hgood, rfl⟩; all_goals (replace H := H.calls hE2; clear hE2)))
        · have hetb := encCat_bytes ps
          obtain ⟨et, het⟩ : ∃ et, encCat ps = et := ⟨_, rfl⟩
          rw [het] at hv2 hetb
          have HET := Lib.hid het
          have HG := Lib.hid hgood
          clear het hgood henc
          by_cases he : rd = some []
          · have hd : decide (rd = some []) = true := by simp [he]
            rw [hd] at hE
            have hEq := fun {W : World} {u u2 : Value} (h1 : RdS (encInt .u8) 1 W u et) (h2 : RdS (encInt .u8) 1 W u2 xs) => bytesEqual_any u u2 et xs W h1 h2 hetb HV.out.2.1
            by_cases hq : et = xs
            · have hdq : decide (et = xs) = true := by simp [hq]
              rw [hdq] at hEq
              have HY := Lib.hid (HK.out.2 he HG.out (HET.out.trans hq))
              clear hdq hd he hq hetb
              go_wp2_with (first
                | (go_at_call 38; refine (hE (H.get 0 rfl)).mono ?_; rintro e w2 ⟨rfl, rfl⟩)
                | (go_at_call 39; refine (hEq hv2 (HV.out.1.keep H.ext)).mono ?_; rintro e w2 ⟨rfl, rfl⟩)
                | (go_at_call 40; refine (clipE_any _ _ _ (RdS.own eLen HP.out.1.symm (H.get 1 rfl))).mono ?_; rintro e w4 ⟨v9, rfl, hrd, hE4⟩; replace H := H.calls hE4; clear hE4))
              go_ret2
              exact ⟨.inl ⟨ps, v9, HY.out, rfl, hrd⟩, H.ext⟩
            · have hdq : decide (et = xs) = false := by simp [hq]
              rw [hdq] at hEq
              have HNO := Lib.hid (show ∀ es, ¬ DecOk xs es from fun es h => hq (HET.out.symm.trans (HK.out.1 es h).2.2.2))
              clear hdq hd he hq hetb
              go_wp2_with (first | (go_at_call 38; refine (hE (H.get 0 rfl)).mono ?_; rintro e w2 ⟨rfl, rfl⟩) | (go_at_call 39; refine (hEq hv2 (HV.out.1.keep H.ext)).mono ?_; rintro e w2 ⟨rfl, rfl⟩))
              go_ret2
              exact ⟨.inr ⟨HNO.out, rfl⟩, H.ext⟩
          · have hd : decide (rd = some []) = false := by simp [he]
            rw [hd] at hE
            have HNO := Lib.hid (show ∀ es, ¬ DecOk xs es from fun es h => he (HK.out.1 es h).2.1)
            clear hd he hetb
            go_wp2_with (first | (go_at_call 38; refine (hE (H.get 0 rfl)).mono ?_; rintro e w2 ⟨rfl, rfl⟩))
            go_ret2
            exact ⟨.inr ⟨HNO.out, rfl⟩, H.ext⟩
        · have HNO := Lib.hid (show ∀ es, ¬ DecOk xs es from fun es h => hgood (HK.out.1 es h).2.2.1)
          clear hgood henc hE
          go_wp2_with fail
          go_ret2
          exact ⟨.inr ⟨HNO.out, rfl⟩, H.ext⟩
end Go.Proofs.YtmfcccflohpjiaaGreatDoor
