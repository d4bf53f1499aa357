/- The law's fixed fact: awake answers true. -/
import Derived.Test.YtgmeahogdjhejaaDoorWalJa
import Derived.Lib.SlBytesConst
namespace Go.Proofs.YtgmeahogdjhejaaDoor
set_option linter.unusedVariables false
set_option linter.unusedSimpArgs false
open Go.RowKit Go.Shelf

/-- What awake does, in plain words. -/
structure Aw16 (d0 d1 d2 d3 d4 d5 d6 : DS) (j1 j2 j3 j4 j5 j6 : JS) : Prop where
  f0 : d0.Fine 20000
  f1 : d1.Fine 20000
  f2 : d2.Fine 20000
  f3 : d3.Fine 20000
  f4 : d4.Fine 20000
  f5 : d5.Fine 20000
  f6 : d6.Fine 20000
  m1 : mayP d1.sure.length 3 10
  m6 : mayP d6.sure.length 3 10
  k1 : j1.Ok d1.sure.length
  k2 : j2.Ok d2.sure.length
  k3 : j3.Ok d3.sure.length
  k4 : j4.Ok d4.sure.length
  fo : formatP d0 3 10 [115] = (d1, 0)
  o1 : openP d1 3 10 = some (j1, [115], [])
  a1 : appendP d1 j1 [120] = (d1, j1, 9)
  a2 : checkpointP d1 j1 [116] = (d2, j2, 0)
  a3 : appendP d2 j2 [97] = (d3, j3, 0)
  a4 : commitP d3 j3 = (d4, j4, 0)
  a5 : appendP d4 j4 [98] = (d5, j5, 0)
  cr : d5.crash 0 (-1) 0 = d6
  o6 : openP d6 3 10 = some (j6, [116], [[97]])
  e6 : j6.epoch = 2
  q6 : j6.seq = 1
  p6 : j6.place = 1
  l6 : j6.log = 10
  u6 : j6.used = 1
theorem bytes1 (x : Int) (h : 0 ≤ x ∧ x ≤ 255) : ∀ y ∈ [x], 0 ≤ y ∧ y ≤ 255 := fun y hy => by rw [List.mem_singleton.1 hy]; exact h
set_option maxRecDepth 100000 in
set_option maxHeartbeats 8000000 in
theorem awake_walk {d0 d1 d2 d3 d4 d5 d6 : DS} {j1 j2 j3 j4 j5 j6 : JS} (hA : Aw16 d0 d1 d2 d3 d4 d5 d6 j1 j2 j3 j4 j5 j6) (c0 : ∀ w, Calls Tryd.prog 7 #[.int .i64 30] w (GivesDisk w d0)) (w0 : World) :
    Calls Tryd.prog 14 #[] w0 fun e w' => e = .returned (.bool true) ∧ Ext0 w0 w' := by
  have H : SH (fun _ => False) w0 w0 [] := SH.nil _ _
  have hfmt := fun {b bs bm : Nat} {w : World} {v : Value} (hD : (DiskA b bs bm d0).says w) (hr : RdS (encInt .u8) 1 w v [115]) (hap : ∀ j, v.ownBlock = some j → ¬ (DiskA b bs bm d0).fp j) => format_any w hD hA.f0 (by omega) 3 10 hr (bytes1 115 (by omega)) hap
  unfold FormatE at hfmt
  rw [hA.fo] at hfmt
  have hop1 := fun {b bs bm : Nat} {w : World} (hD : (DiskA b bs bm d1).says w) => (open_any w hD hA.f1 3 10 hA.m1).mono (fun e w' h => opened_some (by rw [hA.o1] at h; exact h))
  have hap1 := fun {b bs bm jb : Nat} {w : World} {v : Value} (h : (JD b bs bm jb d1 j1).says w) (hr : RdS (encInt .u8) 1 w v [120]) => append_any w h hA.f1 (by omega) hA.k1 hr (bytes1 120 (by omega)) (by decide)
  have hck := fun {b bs bm jb : Nat} {w : World} {v : Value} (h : (JD b bs bm jb d1 j1).says w) (hr : RdS (encInt .u8) 1 w v [116]) => checkpoint_any w h hA.f1 (by omega) hA.k1 hr (bytes1 116 (by omega))
  have hap2 := fun {b bs bm jb : Nat} {w : World} {v : Value} (h : (JD b bs bm jb d2 j2).says w) (hr : RdS (encInt .u8) 1 w v [97]) => append_any w h hA.f2 (by omega) hA.k2 hr (bytes1 97 (by omega)) (by decide)
  have hcm := fun {b bs bm jb : Nat} {w : World} (h : (JD b bs bm jb d3 j3).says w) => commit_any w h hA.f3
  have hap4 := fun {b bs bm jb : Nat} {w : World} {v : Value} (h : (JD b bs bm jb d4 j4).says w) (hr : RdS (encInt .u8) 1 w v [98]) => append_any w h hA.f4 (by omega) hA.k4 hr (bytes1 98 (by omega)) (by decide)
  have hcr := fun {b bs bm : Nat} {w : World} (hD : (DiskA b bs bm d5).says w) => crash_on b bs bm d5 0 (-1) 0 w hD hA.f5.good
  have hop6 := fun {b bs bm : Nat} {w : World} (hD : (DiskA b bs bm d6).says w) => (open_any w hD hA.f6 3 10 hA.m6).mono (fun e w' h => opened_some (by rw [hA.o6] at h; exact h))
  unfold JE at hap1 hck hap2 hcm hap4
  rw [hA.a1] at hap1
  rw [hA.a2] at hck
  rw [hA.a3] at hap2
  rw [hA.a4] at hcm
  rw [hA.a5] at hap4
  rw [hA.cr] at hcr
  have hep := fun {b jb : Nat} {w : World} (h : w.heap[jb]? = some (.cells (jCells b j6) 67 (0, 0))) => epoch_any w h
  have hse := fun {b jb : Nat} {w : World} (h : w.heap[jb]? = some (.cells (jCells b j6) 67 (0, 0))) => seq_any w h
  have hpl := fun {b jb : Nat} {w : World} (h : w.heap[jb]? = some (.cells (jCells b j6) 67 (0, 0))) => jplace_any w h
  have hro := fun {b jb : Nat} {w : World} (h : w.heap[jb]? = some (.cells (jCells b j6) 67 (0, 0))) => room_any w h (by rw [hA.l6]; omega) (by rw [hA.l6, hA.u6]; omega)
  rw [hA.e6] at hep
  rw [hA.q6] at hse
  rw [hA.p6] at hpl
  rw [hA.l6, hA.u6] at hro
  have kc := fun (w : World) (C : Array Value) (n c : Nat) => Lib.run_convert_bytes_const (P := Tryd.prog) w 23 5 C n c Tryd.underlying23 Tryd.underlying5
  go_enter Tryd.func14, Tryd.ntmps14
  go_upto_region 2 with (first
    | (go_at_call 7; refine (c0 _).mono ?_; rintro e w ⟨b, bs, bm, rfl, h⟩; replace H := H.cat h; clear h; simp only [List.cons_append, List.nil_append] at H))
  go_upto_region 3 with (first
    | (go_at_call 8; replace H := H.alloc (.cells #[.int .u8 115] 5 (1, 2)); refine (hfmt (H.get 1 rfl) (one_byte (H.at_ 0 rfl)) (fun j hj hfp => by cases hj; exact H.sep 1 0 (by decide) rfl rfl _ hfp rfl)).mono ?_; rintro e1 w2 ⟨rfl, hE, hsay⟩; replace H := H.disk 1 rfl hE hsay; simp only [List.set_cons_zero, List.set_cons_succ] at H; clear hE hsay))
  replace H := H.drop (L' := [DiskA b bs bm d1]) (.cons _ (List.Sublist.refl _))
  clear hfmt
  go_upto_region 6 with (first
    | (go_at_call 9; refine (hop1 (H.get 0 rfl)).mono ?_; rintro e1 w3 ⟨jb, vs, vl, ps, rfl, hps, hS⟩; obtain ⟨Al, cl, rfl⟩ := own_slice (hS.get 1 rfl); replace H := H.opened hS; clear hS))
  obtain rfl : ps = [] := List.map_eq_nil_iff.1 hps
  clear hps hop1
  replace H := H.drop (L' := [_, _]) (.cons_cons _ (.cons _ (.cons _ (.cons_cons _ .slnil))))
  go_upto_region 7 with (first
    | (go_at_call 13; replace H := H.alloc (.cells #[.int .u8 120] 5 (1, 2)); refine (hap1 (H.get 1 rfl) (one_byte (H.at_ 0 rfl))).mono ?_; rintro e1 w2 ⟨rfl, hE, hsay⟩; replace H := H.jd 1 rfl hE hsay; simp only [List.set_cons_zero, List.set_cons_succ] at H; clear hE hsay))
  replace H := H.drop (L' := [_, _]) (.cons _ (List.Sublist.refl _))
  clear hap1
  go_upto_region 8 with (first
    | (go_at_call 10; replace H := H.alloc (.cells #[.int .u8 116] 5 (1, 2)); refine (hck (H.get 1 rfl) (one_byte (H.at_ 0 rfl))).mono ?_; rintro e1 w2 ⟨rfl, hE, hsay⟩; replace H := H.jd 1 rfl hE hsay; simp only [List.set_cons_zero, List.set_cons_succ] at H; clear hE hsay; replace H := H.drop (L' := [_, _]) (.cons _ (List.Sublist.refl _)))
    | (go_at_call 13; replace H := H.alloc (.cells #[.int .u8 97] 5 (1, 2)); refine (hap2 (H.get 1 rfl) (one_byte (H.at_ 0 rfl))).mono ?_; rintro e1 w2 ⟨rfl, hE, hsay⟩; replace H := H.jd 1 rfl hE hsay; simp only [List.set_cons_zero, List.set_cons_succ] at H; clear hE hsay; replace H := H.drop (L' := [_, _]) (.cons _ (List.Sublist.refl _)))
    | (go_at_call 16; refine (hcm (H.get 0 rfl)).mono ?_; rintro e1 w2 ⟨rfl, hE, hsay⟩; replace H := H.jd 0 rfl hE hsay; simp only [List.set_cons_zero, List.set_cons_succ] at H; clear hE hsay))
  clear hck hap2 hcm
  go_upto_region 10 with (first
    | (go_at_call 13; replace H := H.alloc (.cells #[.int .u8 98] 5 (1, 2)); refine (hap4 (H.get 1 rfl) (one_byte (H.at_ 0 rfl))).mono ?_; rintro e1 w2 ⟨rfl, hE, hsay⟩; replace H := H.jd 1 rfl hE hsay; simp only [List.set_cons_zero, List.set_cons_succ] at H; clear hE hsay; replace H := H.drop (L' := [_, _]) (.cons _ (List.Sublist.refl _)))
    | (go_at_call 22; refine (hcr (H.get 0 rfl).1).mono ?_; rintro e1 w2 ⟨rfl, hE, hsay⟩; replace H := H.jdisk hE hsay; clear hE hsay))
  clear hap4 hcr
  replace H := H.undisk
  go_upto_region 13 with (first
    | (go_at_call 9; refine (hop6 (H.get 0 rfl)).mono ?_; rintro e1 w3 ⟨jb2, vs2, vl2, ps2, rfl, hps2, hS⟩; obtain ⟨Al2, cl2, rfl⟩ := own_slice (hS.get 1 rfl); replace H := H.opened hS; clear hS))
  clear hop6
  obtain ⟨s1, hs1⟩ : ∃ s1, strOfNums [115] = s1 := ⟨_, rfl⟩
  have hs1e : s1 = ⟨#[115]⟩ := by rw [← hs1]; rfl
  obtain ⟨s2, hs2⟩ : ∃ s2, strOfNums [116] = s2 := ⟨_, rfl⟩
  have hs2e : s2 = ⟨#[116]⟩ := by rw [← hs2]; rfl
  subst hs1e hs2e
  have hv1 := fun {w : World} (h : (rdA vs [115]).says w) => (run_string (src := 23) (dst := 9) h Tryd.underlying23 Tryd.underlying5 Tryd.underlying9)
  have hv2 := fun {w : World} (h : (rdA vs2 [116]).says w) => (run_string (src := 23) (dst := 9) h Tryd.underlying23 Tryd.underlying5 Tryd.underlying9)
  rw [hs1] at hv1
  rw [hs2] at hv2
  have hlen2 : ps2.length = 1 := by have := congrArg List.length hps2; simpa using this
  have hb2 : ∀ p ∈ ps2, ∀ x ∈ p.2, 0 ≤ x ∧ x ≤ 255 := fun p hp => by
    have : p.2 ∈ ps2.map (·.2) := List.mem_map_of_mem hp
    rw [hps2] at this
    rw [List.mem_singleton.1 this]
    exact bytes1 97 (by omega)
  have hsame := fun {w : World} {v : Value} {t : Option Addr × Nat × Nat} (h1 : RdS encSl 1 w (.slice Al2 ps2.length cl2) (ps2.map (·.1))) (h2 : RdS encSl 1 w v [t]) (h3 : (rowsA ps2).says w) (h4 : RdS (encInt .u8) 1 w (slV t) [97]) =>
    rows_same (.slice Al2 ps2.length cl2) v ps2 [(t, [97])] w h1 h2 h3 (fun p hp => by rw [List.mem_singleton.1 hp]; exact h4) hb2 (fun p hp => by rw [List.mem_singleton.1 hp]; exact bytes1 97 (by omega)) (by omega)
  rw [hps2] at hsame
  simp only [List.map_cons, List.map_nil, decide_true] at hsame
  have HP := Lib.hid (And.intro hps2 (And.intro hlen2 hb2))
  clear hs1 hs2 hps2 hlen2 hb2
  have hc1 := hv1 (H.get 4 rfl)
  have hc2 := hv2 (H.get 3 rfl)
  go_wp2_with (first
    | (go_at_call 23; replace H := (H.alloc (.cells #[.int .u8 97] 5 (1, 2))).alloc (.cells #[.slice (some ⟨w3.heap.size, 0, none⟩) 1 1] 23); have hpart := one_part (some ⟨w3.heap.size, 0, none⟩, 1, 1) (H.at_ 0 rfl); rw [show (w3.alloc (.cells #[.int .u8 97] 5 (1, 2))).heap.size = w3.heap.size + 1 by simp] at hpart; refine (hsame (RdS.own encSl_len (by simp) (H.get 4 rfl)) hpart (H.get 3 rfl) (one_byte (H.at_ 1 rfl))).mono ?_; rintro e1 w2 ⟨rfl, hE⟩; replace H := H.calls hE; clear hE)
    | (go_at_call 17; refine (hep (H.get 2 rfl).2.1).mono ?_; rintro e1 w2 ⟨rfl, hE⟩; replace H := H.calls hE; clear hE)
    | (go_at_call 12; refine (hse (H.get 2 rfl).2.1).mono ?_; rintro e1 w2 ⟨rfl, hE⟩; replace H := H.calls hE; clear hE)
    | (go_at_call 11; refine (hro (H.get 2 rfl).2.1).mono ?_; rintro e1 w2 ⟨rfl, hE⟩; replace H := H.calls hE; clear hE)
    | (go_at_call 18; refine (hpl (H.get 2 rfl).2.1).mono ?_; rintro e1 w2 ⟨rfl, hE⟩; replace H := H.calls hE; clear hE))
  go_ret
  exact ⟨rfl, H.ext⟩
end Go.Proofs.YtgmeahogdjhejaaDoor
