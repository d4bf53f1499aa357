/- Journals that are opened, among other assertions; the words of the laws. The law's fixed fact: awake answers true. The law's fixed fact: awake answers true (the plain part by the kernel). -/
import Derived.Test.YtgmeahogdjhejaaGreatDoorWalY
import Derived.Test.YtgmeahogdjhejaaGreatDoorWalU
import Derived.Test.YtgmeahogdjhejaaGreatDoorWalSm
import Derived.Lib.SlBytesConst
import Derived.Test.YtgmeahogdjhejaaGreatDoorWalLw
namespace Go.Proofs.YtgmeahogdjhejaaGreatDoor
set_option linter.unusedVariables false
set_option linter.unusedSimpArgs false
open Go.RowKit Go.Shelf

theorem L_value {P : Program} {ops : Array Oper} {Q : Exit → Act → World → Prop} {rest : List Oper} {a : Act} {w : World} {o : Oper} (hgd : o.guard = none) {v : Value} (hr : (execOp a.eval o).run P w = .ok (.value v) w) (k : wpList P ops Q rest (a.put o.dst v) w) : wpList P ops Q (o :: rest) a w :=
  wpList_plain hgd fun K hK => wp_of_value hr (hK _ _ k)
section
variable {M : Nat → Prop} {w0 w : World} {L : List Asr} {b bs bm jb : Nat} {d : DS} {j : JS}
theorem SH.glue2 {A B D : Asr} (H : SH M w0 w (A :: B :: L)) (hs : D.says w) (hf : ∀ i, D.fp i → A.fp i ∨ B.fp i) : SH M w0 w (D :: L) := by
  have ha := H.apart
  simp only [List.pairwise_cons, List.mem_cons] at ha
  refine ⟨H.ext, fun X hX => ?_, fun X hX i hi => ?_, fun X hX i hi => ?_, List.pairwise_cons.2 ⟨fun X hX i hi hi' => ?_, ha.2.2⟩⟩
  · rcases List.mem_cons.1 hX with rfl | hX
    · exact hs
    · exact H.says X (List.mem_cons_of_mem _ (List.mem_cons_of_mem _ hX))
  · rcases List.mem_cons.1 hX with rfl | hX
    · rcases hf i hi with h | h
      · exact H.lt A List.mem_cons_self i h
      · exact H.lt B (List.mem_cons_of_mem _ List.mem_cons_self) i h
    · exact H.lt X (List.mem_cons_of_mem _ (List.mem_cons_of_mem _ hX)) i hi
  · rcases List.mem_cons.1 hX with rfl | hX
    · rcases hf i hi with h | h
      · exact H.own A List.mem_cons_self i h
      · exact H.own B (List.mem_cons_of_mem _ List.mem_cons_self) i h
    · exact H.own X (List.mem_cons_of_mem _ (List.mem_cons_of_mem _ hX)) i hi
  · rcases hf i hi with h | h
    · exact ha.1 X (.inr hX) i h hi'
    · exact ha.2.1 X hX i h hi'
/-- What Open answers, come to a list whose head is the disk. -/
theorem SH.opened {w' : World} {vs vl : Value} {st : List Int} {ps : List ((Option Addr × Nat × Nat) × List Int)} (H : SH M w0 w (DiskA b bs bm d :: L)) (h : SH (fun _ => False) w w' [rowsA ps, ownA 22 1 vl ps.length (cellsOf encSl (ps.map (·.1))), JA b jb j, rdA vs st]) :
    SH M w0 w' (JD b bs bm jb d j :: rowsA ps :: ownA 22 1 vl ps.length (cellsOf encSl (ps.map (·.1))) :: rdA vs st :: L) := by
  have K := H.cat h
  simp only [List.cons_append, List.nil_append] at K
  have K2 : SH M w0 w' (JA b jb j :: DiskA b bs bm d :: rowsA ps :: ownA 22 1 vl ps.length (cellsOf encSl (ps.map (·.1))) :: rdA vs st :: L) := by
    exact K.perm ((List.perm_middle (l₁ := [_, _])).trans (.cons _ (List.perm_middle (l₁ := [_, _, _])))).symm
  exact K2.glue2 (JD.shut K2) (fun i hi => hi.elim .inr .inl)
/-- The old journal let go. -/
theorem SH.undisk (H : SH M w0 w (JD b bs bm jb d j :: L)) : SH M w0 w (DiskA b bs bm d :: L) :=
  H.head (Ext.refl _ _) (H.get 0 rfl).1 (fun i hi => ⟨.inl (.inl hi), JD.lt (H.get 0 rfl) (.inl hi)⟩)
/-- What is done to the disk alone. -/
theorem SH.jdisk (H : SH M w0 w (JD b bs bm jb d j :: L)) {w' : World} {d' : DS} (he : Ext (DiskA b bs bm d).fp w w') (hs : (DiskA b bs bm d').says w') : SH M w0 w' (JD b bs bm jb d' j :: L) := by
  have h0 := H.get 0 rfl
  refine H.jd 0 rfl (he.mono (fun i _ hi => .inl hi)) ⟨hs, he.keep h0.2.1 (fun h => h0.2.2 h), h0.2.2⟩
theorem opened_some {b : Nat} {j : JS} {st : List Int} {xss : List (List Int)} {w : World} {e : Ending} {w' : World} (h : OpenE b (some (j, st, xss)) w e w') :
    ∃ jb vs vl ps, e = .returned (.tuple #[.pointer (some ⟨jb, 0, none⟩), vs, vl, .int .i64 0]) ∧ ps.map (·.2) = xss ∧ SH (fun _ => False) w w' [rowsA ps, ownA 22 1 vl ps.length (cellsOf encSl (ps.map (·.1))), JA b jb j, rdA vs st] := by
  rcases h with ⟨h, _⟩ | ⟨j', st', xss', jb, vs, vl, ps, h, he, hp, hS⟩
  · cases h
  · cases h
    exact ⟨jb, vs, vl, ps, he, hp, hS⟩
end
theorem one_byte {w : World} {g : Nat} {T : TypeId} {fr : Nat × Nat} {x : Int} (h : w.heap[g]? = some (.cells #[.int .u8 x] T fr)) : RdS (encInt .u8) 1 w (.slice (some ⟨g, 0, none⟩) 1 1) [x] := by
  refine ⟨_, 1, rfl, Nat.le_refl _, .inr ⟨g, 0, _, T, fr, rfl, h, fun j hj i hi => ?_⟩⟩
  obtain rfl : j = 0 := by simpa using hj
  obtain rfl : i = 0 := by omega
  rfl
end Go.Proofs.YtgmeahogdjhejaaGreatDoor

namespace Go.Proofs.YtgmeahogdjhejaaGreatDoor
set_option linter.unusedVariables false
set_option linter.unusedSimpArgs false
open Go.RowKit Go.Shelf

/-- What awake does, in plain words. -/
structure Aw16 (d0 d1 d2 d3 d4 d5 d6 : DS) (j1 j2 j3 j4 j5 j6 : JS) : Prop where
  f0 : d0.Fine 20000
  f1 : d1.Fine 20000
  f2 : d2.Fine 20000
  f3 : d3.Fine 20000
  f4 : d4.Fine 20000
  f5 : d5.Fine 20000
  f6 : d6.Fine 20000
  m1 : mayP d1.sure.length 3 10
  m6 : mayP d6.sure.length 3 10
  k1 : j1.Ok d1.sure.length
  k2 : j2.Ok d2.sure.length
  k3 : j3.Ok d3.sure.length
  k4 : j4.Ok d4.sure.length
  fo : formatP d0 3 10 [115] = (d1, 0)
  o1 : openP d1 3 10 = some (j1, [115], [])
  a1 : appendP d1 j1 [120] = (d1, j1, 9)
  a2 : checkpointP d1 j1 [116] = (d2, j2, 0)
  a3 : appendP d2 j2 [97] = (d3, j3, 0)
  a4 : commitP d3 j3 = (d4, j4, 0)
  a5 : appendP d4 j4 [98] = (d5, j5, 0)
  cr : d5.crash 0 (-1) 0 = d6
  o6 : openP d6 3 10 = some (j6, [116], [[97]])
  e6 : j6.epoch = 2
  q6 : j6.seq = 1
  p6 : j6.place = 1
  l6 : j6.log = 10
  u6 : j6.used = 1
theorem bytes1 (x : Int) (h : 0 ≤ x ∧ x ≤ 255) : ∀ y ∈ [x], 0 ≤ y ∧ y ≤ 255 := fun y hy => by rw [List.mem_singleton.1 hy]; exact h
set_option maxRecDepth 100000 in
set_option maxHeartbeats 8000000 in
theorem awake_walk {d0 d1 d2 d3 d4 d5 d6 : DS} {j1 j2 j3 j4 j5 j6 : JS} (hA : Aw16 d0 d1 d2 d3 d4 d5 d6 j1 j2 j3 j4 j5 j6) (c0 : ∀ w, Calls Tryz.prog 4 #[.int .i64 30] w (GivesDisk w d0)) (w0 : World) :
    Calls Tryz.prog 12 #[] w0 fun e w' => e = .returned (.bool true) ∧ Ext0 w0 w' := by
  have H : SH (fun _ => False) w0 w0 [] := SH.nil _ _
  have hfmt := fun {b bs bm : Nat} {w : World} {v : Value} (hD : (DiskA b bs bm d0).says w) (hr : RdS (encInt .u8) 1 w v [115]) (hap : ∀ j, v.ownBlock = some j → ¬ (DiskA b bs bm d0).fp j) => format_any w hD hA.f0 (by omega) 3 10 hr (bytes1 115 (by omega)) hap
  unfold FormatE at hfmt
  rw [hA.fo] at hfmt
  have hop1 := fun {b bs bm : Nat} {w : World} (hD : (DiskA b bs bm d1).says w) => (open_any w hD hA.f1 3 10 hA.m1).mono (fun e w' h => opened_some (by rw [hA.o1] at h; exact h))
  have hap1 := fun {b bs bm jb : Nat} {w : World} {v : Value} (h : (JD b bs bm jb d1 j1).says w) (hr : RdS (encInt .u8) 1 w v [120]) => append_any w h hA.f1 (by omega) hA.k1 hr (bytes1 120 (by omega)) (by decide)
  have hck := fun {b bs bm jb : Nat} {w : World} {v : Value} (h : (JD b bs bm jb d1 j1).says w) (hr : RdS (encInt .u8) 1 w v [116]) => checkpoint_any w h hA.f1 (by omega) hA.k1 hr (bytes1 116 (by omega))
  have hap2 := fun {b bs bm jb : Nat} {w : World} {v : Value} (h : (JD b bs bm jb d2 j2).says w) (hr : RdS (encInt .u8) 1 w v [97]) => append_any w h hA.f2 (by omega) hA.k2 hr (bytes1 97 (by omega)) (by decide)
  have hcm := fun {b bs bm jb : Nat} {w : World} (h : (JD b bs bm jb d3 j3).says w) => commit_any w h hA.f3
  have hap4 := fun {b bs bm jb : Nat} {w : World} {v : Value} (h : (JD b bs bm jb d4 j4).says w) (hr : RdS (encInt .u8) 1 w v [98]) => append_any w h hA.f4 (by omega) hA.k4 hr (bytes1 98 (by omega)) (by decide)
  have hcr := fun {b bs bm : Nat} {w : World} (hD : (DiskA b bs bm d5).says w) => crash_on b bs bm d5 0 (-1) 0 w hD hA.f5.good
  have hop6 := fun {b bs bm : Nat} {w : World} (hD : (DiskA b bs bm d6).says w) => (open_any w hD hA.f6 3 10 hA.m6).mono (fun e w' h => opened_some (by rw [hA.o6] at h; exact h))
  unfold JE at hap1 hck hap2 hcm hap4
  rw [hA.a1] at hap1
  rw [hA.a2] at hck
  rw [hA.a3] at hap2
  rw [hA.a4] at hcm
  rw [hA.a5] at hap4
  rw [hA.cr] at hcr
  have hep := fun {b jb : Nat} {w : World} (h : w.heap[jb]? = some (.cells (jCells b j6) 76 (0, 0))) => epoch_any w h
  have hse := fun {b jb : Nat} {w : World} (h : w.heap[jb]? = some (.cells (jCells b j6) 76 (0, 0))) => seq_any w h
  have hpl := fun {b jb : Nat} {w : World} (h : w.heap[jb]? = some (.cells (jCells b j6) 76 (0, 0))) => jplace_any w h
  have hro := fun {b jb : Nat} {w : World} (h : w.heap[jb]? = some (.cells (jCells b j6) 76 (0, 0))) => room_any w h (by rw [hA.l6]; omega) (by rw [hA.l6, hA.u6]; omega)
  rw [hA.e6] at hep
  rw [hA.q6] at hse
  rw [hA.p6] at hpl
  rw [hA.l6, hA.u6] at hro
  have kc := fun (w : World) (C : Array Value) (n c : Nat) => Lib.run_convert_bytes_const (P := Tryz.prog) w 22 5 C n c Tryz.underlying22 Tryz.underlying5
  go_enter Tryz.func12, Tryz.ntmps12
  go_upto_region 2 with (first
    | (go_at_call 4; refine (c0 _).mono ?_; rintro e w ⟨b, bs, bm, rfl, h⟩; replace H := H.cat h; clear h; simp only [List.cons_append, List.nil_append] at H))
  go_upto_region 3 with (first
    | (go_at_call 6; replace H := H.alloc (.cells #[.int .u8 115] 5 (1, 2)); refine (hfmt (H.get 1 rfl) (one_byte (H.at_ 0 rfl)) (fun j hj hfp => by cases hj; exact H.sep 1 0 (by decide) rfl rfl _ hfp rfl)).mono ?_; rintro e1 w2 ⟨rfl, hE, hsay⟩; replace H := H.disk 1 rfl hE hsay; simp only [List.set_cons_zero, List.set_cons_succ] at H; clear hE hsay))
  replace H := H.drop (L' := [DiskA b bs bm d1]) (.cons _ (List.Sublist.refl _))
  clear hfmt
  go_upto_region 6 with (first
    | (go_at_call 9; refine (hop1 (H.get 0 rfl)).mono ?_; rintro e1 w3 ⟨jb, vs, vl, ps, rfl, hps, hS⟩; obtain ⟨Al, cl, rfl⟩ := own_slice (hS.get 1 rfl); replace H := H.opened hS; clear hS))
  obtain rfl : ps = [] := List.map_eq_nil_iff.1 hps
  clear hps hop1
  replace H := H.drop (L' := [_, _]) (.cons_cons _ (.cons _ (.cons _ (.cons_cons _ .slnil))))
  go_upto_region 7 with (first
    | (go_at_call 20; replace H := H.alloc (.cells #[.int .u8 120] 5 (1, 2)); refine (hap1 (H.get 1 rfl) (one_byte (H.at_ 0 rfl))).mono ?_; rintro e1 w2 ⟨rfl, hE, hsay⟩; replace H := H.jd 1 rfl hE hsay; simp only [List.set_cons_zero, List.set_cons_succ] at H; clear hE hsay))
  replace H := H.drop (L' := [_, _]) (.cons _ (List.Sublist.refl _))
  clear hap1
  go_upto_region 8 with (first
    | (go_at_call 18; replace H := H.alloc (.cells #[.int .u8 116] 5 (1, 2)); refine (hck (H.get 1 rfl) (one_byte (H.at_ 0 rfl))).mono ?_; rintro e1 w2 ⟨rfl, hE, hsay⟩; replace H := H.jd 1 rfl hE hsay; simp only [List.set_cons_zero, List.set_cons_succ] at H; clear hE hsay; replace H := H.drop (L' := [_, _]) (.cons _ (List.Sublist.refl _)))
    | (go_at_call 20; replace H := H.alloc (.cells #[.int .u8 97] 5 (1, 2)); refine (hap2 (H.get 1 rfl) (one_byte (H.at_ 0 rfl))).mono ?_; rintro e1 w2 ⟨rfl, hE, hsay⟩; replace H := H.jd 1 rfl hE hsay; simp only [List.set_cons_zero, List.set_cons_succ] at H; clear hE hsay; replace H := H.drop (L' := [_, _]) (.cons _ (List.Sublist.refl _)))
    | (go_at_call 16; refine (hcm (H.get 0 rfl)).mono ?_; rintro e1 w2 ⟨rfl, hE, hsay⟩; replace H := H.jd 0 rfl hE hsay; simp only [List.set_cons_zero, List.set_cons_succ] at H; clear hE hsay))
  clear hck hap2 hcm
  go_upto_region 10 with (first
    | (go_at_call 20; replace H := H.alloc (.cells #[.int .u8 98] 5 (1, 2)); refine (hap4 (H.get 1 rfl) (one_byte (H.at_ 0 rfl))).mono ?_; rintro e1 w2 ⟨rfl, hE, hsay⟩; replace H := H.jd 1 rfl hE hsay; simp only [List.set_cons_zero, List.set_cons_succ] at H; clear hE hsay; replace H := H.drop (L' := [_, _]) (.cons _ (List.Sublist.refl _)))
    | (go_at_call 13; refine (hcr (H.get 0 rfl).1).mono ?_; rintro e1 w2 ⟨rfl, hE, hsay⟩; replace H := H.jdisk hE hsay; clear hE hsay))
  clear hap4 hcr
  replace H := H.undisk
  go_upto_region 13 with (first
    | (go_at_call 9; refine (hop6 (H.get 0 rfl)).mono ?_; rintro e1 w3 ⟨jb2, vs2, vl2, ps2, rfl, hps2, hS⟩; obtain ⟨Al2, cl2, rfl⟩ := own_slice (hS.get 1 rfl); replace H := H.opened hS; clear hS))
  clear hop6
  obtain ⟨s1, hs1⟩ : ∃ s1, strOfNums [115] = s1 := ⟨_, rfl⟩
  have hs1e : s1 = ⟨#[115]⟩ := by rw [← hs1]; rfl
  obtain ⟨s2, hs2⟩ : ∃ s2, strOfNums [116] = s2 := ⟨_, rfl⟩
  have hs2e : s2 = ⟨#[116]⟩ := by rw [← hs2]; rfl
  subst hs1e hs2e
  have hv1 := fun {w : World} (h : (rdA vs [115]).says w) => (run_string (src := 22) (dst := 9) h Tryz.underlying22 Tryz.underlying5 Tryz.underlying9)
  have hv2 := fun {w : World} (h : (rdA vs2 [116]).says w) => (run_string (src := 22) (dst := 9) h Tryz.underlying22 Tryz.underlying5 Tryz.underlying9)
  rw [hs1] at hv1
  rw [hs2] at hv2
  have hlen2 : ps2.length = 1 := by have := congrArg List.length hps2; simpa using this
  have hb2 : ∀ p ∈ ps2, ∀ x ∈ p.2, 0 ≤ x ∧ x ≤ 255 := fun p hp => by
    have : p.2 ∈ ps2.map (·.2) := List.mem_map_of_mem hp
    rw [hps2] at this
    rw [List.mem_singleton.1 this]
    exact bytes1 97 (by omega)
  have hsame := fun {w : World} {v : Value} {t : Option Addr × Nat × Nat} (h1 : RdS encSl 1 w (.slice Al2 ps2.length cl2) (ps2.map (·.1))) (h2 : RdS encSl 1 w v [t]) (h3 : (rowsA ps2).says w) (h4 : RdS (encInt .u8) 1 w (slV t) [97]) =>
    rows_same (.slice Al2 ps2.length cl2) v ps2 [(t, [97])] w h1 h2 h3 (fun p hp => by rw [List.mem_singleton.1 hp]; exact h4) hb2 (fun p hp => by rw [List.mem_singleton.1 hp]; exact bytes1 97 (by omega)) (by omega)
  rw [hps2] at hsame
  simp only [List.map_cons, List.map_nil, decide_true] at hsame
  have HP := Lib.hid (And.intro hps2 (And.intro hlen2 hb2))
  clear hs1 hs2 hps2 hlen2 hb2
  have hc1 := hv1 (H.get 4 rfl)
  have hc2 := hv2 (H.get 3 rfl)
  go_wp2_with (first
    | (go_at_call 11; replace H := (H.alloc (.cells #[.int .u8 97] 5 (1, 2))).alloc (.cells #[.slice (some ⟨w3.heap.size, 0, none⟩) 1 1] 22); have hpart := one_part (some ⟨w3.heap.size, 0, none⟩, 1, 1) (H.at_ 0 rfl); rw [show (w3.alloc (.cells #[.int .u8 97] 5 (1, 2))).heap.size = w3.heap.size + 1 by simp] at hpart; refine (hsame (RdS.own encSl_len (by simp) (H.get 4 rfl)) hpart (H.get 3 rfl) (one_byte (H.at_ 1 rfl))).mono ?_; rintro e1 w2 ⟨rfl, hE⟩; replace H := H.calls hE; clear hE)
    | (go_at_call 22; refine (hep (H.get 2 rfl).2.1).mono ?_; rintro e1 w2 ⟨rfl, hE⟩; replace H := H.calls hE; clear hE)
    | (go_at_call 23; refine (hse (H.get 2 rfl).2.1).mono ?_; rintro e1 w2 ⟨rfl, hE⟩; replace H := H.calls hE; clear hE)
    | (go_at_call 24; refine (hro (H.get 2 rfl).2.1).mono ?_; rintro e1 w2 ⟨rfl, hE⟩; replace H := H.calls hE; clear hE)
    | (go_at_call 25; refine (hpl (H.get 2 rfl).2.1).mono ?_; rintro e1 w2 ⟨rfl, hE⟩; replace H := H.calls hE; clear hE))
  go_ret
  exact ⟨rfl, H.ext⟩
end Go.Proofs.YtgmeahogdjhejaaGreatDoor

namespace Go.Proofs.YtgmeahogdjhejaaGreatDoor
set_option linter.unusedVariables false
set_option linter.unusedSimpArgs false
open Go.RowKit Go.Shelf

def wd0 : DS := DS.new 30
def wd1 : DS := (formatP wd0 3 10 [115]).1
def wj1 : JS := ⟨3, 10, 1, 0, 0, 0, false, false⟩
def wr2 := checkpointP wd1 wj1 [116]
def wr3 := appendP wr2.1 wr2.2.1 [97]
def wr4 := commitP wr3.1 wr3.2.1
def wr5 := appendP wr4.1 wr4.2.1 [98]
def wd6 : DS := wr5.1.crash 0 (-1) 0
theorem prod3 {α β γ : Type} (r : α × β × γ) {c : γ} (h : r.2.2 = c) : r = (r.1, r.2.1, c) := by rw [← h]
theorem aw16 : Aw16 wd0 wd1 wr2.1 wr3.1 wr4.1 wr5.1 wd6 wj1 wr2.2.1 wr3.2.1 wr4.2.1 wr5.2.1 ⟨3, 10, 2, 1, 1, 1, false, false⟩ := by
  have b := bytes1
  have f0 : wd0.Fine 0 := DS.Fine.new 30 (by omega)
  have l0 : wd0.sure.length = 30 := by kernel_rfl
  have f1 := format_fine f0 3 10 (b 115 (by omega))
  have l1 : wd1.sure.length = 30 := f1.2.trans l0
  have m1 : mayP wd1.sure.length 3 10 := by rw [l1]; exact ⟨by decide, by decide, by decide, by decide, by decide⟩
  have k1 : wj1.Ok wd1.sure.length := ⟨m1, ⟨by decide, by decide⟩, ⟨by decide, by decide⟩, by decide, by decide⟩
  have f2 : wr2.1.Fine _ ∧ wr2.1.sure.length = 30 ∧ wr2.2.1.Ok 30 := checkpoint_ok f1.1 l1 (l1 ▸ k1) (b 116 (by omega))
  have f3 : wr3.1.Fine _ ∧ wr3.1.sure.length = 30 ∧ wr3.2.1.Ok 30 := append_ok f2.1 f2.2.1 f2.2.2 (b 97 (by omega))
  have f4 : wr4.1.Fine _ ∧ wr4.1.sure.length = 30 ∧ wr4.2.1.Ok 30 := commit_ok f3.1 f3.2.1 f3.2.2
  have f5 : wr5.1.Fine _ ∧ wr5.1.sure.length = 30 ∧ wr5.2.1.Ok 30 := append_ok f4.1 f4.2.1 f4.2.2 (b 98 (by omega))
  have f6 : wd6.Fine _ := f5.1.crash 0 (-1) 0
  have l6 : wd6.sure.length = 30 := (crash_len _ _ _ _).trans f5.2.1
  have up : ∀ {d : DS} {W : Int}, d.Fine W → W ≤ 20000 → d.Fine 20000 := fun h hw => h.mono hw
  exact {
    f0 := up f0 (by omega)
    f1 := up f1.1 (by omega)
    f2 := up f2.1 (by omega)
    f3 := up f3.1 (by omega)
    f4 := up f4.1 (by omega)
    f5 := up f5.1 (by omega)
    f6 := up f6 (by omega)
    m1 := m1
    m6 := by rw [l6]; exact ⟨by decide, by decide, by decide, by decide, by decide⟩
    k1 := k1
    k2 := by rw [f2.2.1]; exact f2.2.2
    k3 := by rw [f3.2.1]; exact f3.2.2
    k4 := by rw [f4.2.1]; exact f4.2.2
    fo := Prod.ext rfl (show (formatP wd0 3 10 [115]).2 = 0 by kernel_rfl)
    o1 := by kernel_rfl
    a1 := rfl
    a2 := prod3 _ (show wr2.2.2 = 0 by kernel_rfl)
    a3 := prod3 _ (show wr3.2.2 = 0 by kernel_rfl)
    a4 := prod3 _ (show wr4.2.2 = 0 by kernel_rfl)
    a5 := prod3 _ (show wr5.2.2 = 0 by kernel_rfl)
    cr := rfl
    o6 := by kernel_rfl
    e6 := rfl
    q6 := rfl
    p6 := rfl
    l6 := rfl
    u6 := rfl }
theorem awake_any (w0 : World) : Calls Tryz.prog 12 #[] w0 fun e w' => e = .returned (.bool true) ∧ Ext0 w0 w' :=
  awake_walk aw16 (fun w => new_any 30 w) w0
end Go.Proofs.YtgmeahogdjhejaaGreatDoor
