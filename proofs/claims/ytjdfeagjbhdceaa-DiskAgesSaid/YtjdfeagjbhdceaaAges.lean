/- DiskAges: for every list of deeds: once all sectors were written and flushed, no sector is of an elder write again. For every input. -/
import Derived.Test.YtjdfeagjbhdceaaLaw14E
import Derived.Test.YtjdfeagjbhdceaaRows
import Derived.WalkKit
import Derived.ProofKit
import Derived.OpenShut
import Derived.ShutString
import Derived.ChangeOld
import Derived.Below
namespace Go.Proofs.Ytjdfeagjbhdceaa
set_option linter.unusedVariables false
set_option linter.unusedSimpArgs false
open Go.RowKit

theorem dwrite_row {b bs bm : Nat} {d d' : DS} {W : Int} {M : Nat → Prop} {w0 w : World} {L : List Asr} {g n : Nat} {xs : List Int} {T : TypeId} (H : SH M w0 w (pt g (.cells (bcells xs) T (0, 0)) :: DiskA b bs bm d :: L)) (hf : d.Fine W) (hW : W < 9223372036854775807) (i r : Int) (hx : xs.length = n) (hr : d.writeR i xs = (d', r)) :
    Calls Try.prog 27 #[.pointer (some ⟨b, 0, none⟩), .int .i64 i, .slice (some ⟨g, 0, none⟩) n n] w fun e w' => e = .returned (.int .i64 r) ∧ SH M w0 w' (DiskA b bs bm d' :: L) := by
  subst hx
  have := dwrite (H.get 1 rfl) hf hW i (bytesRd (H.at_ 0 rfl)) (ownSep H 0 1 (by omega) rfl rfl)
  rw [hr] at this
  exact this.mono fun e w' ⟨h1, h2, h3⟩ => ⟨h1, (H.disk 1 rfl h2 h3).drop (List.sublist_cons_self _ _)⟩

def ageStep (d : DS) (x : Deed) : DS := if x.kind % 6 = 0 then d.flushR.1 else if x.kind % 6 = 1 then d.crash x.keep x.at_ x.n else (d.writeR x.at_ x.bytes).1
theorem ageStep_fine {d : DS} {W : Int} (h : d.Fine W) {x : Deed} (hx : x.Ok) : (ageStep d x).Fine (W + 1) := by
  unfold ageStep
  split
  · exact h.flushR.mono (by omega)
  · split
    · exact (h.crash _ _ _).mono (by omega)
    · exact h.writeR (Deed.bytes_ok hx)
theorem ageStep_open {d : DS} (h : d.Open 9) (x : Deed) : (ageStep d x).Open 9 := by
  unfold ageStep
  split
  · exact h.flush
  · split
    · exact DS.Open.crash h.2 _ _ _
    · exact h.write _ _
theorem ageStep_young {n : Int} {d : DS} {W : Int} (h : Young n d) (ho : d.Open 9) (hf : d.Fine W) (x : Deed) : Young n (ageStep d x) := by
  unfold ageStep
  split
  · exact h.flush ho
  · split
    · exact h.crash hf _ _ _
    · exact h.write ho hf _ _
theorem fold_young {n : Int} : ∀ (xs : List Deed) (d : DS) (W : Int), Young n d → d.Open 9 → d.Fine W → (∀ x ∈ xs, x.Ok) → Young n (xs.foldl ageStep d)
  | [], _, _, h, _, _, _ => h
  | x :: xs, d, W, h, ho, hf, hx => fold_young xs (ageStep d x) (W + 1) (ageStep_young h ho hf x) (ageStep_open ho x) (ageStep_fine hf (hx x (by simp))) (fun y hy => hx y (by simp [hy]))

def AgeRel1 (b bs bm : Nat) (d : DS) (w0 : World) (vi : Value) (wr : World) : Prop :=
  ∃ k : Nat, vi = .int .i64 (k : Int) ∧ k ≤ 9 ∧ SH (fun _ => False) w0 wr [DiskA b bs bm (writeAll d k)]
def AgeRel2 (b bs bm : Nat) (d : DS) (xs : List Deed) (w0 : World) (vi : Value) (wr : World) : Prop :=
  ∃ k : Nat, vi = .int .i64 (k : Int) ∧ k ≤ xs.length ∧ k ≤ 40 ∧ SH (fun _ => False) w0 wr [DiskA b bs bm ((xs.take k).foldl ageStep d)]
def AgeRel3 (b bs bm : Nat) (d : DS) (w0 : World) (vi : Value) (wr : World) : Prop :=
  ∃ k : Nat, vi = .int .i64 (k : Int) ∧ k ≤ 9 ∧ SH (fun _ => False) w0 wr [DiskA b bs bm d]
theorem Deed.one_cells (d : Deed) : d.cells.toArray.all (·.oneCell') = true := by simp [Deed.cells, Value.oneCell']
theorem zero47 (w : World) : (zeroValue 47).run Try.prog w = .ok (Deed.val ⟨0, 0, 0, 0, 0⟩) w := by rw [Try.zeroValue47]; rfl

set_option maxRecDepth 100000 in
set_option maxHeartbeats 1000000 in
theorem ages_walk (v v2 : Value) (xs ys : List Deed) (w0 : World) (hr : RdS Deed.cells 5 w0 v xs) (hx : ∀ x ∈ xs, x.Ok) (hr2 : RdS Deed.cells 5 w0 v2 ys) (hy : ∀ x ∈ ys, x.Ok) : Calls Try.prog 8 #[v, v2] w0 fun e w' => e = .returned (.bool true) ∧ Ext0 w0 w' := by
  have hsome := some_any v xs w0 hr hx
  obtain ⟨A2, cap2, rfl, hcap⟩ := hr2.len
  have hD0 := someD_fine hx
  have hO0 := someD_open xs
  generalize someD xs = D0 at *
  have hyoung := writeAll_young hO0 hD0
  have hO1 := (writeAll_open hO0 9).flush
  have hF1 := (writeAll_fine hD0 9 (by omega)).flushR
  have hfl := DS.flushR_on (writeAll_open hO0 9).ne
  have hD1f := writeAll_fine hD0 9 (by omega)
  have H : SH (fun _ => False) w0 w0 [] := SH.nil _ _
  have HX := Lib.hid hx
  have HY := Lib.hid hy
  have HQ := Lib.hid (And.intro hyoung (And.intro hO1 (And.intro hF1 (And.intro hfl hD1f))))
  clear hx hy hr hyoung hO1 hF1 hfl hD1f
  go_enter Try.func8, Try.ntmps8
  go_wp2_with (first
    | (go_at_call 23; refine hsome.mono ?_; rintro e w ⟨b, bs, bm, rfl, h⟩; replace H := H.cat h; clear h; simp only [List.cons_append, List.nil_append] at H)
    | (go_at_call 31; refine (writes_any b bs bm D0 _ (H.get 0 rfl)).mono ?_; rintro e w ⟨rfl, rfl⟩))
  clear hsome
  go_loopw [7] (fun vi wr => AgeRel1 b bs bm D0 w0 vi wr) (fun vi _ => 9 - (intOf vi).toNat)
  case atStart => exact ⟨0, rfl, by omega, H⟩
  case round =>
    clear H
    obtain ⟨k, rfl, hk, H⟩ := hrel
    by_cases hkn : k < 9
    · have hmod : (k : Int) % 256 = k := by omega
      have hki : (k : Int) < 9 := by omega
      have hok := writeAll_ok hO0 hkn
      have hfk := writeAll_fine hD0 k (by omega)
      have hstep : (writeAll D0 k).writeR k (List.replicate 32 (k : Int)) = (writeAll D0 (k + 1), 0) := Prod.ext rfl hok
      obtain ⟨bytes, hb⟩ : ∃ bytes, List.replicate 32 (k : Int) = bytes := ⟨_, rfl⟩
      have hfull := full_row (k : Int) bytes hb
      have hlb : bytes.length = 32 := by rw [← hb]; simp
      rw [hb] at hstep
      have HS := Lib.hid (And.intro hstep (And.intro hfk (And.intro hfull hlb)))
      clear hstep hfk hfull hlb hb hok
      go_wp2_with (first
        | (go_at_call 32; refine (HS.out.2.2.1 _).mono ?_; rintro e w ⟨g, rfl, h⟩; replace H := H.cat h; clear h; simp only [List.cons_append, List.nil_append] at H)
        | (go_at_call 27; refine (dwrite_row H HS.out.2.1 (by omega) k 0 HS.out.2.2.2 HS.out.1).mono ?_; clear H; rintro e w ⟨rfl, H⟩))
      go_roundw
      case rel => exact ⟨k + 1, by go_num, by omega, H⟩
      case measure => simp [intOf]; omega
    · obtain rfl : k = 9 := by omega
      clear hO0 hD0
      have hyoung := HQ.out.1
      have hO1 := HQ.out.2.1
      have hF1 := HQ.out.2.2.1
      have hdf := fun {w : World} (h : (DiskA b bs bm (writeAll D0 9)).says w) => dflush h HQ.out.2.2.2.2
      rw [HQ.out.2.2.2.1] at hyoung hO1 hF1
      simp only [HQ.out.2.2.2.1] at hdf
      dsimp only at hyoung hO1 hF1
      generalize hW0 : writeAll D0 9 = D1 at *
      generalize D1.flush = D2 at *
      generalize D0.writes = N at *
      have HH := Lib.hid (And.intro hyoung (And.intro hO1 hF1))
      clear hyoung hO1 hF1 hW0
      go_wp2_with (first
        | (go_at_call 24; refine (hdf (H.get 0 rfl)).mono ?_; rintro e w ⟨rfl, h1, h2⟩; replace H := H.disk 0 rfl h1 h2; clear h1 h2; simp only [List.set_cons_zero] at H))
      clear hdf
      go_loopw [8] (fun vi wr => AgeRel2 b bs bm D2 ys w0 vi wr) (fun vi _ => ys.length - (intOf vi).toNat)
      case atStart => exact ⟨0, rfl, Nat.zero_le _, Nat.zero_le _, H⟩
      case round =>
        clear H
        obtain ⟨k, rfl, hk, hk40, H⟩ := hrel
        by_cases hkn : k < ys.length
        · by_cases hk4 : k < 40
          · have hxo := HY.out ys[k] (List.getElem_mem hkn)
            obtain ⟨hY, hO, hF⟩ := HH.out
            have htk : ∀ y ∈ ys.take k, y.Ok := fun y hy => HY.out y (List.mem_of_mem_take hy)
            have hfine : ((ys.take k).foldl ageStep D2).Fine 90 := (fold_fine ageStep_fine (ys.take k) D2 _ hF htk).mono (by rw [List.length_take]; omega)
            have hopen : ((ys.take k).foldl ageStep D2).Open 9 := fold_open (fun h x => ageStep_open h x) _ _ hO
            have hyng := fold_young (ys.take k) D2 _ hY hO hF htk
            have hstep := fold_take_succ (step := ageStep) hkn D2
            obtain ⟨bb, off, cs, T, fr, rfl, hb, hcs⟩ := hr2.cell hkn
            have HS := Lib.hid hstep
            clear hstep hY hO hF htk
            generalize (ys.take k).foldl ageStep D2 = d at *
            generalize ys[k] = x at *
            have hyD := ageStep_young hyng hopen hfine x
            have hoD := ageStep_open hopen x
            have hfD := ageStep_fine hfine hxo
            have hkd := hxo.kind.1
            have hk4i : ((k : Int) < 40) := by omega
            by_cases h0 : x.kind % 6 = 0
            · have hst : ageStep d x = d.flushR.1 := by unfold ageStep; rw [if_pos h0]
              rw [hst] at HS hyD hoD hfD
              generalize hdd : d.flushR.1 = dd at *
              have hfc := fun {w : World} (h : (DiskA b bs bm d).says w) => dflush h hfine
              rw [hdd] at hfc
              have hb0 : (x.kind % 6 == 0) = true := by simp [h0]
              clear hst hr2 hdd h0
              go_wp2_with (first | (refine L_alloc rfl rfl H zero47 ?_; clear H; intro g w H; (try simp only [Act.put, List.setIfInBounds_toArray, List.set_cons_succ, List.set_cons_zero, List.getElem_toArray, List.getElem_cons_succ, List.getElem_cons_zero])) | (refine L_load1 rfl rfl H 0 rfl rfl rfl Try.isAgg5 ?_; (try simp only [Act.put, List.setIfInBounds_toArray, List.set_cons_succ, List.set_cons_zero, List.getElem_toArray, List.getElem_cons_succ, List.getElem_cons_zero])) | (refine L_load1 rfl rfl H 1 rfl rfl rfl Try.isAgg5 ?_; (try simp only [Act.put, List.setIfInBounds_toArray, List.set_cons_succ, List.set_cons_zero, List.getElem_toArray, List.getElem_cons_succ, List.getElem_cons_zero])) | (refine L_load1 rfl rfl H 0 rfl rfl rfl Try.isAgg3 ?_; (try simp only [Act.put, List.setIfInBounds_toArray, List.set_cons_succ, List.set_cons_zero, List.getElem_toArray, List.getElem_cons_succ, List.getElem_cons_zero])) | (refine L_load1 rfl rfl H 1 rfl rfl rfl Try.isAgg3 ?_; (try simp only [Act.put, List.setIfInBounds_toArray, List.set_cons_succ, List.set_cons_zero, List.getElem_toArray, List.getElem_cons_succ, List.getElem_cons_zero])) | (refine L_storerow rfl rfl H 0 rfl rfl rfl info47 ?hn ?ho ?h1 ?_; (case hn => first | rfl | assumption); (case ho => first | rfl | assumption); (case h1 => first | assumption | exact Deed.one_cells _ | rfl); clear H; intro w H; simp only [List.set_cons_zero, List.set_cons_succ, List.setIfInBounds_toArray, Act.eval, Array.getD_eq_getD_getElem?, List.getElem?_toArray, List.getElem?_cons_succ, List.getElem?_cons_zero, Option.getD_some] at H; (try simp only [Act.put, List.setIfInBounds_toArray, List.set_cons_succ, List.set_cons_zero, List.getElem_toArray, List.getElem_cons_succ, List.getElem_cons_zero])) | (refine L_storerow rfl rfl H 1 rfl rfl rfl info47 ?hn ?ho ?h1 ?_; (case hn => first | rfl | assumption); (case ho => first | rfl | assumption); (case h1 => first | assumption | exact Deed.one_cells _ | rfl); clear H; intro w H; simp only [List.set_cons_zero, List.set_cons_succ, List.setIfInBounds_toArray, Act.eval, Array.getD_eq_getD_getElem?, List.getElem?_toArray, List.getElem?_cons_succ, List.getElem?_cons_zero, Option.getD_some] at H; (try simp only [Act.put, List.setIfInBounds_toArray, List.set_cons_succ, List.set_cons_zero, List.getElem_toArray, List.getElem_cons_succ, List.getElem_cons_zero])) | (refine L_loadmidr rfl rfl H rfl hb (fun e => e) Try.underlying47 rfl info47 [.int .u8 x.kind, .int .i64 x.at_, .int .u8 x.c, .int .i64 x.n, .int .i64 x.keep] rfl ?hv ?_; (case hv => exact hcs)) | (go_at_call 24; refine (hfc (H.get 1 rfl)).mono ?_; rintro e w ⟨rfl, h1, h2⟩; replace H := (H.disk 1 rfl h1 h2).drop (List.sublist_cons_self _ _); clear h1 h2))
              go_loopw [10] (fun vj wr2 => AgeRel3 b bs bm dd w0 vj wr2) (fun vj _ => 9 - (intOf vj).toNat)
              case atStart => exact ⟨0, rfl, by omega, H⟩
              case round =>
                clear H
                obtain ⟨j, rfl, hj, H⟩ := hrel
                by_cases hjn : j < 9
                · have hji : (j : Int) < 9 := by omega
                  have hs := hyD.since hoD hjn
                  have hsc := fun {w : World} (h : (DiskA b bs bm dd).says w) => dsince h hfD j
                  have hwc := fun {w : World} (h : (DiskA b bs bm dd).says w) => writes_any b bs bm dd w h
                  generalize dd.sinceR j = S at *
                  generalize dd.writes = Wr at *
                  obtain ⟨hs1, hs2⟩ := hs
                  go_wp2_with (first | (go_at_call 33; refine (hsc (H.get 0 rfl)).mono ?_; rintro e w ⟨rfl, h⟩; replace H := H.calls h; clear h) | (go_at_call 31; refine (hwc (H.get 0 rfl)).mono ?_; rintro e w' ⟨rfl, rfl⟩))
                  go_roundw
                  case rel => exact ⟨j + 1, by go_num, by omega, H⟩
                  case measure => simp [intOf]; omega
                · obtain rfl : j = 9 := by omega
                  go_wp2_with fail
                  go_roundw
                  case rel => exact ⟨k + 1, by go_num, by omega, by omega, by rw [HS.out]; exact H⟩
                  case measure => simp [intOf]; omega
            · by_cases h1 : x.kind % 6 = 1
              · have hst : ageStep d x = d.crash x.keep x.at_ x.n := by unfold ageStep; rw [if_neg h0, if_pos h1]
                rw [hst] at HS hyD hoD hfD
                have hfc := fun {w : World} (h : (DiskA b bs bm d).says w) => crash_on b bs bm d x.keep x.at_ x.n w h hfine.good
                generalize hdd : d.crash x.keep x.at_ x.n = dd at *
                have hb0 : (x.kind % 6 == 0) = false := by simp [h0]
                have hb1 : (x.kind % 6 == 1) = true := by simp [h1]
                clear hst hr2 hdd h0 h1
                go_wp2_with (first | (refine L_alloc rfl rfl H zero47 ?_; clear H; intro g w H; (try simp only [Act.put, List.setIfInBounds_toArray, List.set_cons_succ, List.set_cons_zero, List.getElem_toArray, List.getElem_cons_succ, List.getElem_cons_zero])) | (refine L_load1 rfl rfl H 0 rfl rfl rfl Try.isAgg5 ?_; (try simp only [Act.put, List.setIfInBounds_toArray, List.set_cons_succ, List.set_cons_zero, List.getElem_toArray, List.getElem_cons_succ, List.getElem_cons_zero])) | (refine L_load1 rfl rfl H 1 rfl rfl rfl Try.isAgg5 ?_; (try simp only [Act.put, List.setIfInBounds_toArray, List.set_cons_succ, List.set_cons_zero, List.getElem_toArray, List.getElem_cons_succ, List.getElem_cons_zero])) | (refine L_load1 rfl rfl H 0 rfl rfl rfl Try.isAgg3 ?_; (try simp only [Act.put, List.setIfInBounds_toArray, List.set_cons_succ, List.set_cons_zero, List.getElem_toArray, List.getElem_cons_succ, List.getElem_cons_zero])) | (refine L_load1 rfl rfl H 1 rfl rfl rfl Try.isAgg3 ?_; (try simp only [Act.put, List.setIfInBounds_toArray, List.set_cons_succ, List.set_cons_zero, List.getElem_toArray, List.getElem_cons_succ, List.getElem_cons_zero])) | (refine L_storerow rfl rfl H 0 rfl rfl rfl info47 ?hn ?ho ?h1 ?_; (case hn => first | rfl | assumption); (case ho => first | rfl | assumption); (case h1 => first | assumption | exact Deed.one_cells _ | rfl); clear H; intro w H; simp only [List.set_cons_zero, List.set_cons_succ, List.setIfInBounds_toArray, Act.eval, Array.getD_eq_getD_getElem?, List.getElem?_toArray, List.getElem?_cons_succ, List.getElem?_cons_zero, Option.getD_some] at H; (try simp only [Act.put, List.setIfInBounds_toArray, List.set_cons_succ, List.set_cons_zero, List.getElem_toArray, List.getElem_cons_succ, List.getElem_cons_zero])) | (refine L_storerow rfl rfl H 1 rfl rfl rfl info47 ?hn ?ho ?h1 ?_; (case hn => first | rfl | assumption); (case ho => first | rfl | assumption); (case h1 => first | assumption | exact Deed.one_cells _ | rfl); clear H; intro w H; simp only [List.set_cons_zero, List.set_cons_succ, List.setIfInBounds_toArray, Act.eval, Array.getD_eq_getD_getElem?, List.getElem?_toArray, List.getElem?_cons_succ, List.getElem?_cons_zero, Option.getD_some] at H; (try simp only [Act.put, List.setIfInBounds_toArray, List.set_cons_succ, List.set_cons_zero, List.getElem_toArray, List.getElem_cons_succ, List.getElem_cons_zero])) | (refine L_loadmidr rfl rfl H rfl hb (fun e => e) Try.underlying47 rfl info47 [.int .u8 x.kind, .int .i64 x.at_, .int .u8 x.c, .int .i64 x.n, .int .i64 x.keep] rfl ?hv ?_; (case hv => exact hcs)) | (go_at_call 29; refine (hfc (H.get 1 rfl)).mono ?_; rintro e w ⟨rfl, h1, h2⟩; replace H := (H.disk 1 rfl h1 h2).drop (List.sublist_cons_self _ _); clear h1 h2))
                go_loopw [10] (fun vj wr2 => AgeRel3 b bs bm dd w0 vj wr2) (fun vj _ => 9 - (intOf vj).toNat)
                case atStart => exact ⟨0, rfl, by omega, H⟩
                case round =>
                  clear H
                  obtain ⟨j, rfl, hj, H⟩ := hrel
                  by_cases hjn : j < 9
                  · have hji : (j : Int) < 9 := by omega
                    have hs := hyD.since hoD hjn
                    have hsc := fun {w : World} (h : (DiskA b bs bm dd).says w) => dsince h hfD j
                    have hwc := fun {w : World} (h : (DiskA b bs bm dd).says w) => writes_any b bs bm dd w h
                    generalize dd.sinceR j = S at *
                    generalize dd.writes = Wr at *
                    obtain ⟨hs1, hs2⟩ := hs
                    go_wp2_with (first | (go_at_call 33; refine (hsc (H.get 0 rfl)).mono ?_; rintro e w ⟨rfl, h⟩; replace H := H.calls h; clear h) | (go_at_call 31; refine (hwc (H.get 0 rfl)).mono ?_; rintro e w' ⟨rfl, rfl⟩))
                    go_roundw
                    case rel => exact ⟨j + 1, by go_num, by omega, H⟩
                    case measure => simp [intOf]; omega
                  · obtain rfl : j = 9 := by omega
                    go_wp2_with fail
                    go_roundw
                    case rel => exact ⟨k + 1, by go_num, by omega, by omega, by rw [HS.out]; exact H⟩
                    case measure => simp [intOf]; omega
              · have hst : ageStep d x = (d.writeR x.at_ x.bytes).1 := by unfold ageStep; rw [if_neg h0, if_neg h1]
                rw [hst] at HS hyD hoD hfD
                obtain ⟨dd, r, hdd⟩ : ∃ dd r, d.writeR x.at_ x.bytes = (dd, r) := ⟨_, _, rfl⟩
                rw [hdd] at HS hyD hoD hfD
                dsimp only at HS hyD hoD hfD
                have hb0 : (x.kind % 6 == 0) = false := by simp [h0]
                have hb1 : (x.kind % 6 == 1) = false := by simp [h1]
                have HD := Lib.hid hdd
                clear hst hr2 hdd h0 h1
                go_wp2_with (first | (refine L_alloc rfl rfl H zero47 ?_; clear H; intro g w H; (try simp only [Act.put, List.setIfInBounds_toArray, List.set_cons_succ, List.set_cons_zero, List.getElem_toArray, List.getElem_cons_succ, List.getElem_cons_zero])) | (refine L_load1 rfl rfl H 0 rfl rfl rfl Try.isAgg5 ?_; (try simp only [Act.put, List.setIfInBounds_toArray, List.set_cons_succ, List.set_cons_zero, List.getElem_toArray, List.getElem_cons_succ, List.getElem_cons_zero])) | (refine L_load1 rfl rfl H 1 rfl rfl rfl Try.isAgg5 ?_; (try simp only [Act.put, List.setIfInBounds_toArray, List.set_cons_succ, List.set_cons_zero, List.getElem_toArray, List.getElem_cons_succ, List.getElem_cons_zero])) | (refine L_load1 rfl rfl H 0 rfl rfl rfl Try.isAgg3 ?_; (try simp only [Act.put, List.setIfInBounds_toArray, List.set_cons_succ, List.set_cons_zero, List.getElem_toArray, List.getElem_cons_succ, List.getElem_cons_zero])) | (refine L_load1 rfl rfl H 1 rfl rfl rfl Try.isAgg3 ?_; (try simp only [Act.put, List.setIfInBounds_toArray, List.set_cons_succ, List.set_cons_zero, List.getElem_toArray, List.getElem_cons_succ, List.getElem_cons_zero])) | (refine L_storerow rfl rfl H 0 rfl rfl rfl info47 ?hn ?ho ?h1 ?_; (case hn => first | rfl | assumption); (case ho => first | rfl | assumption); (case h1 => first | assumption | exact Deed.one_cells _ | rfl); clear H; intro w H; simp only [List.set_cons_zero, List.set_cons_succ, List.setIfInBounds_toArray, Act.eval, Array.getD_eq_getD_getElem?, List.getElem?_toArray, List.getElem?_cons_succ, List.getElem?_cons_zero, Option.getD_some] at H; (try simp only [Act.put, List.setIfInBounds_toArray, List.set_cons_succ, List.set_cons_zero, List.getElem_toArray, List.getElem_cons_succ, List.getElem_cons_zero])) | (refine L_storerow rfl rfl H 1 rfl rfl rfl info47 ?hn ?ho ?h1 ?_; (case hn => first | rfl | assumption); (case ho => first | rfl | assumption); (case h1 => first | assumption | exact Deed.one_cells _ | rfl); clear H; intro w H; simp only [List.set_cons_zero, List.set_cons_succ, List.setIfInBounds_toArray, Act.eval, Array.getD_eq_getD_getElem?, List.getElem?_toArray, List.getElem?_cons_succ, List.getElem?_cons_zero, Option.getD_some] at H; (try simp only [Act.put, List.setIfInBounds_toArray, List.set_cons_succ, List.set_cons_zero, List.getElem_toArray, List.getElem_cons_succ, List.getElem_cons_zero])) | (refine L_loadmidr rfl rfl H rfl hb (fun e => e) Try.underlying47 rfl info47 [.int .u8 x.kind, .int .i64 x.at_, .int .u8 x.c, .int .i64 x.n, .int .i64 x.keep] rfl ?hv ?_; (case hv => exact hcs)))
                have H1 := H.drop (L' := [_]) (List.Sublist.cons_cons _ (List.nil_sublist _))
                refine D_start H1 (by kernel_rfl) (fun hS => ?_)
                try simp only [Act.put, List.setIfInBounds_toArray, List.set_cons_succ, List.set_cons_zero]
                refine D_take 0 (v := ?_) rfl (by kernel_rfl) (by kernel_rfl) (by kernel_rfl) (fun _ _ _ h => h) rfl (by rfl) (fun W hS => ?_) hS ?_
                rotate_left; (focus (first | (go_simp; done) | (go_simp; with_reducible rfl) | (go_simp; rfl))); all_goals skip; simp only [List.set_cons_succ, List.set_cons_zero]
                refine D_take 1 (v := ?_) rfl (by kernel_rfl) (by kernel_rfl) (by kernel_rfl) (fun _ _ _ h => h) rfl (by rfl) (fun W hS => ?_) hS ?_
                rotate_left; (focus (first | (go_simp; done) | (go_simp; with_reducible rfl) | (go_simp; rfl))); all_goals skip; simp only [List.set_cons_succ, List.set_cons_zero]
                refine D_take 2 (v := ?_) rfl (by kernel_rfl) (by kernel_rfl) (by kernel_rfl) (fun _ _ _ h => h) rfl (by rfl) (fun W hS => ?_) hS ?_
                rotate_left; (focus (first | (refine R_load1 (ty := 3) (x := Operand.tmp 47) rfl hS 0 rfl rfl ?_ Try.isAgg3; rfl))); all_goals skip; simp only [List.set_cons_succ, List.set_cons_zero, List.getElem_toArray, List.getElem_cons_succ, List.getElem_cons_zero]
                refine D_take 3 (v := x.val) rfl (by kernel_rfl) (by kernel_rfl) (by kernel_rfl) (fun _ _ _ h => h) rfl (by rfl) (fun W hS => R_loadrow (ty := 47) (x := .tmp 9) rfl hS 0 rfl rfl Try.underlying47 rfl info47 rfl) hS ?_; simp only [List.set_cons_succ, List.set_cons_zero]
                refine D_one 4 rfl (by kernel_rfl) (by rfl) ?_
                refine R_call (f := 28) (args := #[x.val]) (by first | (go_simp; done) | (go_simp; rfl)) (wrote_any x hxo _) ?_
                clear hS
                rintro e w ⟨g2, rfl, h⟩
                have HW := H.drew.cat h
                simp only [List.cons_append, List.nil_append] at HW
                have hS := HW.drop (L' := [_]) (List.Sublist.cons _ (List.Sublist.cons_cons _ (List.nil_sublist _)))
                refine ⟨_, rfl, hS, ?_⟩
                try simp only [Act.put, List.getElem_toArray, List.getElem_cons_succ, List.getElem_cons_zero, List.setIfInBounds_toArray, List.set_cons_succ, List.set_cons_zero]
                refine D_one 5 rfl (by kernel_rfl) (by rfl) ?_
                refine R_call (f := 27) (args := #[.pointer (some ⟨b, 0, none⟩), .int .i64 x.at_, .slice (some ⟨g2, 0, none⟩) x.bytes.length x.bytes.length]) (by first | (go_simp; done) | (go_simp; rfl)) (dwrite (HW.get 2 rfl) hfine (by omega) x.at_ (bytesRd (HW.at_ 0 rfl)) (ownSep HW 0 2 (by omega) rfl rfl)) ?_
                rw [HD.out]
                clear hS
                rintro e w ⟨rfl, h1, h2⟩
                replace HW := HW.disk 2 rfl h1 h2
                have hS := HW.drop (L' := [_]) (List.Sublist.cons _ (List.Sublist.cons_cons _ (List.nil_sublist _)))
                refine ⟨_, rfl, hS, ?_⟩
                try simp only [Act.put, List.getElem_toArray, List.getElem_cons_succ, List.getElem_cons_zero, List.setIfInBounds_toArray, List.set_cons_succ, List.set_cons_zero]
                refine wpAnyH_done (by kernel_rfl) ?_ _
                clear H H1 hS h h1 h2
                have H := (HW.drop (List.sublist_cons_self _ _)).drop (List.sublist_cons_self _ _)
                clear HW
                go_wp2_with fail
                go_loopw [10] (fun vj wr2 => AgeRel3 b bs bm dd w0 vj wr2) (fun vj _ => 9 - (intOf vj).toNat)
                case atStart => exact ⟨0, rfl, by omega, H⟩
                case round =>
                  clear H
                  obtain ⟨j, rfl, hj, H⟩ := hrel
                  by_cases hjn : j < 9
                  · have hji : (j : Int) < 9 := by omega
                    have hs := hyD.since hoD hjn
                    have hsc := fun {w : World} (h : (DiskA b bs bm dd).says w) => dsince h hfD j
                    have hwc := fun {w : World} (h : (DiskA b bs bm dd).says w) => writes_any b bs bm dd w h
                    generalize dd.sinceR j = S at *
                    generalize dd.writes = Wr at *
                    obtain ⟨hs1, hs2⟩ := hs
                    go_wp2_with (first | (go_at_call 33; refine (hsc (H.get 0 rfl)).mono ?_; rintro e w ⟨rfl, h⟩; replace H := H.calls h; clear h) | (go_at_call 31; refine (hwc (H.get 0 rfl)).mono ?_; rintro e w' ⟨rfl, rfl⟩))
                    go_roundw
                    case rel => exact ⟨j + 1, by go_num, by omega, H⟩
                    case measure => simp [intOf]; omega
                  · obtain rfl : j = 9 := by omega
                    go_wp2_with fail
                    go_roundw
                    case rel => exact ⟨k + 1, by go_num, by omega, by omega, by rw [HS.out]; exact H⟩
                    case measure => simp [intOf]; omega
          · obtain rfl : k = 40 := by omega
            go_wp2_with (first | (go_at_call 30; refine (awake_any _).mono ?_; rintro e w ⟨rfl, h⟩; replace H := H.calls h; clear h))
            go_ret
            exact ⟨rfl, H.ext⟩
        · obtain rfl : k = ys.length := by omega
          go_wp2_with (first | (go_at_call 30; refine (awake_any _).mono ?_; rintro e w ⟨rfl, h⟩; replace H := H.calls h; clear h))
          go_ret
          exact ⟨rfl, H.ext⟩

theorem ages_row (w : World) (v : Value) (h1 : ∃ xs : List Deed, RdS Deed.cells 5 w v xs ∧ ∀ x ∈ xs, x.Ok) (v2 : Value) (h2 : ∃ xs : List Deed, RdS Deed.cells 5 w v2 xs ∧ ∀ x ∈ xs, x.Ok) : Calls Try.prog 8 #[v, v2] w fun e w' => e = .returned (.bool true) ∧ Below w.heap.size w w' := by
  obtain ⟨xs, hr, hx⟩ := h1
  obtain ⟨ys, hr2, hy⟩ := h2
  exact (ages_walk v v2 xs ys w hr hx hr2 hy).mono fun _ _ h => ⟨h.1, h.2.below⟩
section
open Go.ChangeShapes Go.WideShapes Go.ChangeAt Go.RowKit
open Go.ChangeMaps (open_string shut_string)
theorem diskAges_own : ownKnob Try.prog.godebug = none := by kernel_rfl
theorem diskAges_laidOut : laidOutB Try.prog = true := by kernel_rfl
set_option maxRecDepth 100000 in
theorem diskAges_lifted (os : Os) (started : os.Started) (H : Type) (enc : TypeId × Value → H) :
    ReturnsInHanded {} Try.checked os 8 .any (Rows.diskAgesSpec.pre6 enc Try.prog Try.f8 Rows.diskAgesRow.domain false) (Rows.diskAgesSpec.post enc Try.prog Try.f8 false true false false) := by
  refine returnsInHanded_of_change (C := Try.checked) diskAges_own started (by kernel_rfl) Try.func8
    (ChangeSpec.witness6 (enc := enc) (C := Try.checked) false ⟨#[], #[.slice none 0 0, .slice none 0 0], []⟩ 8 (by kernel_rfl) (by kernel_rfl) (by kernel_rfl) (by kernel_rfl)) ?_
  intro W base args ds gs before hval0 hW hcnd _
  have hval : ∀ (j : Nat) t v, Try.f8.params[j]? = some t → args[j]? = some v → Value.okWide Try.prog W .any base t v := hval0
  have hW' := hW
  obtain ⟨p, q, hA0, hV, rfl, hfz, hnd⟩ := hW
  have hA : DataW.TrodAll enc Try.prog W 0 (fun _ => true) true Try.f8.params.toList args.toList ds p := hA0
  rw [Try.params8] at hA hval
  obtain ⟨v0, vs0, d0, ds0, p0, q0, hargs, rfl, rfl, h0, r0⟩ := trodAll_cons hA
  obtain ⟨v1, vs1, d1, ds1, p1, q1, rfl, rfl, rfl, h1, r1⟩ := trodAll_cons r0
  obtain ⟨rfl, rfl, rfl⟩ := trodAll_nil r1
  obtain rfl : args = #[v0, v1] := by cases args; simp_all
  obtain ⟨rfl, rfl⟩ := trodVars_none hV
  have k0 := h0
  have lt0 : ∀ x ∈ p0, x.block < W.heap.size := by obtain ⟨m, hm⟩ := k0; exact DataW.trod_lt m _ _ _ hm
  have w0 := deeds_of (hval 0 37 v0 rfl rfl) h0
  have k1 := h1
  have lt1 : ∀ x ∈ p1, x.block < W.heap.size := by obtain ⟨m, hm⟩ := k1; exact DataW.trod_lt m _ _ _ hm
  have w1 := deeds_of (hval 1 37 v1 rfl rfl) h1
  clear hA0 hval0
  refine (ages_row W v0 w0 v1 w1).mono fun e W' ⟨he, bel⟩ => ?_
  subst he
  exact ⟨_, rfl, _, _, _, [], _, [], hW', trodAll_mk1 (shut_bool Try.underlying4 _), (trodAll_cons_mk (Below.trod diskAges_laidOut (by kernel_rfl) (of_decide_eq_true (by kernel_rfl)) k0 bel lt0) (trodAll_cons_mk (Below.trod diskAges_laidOut (by kernel_rfl) (of_decide_eq_true (by kernel_rfl)) k1 bel lt1) trodAll_mk0)), rfl, bel.frame _, fun h => by cases h⟩
theorem diskAges_over : Rows.diskAgesRow.holds Try.pinned (OpenSpec.ofChange Rows.diskAgesSpec) :=
  OpenClaim.holds_of_wide 8 Try.f8 rfl rfl rfl rfl rfl rfl rfl ⟨rfl, rfl, rfl, rfl, rfl⟩ rfl rfl rfl rfl rfl (by kernel_rfl) Try.func8 (by kernel_rfl)
    (of_decide_eq_true (by kernel_rfl)) (by unfold Func.isWrapper; first | (rw [if_pos (by decide +kernel)]; kernel_rfl) | (rw [if_neg (by decide +kernel)]; exact ⟨rfl, rfl⟩))
    (fun os started H enc _ => diskAges_lifted os started H enc)
/-- THE STATEMENT. -/
theorem diskAges_holds : Rows.DiskAgesSaid := diskAges_over
#print axioms diskAges_holds
end
end Go.Proofs.Ytjdfeagjbhdceaa
