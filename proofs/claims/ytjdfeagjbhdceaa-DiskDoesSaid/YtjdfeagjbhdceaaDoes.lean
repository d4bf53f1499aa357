/- DiskDoes: a disk agrees with the document's for any size and any sequence of calls. For every input. -/
import Derived.Test.YtjdfeagjbhdceaaRefJ
import Derived.Test.YtjdfeagjbhdceaaLaw14C
import Derived.Test.YtjdfeagjbhdceaaRows
import Derived.Deep.RegionWith
import Derived.Deep.CutRange
import Derived.Deep.CutBlock
import Derived.Deep.LoopGhost
import Derived.WalkKit
import Derived.ProofKit
import Derived.OpenShut
import Derived.ShutString
import Derived.ChangeOld
import Derived.Below
namespace Go.Proofs.Ytjdfeagjbhdceaa
set_option linter.unusedVariables false
set_option linter.unusedSimpArgs false
open Go.RowKit

def DoesRel (br b bs bm : Nat) (d0 : DS) (xs : List Deed) (w0 : World) (g : Nat) (vi : Value) (wr : World) : Prop :=
  ∃ (k : Nat) (S : Nat → Prop), vi = .int .i64 (k : Int) ∧ k + g = min xs.length 50 ∧ SH (fun _ => False) w0 wr [RefA br S (doesD d0 (xs.take k)), DiskA b bs bm (doesD d0 (xs.take k))]
def Does2 (n : Nat) (L : List Asr) (w0 : World) (g : Nat) (vi : Value) (wr : World) : Prop :=
  ∃ k : Nat, vi = .int .i64 (k : Int) ∧ k + g = n ∧ SH (fun _ => False) w0 wr L

set_option maxRecDepth 100000 in
set_option maxHeartbeats 4000000 in
theorem does_walk (sectors : Int) (v : Value) (xs : List Deed) (w0 : World) (hr : RdS Deed.cells 5 w0 v xs) (hx : ∀ x ∈ xs, x.Ok) :
    Calls Try.prog 9 #[.int .i64 sectors, v] w0 fun e w' => e = .returned (.bool true) ∧ Ext0 w0 w' := by
  obtain ⟨size, hsize⟩ : ∃ size : Int, (if 30 < sectors ∧ sectors < 4090 then 30 else sectors) = size := ⟨_, rfl⟩
  have HZ := Lib.hid hsize
  clear hsize
  have HX := Lib.hid hx
  obtain ⟨A, cap, rfl, hcap⟩ := hr.len
  clear hx
  go_enter Try.func9, Try.ntmps9
  go_upto_region 2 with fail
  go_cut [23] from 18 to 22 (fun s23 wc => s23 = .bool (decide (30 < sectors ∧ sectors < 4090)) ∧ w0 = wc)
  case first =>
    clear HZ
    by_cases h1 : 30 < sectors
    · by_cases h2 : sectors < 4090
      · go_wp2
        go_meet
        case rel => exact ⟨by rw [decide_eq_true (And.intro h1 h2)], rfl⟩
      · have hq : decide (30 < sectors ∧ sectors < 4090) = false := by simp [h2]
        go_wp2
        go_meet
        case rel => exact ⟨by simp; omega, rfl⟩
    · have hq : decide (30 < sectors ∧ sectors < 4090) = false := by simp [h1]
      go_wp2
      go_meet
      case rel => exact ⟨by simp; omega, rfl⟩
  case rest =>
  obtain ⟨rfl, hw⟩ := hcut
  subst hw
  go_upto_if 23 with fail
  go_cut [5] from 18 to 23 (fun s5 wc => s5 = .int .i64 size ∧ w0 = wc)
  case first =>
    by_cases hq : 30 < sectors ∧ sectors < 4090
    · rw [if_pos hq] at HZ
      rw [decide_eq_true hq]
      clear hq
      go_wp2
      go_meet
      case rel => exact ⟨by rw [← HZ.out], rfl⟩
    · rw [if_neg hq] at HZ
      rw [decide_eq_false hq]
      clear hq
      go_wp2
      go_meet
      case rel => exact ⟨by rw [← HZ.out], rfl⟩
  case rest =>
    obtain ⟨rfl, hw⟩ := hcut
    subst hw
    clear HZ
    obtain ⟨n, hn⟩ : ∃ n, min size.toNat 4096 = n := ⟨_, rfl⟩
    have hn4 : n ≤ 4096 := by omega
    have hnew := fun {w : World} => new_any size w
    rw [hn] at hnew
    have hrnew := fun {w : World} => refNew_at size n hn4 hn.symm w
    clear hn
    have hF0 := DS.Fine.new n hn4
    have hdl : (DS.new n).sure.length = n := by simp [DS.new]
    have hok := fun {r : RM} (h : r.OkN n) => h.ok
    generalize DS.new n = d0 at *
    have H : SH (fun _ => False) w0 w0 [] := SH.nil _ _
    go_upto_region 5 with (first
      | (go_at_call 34; refine hnew.mono ?_; rintro e w ⟨b, bs, bm, rfl, h⟩; replace H := H.cat h; clear h; simp only [List.cons_append, List.nil_append] at H)
      | (go_at_call 35; refine hrnew.mono ?_; rintro e w ⟨br, r, rfl, hro, h⟩; replace H := H.cat h; clear h))
    clear hnew hrnew
    replace hro := hok hro
    clear hok
    have hgl : r.gs.length = n := by rw [hro.gl, hdl]
    have hrow := H.get 1 (A := ownA 48 1 r.v1 r.gs.length r.gs) rfl
    obtain ⟨A1, c1, hv1⟩ := row_len hrow
    rw [hgl] at hv1
    obtain ⟨v1, v2, v3, v4, v5, gs, ss, age, old, wet, f, m, bv⟩ := r
    simp only at hv1 hgl
    subst hv1
    simp only [RM.L, RM.cells, List.cons_append, List.nil_append] at H
    have hsz := fun {w : World} (h : (DiskA b bs bm d0).says w) => size_any b bs bm d0 w h
    rw [hdl] at hsz
    have HR := Lib.hid hro
    clear hro hrow
    refine D_start H (by kernel_rfl) (fun hS => ?_)
    try simp only [Act.put, List.setIfInBounds_toArray, List.set_cons_succ, List.set_cons_zero]
    refine D_take 0 (v := ?_) rfl (by kernel_rfl) (by kernel_rfl) (by kernel_rfl) (fun _ _ _ h => h) rfl (by rfl) (fun W hS => ?_) hS ?_
    rotate_left; (focus (first | (go_simp; done) | (go_simp; with_reducible rfl) | (go_simp; rfl))); all_goals skip; (try simp only [List.set_cons_succ, List.set_cons_zero])
    refine D_take 2 (v := ?_) rfl (by kernel_rfl) (by kernel_rfl) (by kernel_rfl) (fun _ _ _ h => h) rfl (by rfl) (fun W hS => ?_) hS ?_
    rotate_left; (focus (first | (go_simp; done) | (go_simp; with_reducible rfl) | (go_simp; rfl))); all_goals skip; (try simp only [List.set_cons_succ, List.set_cons_zero])
    refine D_take 3 (v := ?_) rfl (by kernel_rfl) (by kernel_rfl) (by kernel_rfl) (fun _ _ _ h => h) rfl (by rfl) (fun W hS => ?_) hS ?_
    rotate_left; (focus (first | (go_simp; done) | (go_simp; with_reducible rfl) | (go_simp; rfl))); all_goals skip; (try simp only [List.set_cons_succ, List.set_cons_zero])
    refine D_take 4 (v := ?_) rfl (by kernel_rfl) (by kernel_rfl) (by kernel_rfl) (fun _ _ _ h => h) rfl (by rfl) (fun W hS => ?_) hS ?_
    rotate_left; (focus (first | (go_simp; done) | (go_simp; with_reducible rfl) | (go_simp; rfl))); all_goals skip; (try simp only [List.set_cons_succ, List.set_cons_zero])
    refine D_take 5 (v := ?_) rfl (by kernel_rfl) (by kernel_rfl) (by kernel_rfl) (fun _ _ _ h => h) rfl (by rfl) (fun W hS => ?_) hS ?_
    rotate_left; (focus (first | (refine R_load1 (ty := 59) (x := Operand.tmp 32) rfl hS 0 rfl rfl ?_ Try.isAgg59; rfl))); all_goals skip; (try simp only [List.set_cons_succ, List.set_cons_zero, List.getElem_toArray, List.getElem_cons_succ, List.getElem_cons_zero])
    refine D_take 6 (v := ?_) rfl (by kernel_rfl) (by kernel_rfl) (by kernel_rfl) (fun _ _ _ h => h) rfl (by rfl) (fun W hS => ?_) hS ?_
    rotate_left; (focus (first | (go_simp; done) | (go_simp; with_reducible rfl) | (go_simp; rfl))); all_goals skip; (try simp only [List.set_cons_succ, List.set_cons_zero])
    refine D_one 1 rfl (by kernel_rfl) (by rfl) ?_
    refine R_call (f := 36) (args := #[.pointer (some ⟨b, 0, none⟩)]) (by first | (go_simp; done) | (go_simp; rfl)) (hsz (hS.get 7 rfl)) ?_
    rintro e w2 ⟨rfl, rfl⟩
    refine ⟨_, rfl, hS, ?_⟩
    try simp only [Act.put, List.getElem_toArray, List.getElem_cons_succ, List.getElem_cons_zero, List.setIfInBounds_toArray, List.set_cons_succ, List.set_cons_zero]
    refine D_take 7 (v := ?_) rfl (by kernel_rfl) (by kernel_rfl) (by kernel_rfl) (fun _ _ _ h => h) rfl (by rfl) (fun W hS => ?_) hS ?_
    rotate_left; (focus (first | (go_simp; done) | (go_simp; with_reducible rfl) | (go_simp; rfl))); all_goals skip; (try simp only [List.set_cons_succ, List.set_cons_zero])
    refine wpAnyH_done (by kernel_rfl) ?_ _
    clear hsz H
    obtain ⟨S0, H⟩ := SH.shutRef (b := br) (r := ⟨.slice A1 n c1, v2, v3, v4, v5, gs, ss, age, old, wet, f, m, bv⟩) (L := [_]) hS HR.out
    clear hS HR hgl
    go_wp2_with fail
    go_loopg [8] (min xs.length 50) (fun g vi wr => DoesRel br b bs bm d0 xs w0 g vi wr)
    case atStart => exact ⟨0, S0, rfl, by omega, H⟩
    case round =>
      clear H S0
      obtain ⟨k, S, rfl, hk, H⟩ := hrel
      have htk : ∀ y ∈ xs.take k, y.Ok := fun y hy => HX.out y (List.mem_of_mem_take hy)
      have hfine : (doesD d0 (xs.take k)).Fine 60 := (fold_fine doesStep_fine (xs.take k) d0 0 hF0 htk).mono (by rw [List.length_take]; omega)
      have hlen : (doesD d0 (xs.take k)).sure.length = n := by rw [doesD_len _ _ 0 hF0 htk, hdl]
      clear htk
      by_cases hkn : k < xs.length ∧ k < 50
      · obtain ⟨hkn, hk5⟩ := hkn
        have hxo := HX.out xs[k] (List.getElem_mem hkn)
        have hstep : doesD d0 (xs.take (k + 1)) = doesStep (doesD d0 (xs.take k)) xs[k] := fold_take_succ (step := doesStep) hkn d0
        obtain ⟨bb, off, cs, T, fr, rfl, hb, hcs⟩ := hr.cell hkn
        have HS := Lib.hid hstep
        clear hstep hr
        generalize doesD d0 (xs.take k) = d at *
        generalize xs[k] = x at *
        have hk5i : ((k : Int) < 50) := by omega
        have hki : ((k : Int) < xs.length) := by omega
        have hfine2 := doesStep_fine hfine hxo
        have hlen2 := doesStep_len hfine x
        rw [hlen] at hlen2
        obtain ⟨d2, hd2⟩ : ∃ d2, doesStep d x = d2 := ⟨_, rfl⟩
        rw [hd2] at hfine2 hlen2 HS
        have HD := Lib.hid hd2
        have HF := Lib.hid (And.intro hfine (And.intro hxo hlen))
        have HF2 := Lib.hid (And.intro hfine2 hlen2)
        clear hd2 hfine hfine2 hlen hlen2
        have hcs5 : ∀ j, j < 5 → cs[off + k * 5 + j]? = [Value.int .u8 x.kind, .int .i64 x.at_, .int .u8 x.c, .int .i64 x.n, .int .i64 x.keep][j]? := fun j hj => hcs j hj
        clear hcs
        have hkd := hxo.kind.1
        go_upto_block 2 with (first
          | (refine L_loadmidr rfl rfl H rfl hb (fun e => e) Try.underlying47 rfl info47 [Value.int .u8 x.kind, .int .i64 x.at_, .int .u8 x.c, .int .i64 x.n, .int .i64 x.keep] rfl hcs5 ?_; (try simp only [Act.put, List.setIfInBounds_toArray, List.set_cons_succ, List.set_cons_zero, List.getElem_toArray, List.getElem_cons_succ, List.getElem_cons_zero]))
          | fail)
        clear hb hcs5
        replace H := H.alloc (.cells #[.int .u8 x.kind, .int .i64 x.at_, .int .u8 x.c, .int .i64 x.n, .int .i64 x.keep] 47)
        generalize wr.heap.size = g at *
        generalize wr.alloc (.cells #[.int .u8 x.kind, .int .i64 x.at_, .int .u8 x.c, .int .i64 x.n, .int .i64 x.keep] 47) = wA at *
        go_cut [] from 36 to 152 (fun wc => ∃ S2 : Nat → Prop, SH (fun _ => False) w0 wc [pt g (.cells #[.int .u8 x.kind, .int .i64 x.at_, .int .u8 x.c, .int .i64 x.n, .int .i64 x.keep] 47 (0, 0)), RefA br S2 d2, DiskA b bs bm d2])
        case first =>
          clear HS HF2 hk hki hk5 hk5i
          by_cases h0 : x.kind % 8 = 0
          · have hb0 : (x.kind % 8 == 0) = true := by simp [h0]
            have hd2 : d.flushR.1 = d2 := by rw [← HD.out]; unfold doesStep; rw [if_pos h0]
            obtain ⟨d', r, hres⟩ : ∃ d' r, d.flushR = (d', r) := ⟨_, _, rfl⟩
            have hc1 := fun {w : World} (h : (DiskA b bs bm d).says w) => dflush h HF.out.1
            have hc2 := fun {S : Nat → Prop} {w : World} (h : (RefA br S d).says w) => refFlush_any h HF.out.1
            rw [hres] at hc1 hc2 hd2
            dsimp only at hc1 hc2 hd2
            subst hd2
            clear hres h0 HD
            go_wp2_with (first
              | (go_at_call 24; refine (hc1 (H.get 2 rfl)).mono ?_; rintro e w ⟨rfl, h1, h2⟩; replace H := H.disk 2 rfl h1 h2; clear h1 h2; simp only [List.set_cons_succ, List.set_cons_zero] at H)
              | (go_at_call 37; refine (hc2 (H.get 1 rfl)).mono ?_; rintro e w ⟨rfl, h1, h2⟩; replace H := H.ref 1 rfl h1 h2; clear h1 h2; simp only [List.set_cons_succ, List.set_cons_zero] at H))
            go_meet
            case rel => exact ⟨_, H⟩
          · have hb0 : (x.kind % 8 == 0) = false := by simp [h0]
            by_cases h1 : x.kind % 8 = 1
            · have hb1 : (x.kind % 8 == 1) = true := by simp [h1]
              have hd2 : d.crash x.keep x.at_ x.n = d2 := by rw [← HD.out]; unfold doesStep; rw [if_neg h0, if_pos h1]
              have hc1 := fun {w : World} (h : (DiskA b bs bm d).says w) => crash_on b bs bm d x.keep x.at_ x.n w h HF.out.1.good
              have hc2 := fun {S : Nat → Prop} {w : World} (h : (RefA br S d).says w) => refCrash_any h HF.out.1 x.keep x.at_ x.n
              rw [hd2] at hc1 hc2
              clear h0 h1 HD hd2
              go_wp2_with (first
                | (go_at_call 29; refine (hc1 (H.get 2 rfl)).mono ?_; rintro e w ⟨rfl, h1, h2⟩; replace H := H.disk 2 rfl h1 h2; clear h1 h2; simp only [List.set_cons_succ, List.set_cons_zero] at H)
                | (go_at_call 38; refine (hc2 (H.get 1 rfl)).mono ?_; rintro e w ⟨rfl, h1, h2⟩; replace H := H.ref 1 rfl h1 h2; clear h1 h2; simp only [List.set_cons_succ, List.set_cons_zero] at H)
                | (refine L_load1 rfl rfl H 0 rfl rfl rfl Try.isAgg3 ?_; (try simp only [Act.put, List.setIfInBounds_toArray, List.set_cons_succ, List.set_cons_zero, List.getElem_toArray, List.getElem_cons_succ, List.getElem_cons_zero])))
              go_meet
              case rel => exact ⟨_, H⟩
            · have hb1 : (x.kind % 8 == 1) = false := by simp [h1]
              by_cases h2 : x.kind % 8 = 2
              · have hb2 : (x.kind % 8 == 2) = true := by simp [h2]
                have hd2 : { d with fuse := max x.n (-1) } = d2 := by rw [← HD.out]; unfold doesStep; rw [if_neg h0, if_neg h1, if_pos h2]
                have hc1 := fun {w : World} (h : (DiskA b bs bm d).says w) => fuse_any b bs bm d x.n w h
                have hc2 := fun {S : Nat → Prop} {w : World} (h : (RefA br S d).says w) => RefA.setFuse h x.n hxo.n.1
                rw [hd2] at hc1 hc2
                clear h0 h1 h2 HD hd2
                go_wp2_with (first
                  | (go_at_call 39; refine (hc1 (H.get 2 rfl)).mono ?_; rintro e w ⟨rfl, h1, h2⟩; replace H := H.disk 2 rfl (h1.mono (fun i _ h => .inl h)) h2; clear h1 h2; simp only [List.set_cons_succ, List.set_cons_zero] at H; obtain ⟨fu, hfu1, hfu2⟩ := RefA.fuseCell (H.get 1 rfl); have HH := Lib.hid H)
                  | (refine L_load1 rfl rfl H 0 rfl rfl rfl Try.isAgg3 ?_; (try simp only [Act.put, List.setIfInBounds_toArray, List.set_cons_succ, List.set_cons_zero, List.getElem_toArray, List.getElem_cons_succ, List.getElem_cons_zero])))
                go_meet
                case rel =>
                  have h9 := hc2 (HH.out.get 1 rfl)
                  exact ⟨_, HH.out.ref 1 rfl h9.1 h9.2⟩
              · have hb2 : (x.kind % 8 == 2) = false := by simp [h2]
                have hd2 : (d.writeR x.at_ x.bytes).1 = d2 := by rw [← HD.out]; unfold doesStep; rw [if_neg h0, if_neg h1, if_neg h2]
                obtain ⟨bytes, hbb⟩ : ∃ bytes, x.bytes = bytes := ⟨_, rfl⟩
                have hwr := fun {w : World} => wrote_any x hxo w
                have hbl := Deed.bytes_len hxo
                rw [hbb] at hwr hd2 hbl
                obtain ⟨d', r, hres⟩ : ∃ d' r, d.writeR x.at_ bytes = (d', r) := ⟨_, _, rfl⟩
                have hc1 := fun {w : World} {v : Value} (h : (DiskA b bs bm d).says w) (hrd : RdS (encInt .u8) 1 w v bytes) (hap : ∀ j, v.ownBlock = some j → ¬ (DiskA b bs bm d).fp j) => dwrite h HF.out.1 (by omega) x.at_ hrd hap
                have hc2 := fun {S : Nat → Prop} {w : World} {v : Value} (h : (RefA br S d).says w) (hrd : RdS (encInt .u8) 1 w v bytes) (hap : ∀ b off n c, v = .slice (some ⟨b, off, none⟩) n c → ¬ S b) => refWrite_any h HF.out.1 (by omega) x.at_ hrd hap hbl
                rw [hres] at hc1 hc2 hd2
                dsimp only at hc1 hc2 hd2
                subst hd2
                have HB := Lib.hid hbl
                clear hres h0 h1 h2 HD hbb hbl
                go_wp2_with fail
                have H1 := H.drop (L' := [_]) (List.Sublist.cons_cons _ (List.nil_sublist _))
                refine D_start H1 (by kernel_rfl) (fun hS => ?_)
                try simp only [Act.put, List.setIfInBounds_toArray, List.set_cons_succ, List.set_cons_zero]
                refine D_take 0 (v := ?_) rfl (by kernel_rfl) (by kernel_rfl) (by kernel_rfl) (fun _ _ _ h => h) rfl (by rfl) (fun W hS => ?_) hS ?_
                rotate_left; (focus (first | (go_simp; done) | (go_simp; with_reducible rfl) | (go_simp; rfl))); all_goals skip; (try simp only [List.set_cons_succ, List.set_cons_zero])
                refine D_take 1 (v := ?_) rfl (by kernel_rfl) (by kernel_rfl) (by kernel_rfl) (fun _ _ _ h => h) rfl (by rfl) (fun W hS => ?_) hS ?_
                rotate_left; (focus (first | (go_simp; done) | (go_simp; with_reducible rfl) | (go_simp; rfl))); all_goals skip; (try simp only [List.set_cons_succ, List.set_cons_zero])
                refine D_take 2 (v := ?_) rfl (by kernel_rfl) (by kernel_rfl) (by kernel_rfl) (fun _ _ _ h => h) rfl (by rfl) (fun W hS => ?_) hS ?_
                rotate_left; (focus (first | (refine R_load1 (ty := 3) (x := Operand.tmp 54) rfl hS 0 rfl rfl ?_ Try.isAgg3; rfl))); all_goals skip; (try simp only [List.set_cons_succ, List.set_cons_zero, List.getElem_toArray, List.getElem_cons_succ, List.getElem_cons_zero])
                refine D_take 3 (v := x.val) rfl (by kernel_rfl) (by kernel_rfl) (by kernel_rfl) (fun _ _ _ h => h) rfl (by rfl) (fun W hS => R_loadrow (ty := 47) (x := .tmp 9) rfl hS 0 rfl rfl Try.underlying47 rfl info47 rfl) hS ?_; (try simp only [List.set_cons_succ, List.set_cons_zero])
                refine D_take 6 (v := ?_) rfl (by kernel_rfl) (by kernel_rfl) (by kernel_rfl) (fun _ _ _ h => h) rfl (by rfl) (fun W hS => ?_) hS ?_
                rotate_left; (focus (first | (go_simp; done) | (go_simp; with_reducible rfl) | (go_simp; rfl))); all_goals skip; (try simp only [List.set_cons_succ, List.set_cons_zero])
                refine D_take 7 (v := ?_) rfl (by kernel_rfl) (by kernel_rfl) (by kernel_rfl) (fun _ _ _ h => h) rfl (by rfl) (fun W hS => ?_) hS ?_
                rotate_left; (focus (first | (go_simp; done) | (go_simp; with_reducible rfl) | (go_simp; rfl))); all_goals skip; (try simp only [List.set_cons_succ, List.set_cons_zero])
                refine D_take 8 (v := ?_) rfl (by kernel_rfl) (by kernel_rfl) (by kernel_rfl) (fun _ _ _ h => h) rfl (by rfl) (fun W hS => ?_) hS ?_
                rotate_left; (focus (first | (refine R_load1 (ty := 3) (x := Operand.tmp 60) rfl hS 0 rfl rfl ?_ Try.isAgg3; rfl))); all_goals skip; (try simp only [List.set_cons_succ, List.set_cons_zero, List.getElem_toArray, List.getElem_cons_succ, List.getElem_cons_zero])
                refine D_take 9 (v := x.val) rfl (by kernel_rfl) (by kernel_rfl) (by kernel_rfl) (fun _ _ _ h => h) rfl (by rfl) (fun W hS => R_loadrow (ty := 47) (x := .tmp 9) rfl hS 0 rfl rfl Try.underlying47 rfl info47 rfl) hS ?_; (try simp only [List.set_cons_succ, List.set_cons_zero])
                refine D_one 4 rfl (by kernel_rfl) (by rfl) ?_
                refine R_call (f := 28) (args := #[x.val]) (by first | (go_simp; done) | (go_simp; rfl)) hwr ?_
                clear hS
                rintro e w ⟨g2, rfl, h⟩
                have HW := H.drew.cat h
                simp only [List.cons_append, List.nil_append] at HW
                have hS := HW.drop (L' := [_]) (List.Sublist.cons _ (List.Sublist.cons_cons _ (List.nil_sublist _)))
                refine ⟨_, rfl, hS, ?_⟩
                try simp only [Act.put, List.getElem_toArray, List.getElem_cons_succ, List.getElem_cons_zero, List.setIfInBounds_toArray, List.set_cons_succ, List.set_cons_zero]
                refine D_one 5 rfl (by kernel_rfl) (by rfl) ?_
                refine R_call (f := 27) (args := #[.pointer (some ⟨b, 0, none⟩), .int .i64 x.at_, .slice (some ⟨g2, 0, none⟩) bytes.length bytes.length]) (by first | (go_simp; done) | (go_simp; rfl)) (hc1 (HW.get 3 rfl) (bytesRd (HW.at_ 0 rfl)) (ownSep HW 0 3 (by omega) rfl rfl)) ?_
                clear hS
                rintro e w ⟨rfl, h1, h2⟩
                replace HW := (HW.disk 3 rfl h1 h2).drop (List.sublist_cons_self _ _)
                simp only [List.set_cons_succ, List.set_cons_zero] at HW
                have hS := HW.drop (L' := [_]) (List.Sublist.cons_cons _ (List.nil_sublist _))
                refine ⟨_, rfl, hS, ?_⟩
                try simp only [Act.put, List.getElem_toArray, List.getElem_cons_succ, List.getElem_cons_zero, List.setIfInBounds_toArray, List.set_cons_succ, List.set_cons_zero]
                refine D_one 10 rfl (by kernel_rfl) (by rfl) ?_
                refine R_call (f := 28) (args := #[x.val]) (by first | (go_simp; done) | (go_simp; rfl)) hwr ?_
                clear hS
                rintro e w ⟨g3, rfl, h⟩
                have HV := HW.cat h
                simp only [List.cons_append, List.nil_append] at HV
                have hS := HV.drop (L' := [_]) (List.Sublist.cons _ (List.Sublist.cons_cons _ (List.nil_sublist _)))
                refine ⟨_, rfl, hS, ?_⟩
                try simp only [Act.put, List.getElem_toArray, List.getElem_cons_succ, List.getElem_cons_zero, List.setIfInBounds_toArray, List.set_cons_succ, List.set_cons_zero]
                refine D_one 11 rfl (by kernel_rfl) (by rfl) ?_
                refine R_call (f := 40) (args := #[.pointer (some ⟨br, 0, none⟩), .int .i64 x.at_, .slice (some ⟨g3, 0, none⟩) bytes.length bytes.length]) (by first | (go_simp; done) | (go_simp; rfl)) (hc2 (HV.get 2 rfl) (bytesRd (HV.at_ 0 rfl)) (fun b off n c he => by cases he; exact HV.sep 0 2 (by omega) rfl rfl _ rfl)) ?_
                clear hS
                rintro e w ⟨rfl, h1, h2⟩
                replace HV := (HV.ref 2 rfl h1 h2).drop (List.sublist_cons_self _ _)
                simp only [List.set_cons_succ, List.set_cons_zero] at HV
                have hS := HV.drop (L' := [_]) (List.Sublist.cons_cons _ (List.nil_sublist _))
                refine ⟨_, rfl, hS, ?_⟩
                try simp only [Act.put, List.getElem_toArray, List.getElem_cons_succ, List.getElem_cons_zero, List.setIfInBounds_toArray, List.set_cons_succ, List.set_cons_zero]
                refine D_take 12 (v := ?_) rfl (by kernel_rfl) (by kernel_rfl) (by kernel_rfl) (fun _ _ _ h => h) rfl (by rfl) (fun W hS => ?_) hS ?_
                rotate_left; (focus (first | (go_simp; done) | (go_simp; with_reducible rfl) | (go_simp; rfl))); all_goals skip; (try simp only [List.set_cons_succ, List.set_cons_zero])
                refine wpAnyH_done (by kernel_rfl) ?_ _
                clear H H1 hS h h1 h2 HW
                go_wp2_with fail
                go_meet
                case rel => exact ⟨_, HV⟩
        case rest =>
          obtain ⟨S2, H⟩ := hcut
          clear HD HF hkd
          obtain ⟨ys, er, hrr⟩ : ∃ ys er, d2.readR x.at_ = (ys, er) := ⟨_, _, rfl⟩
          obtain ⟨st, hst⟩ : ∃ st, strOfNums ys = st := ⟨_, rfl⟩
          obtain ⟨sn, hsn⟩ : ∃ sn, d2.sinceR x.at_ = sn := ⟨_, rfl⟩
          obtain ⟨pn, hpn⟩ : ∃ pn : Int, (d2.pend.length : Int) = pn := ⟨_, rfl⟩
          obtain ⟨wn, hwn⟩ : ∃ wn, d2.writes = wn := ⟨_, rfl⟩
          have hrd1 := fun {w : World} (h : (DiskA b bs bm d2).says w) => dread h HF2.out.1 x.at_
          have hrd2 := fun {S : Nat → Prop} {w : World} (h : (RefA br S d2).says w) => refRead_any h HF2.out.1.len (fun i hi => (DS.is_ok HF2.out.1.sure (fun p hp => (HF2.out.1.pend p hp).1) (by omega) (by omega)).1) x.at_
          have hsn1 := fun {w : World} (h : (DiskA b bs bm d2).says w) => dsince h HF2.out.1 x.at_
          have hsn2 := fun {S : Nat → Prop} {w : World} (h : (RefA br S d2).says w) => refSince_any h HF2.out.1.len x.at_
          have hpn1 := fun {w : World} (h : (DiskA b bs bm d2).says w) => pending_any b bs bm d2 w h
          have hpn2 := fun {S : Nat → Prop} {w : World} (h : (RefA br S d2).says w) => refPending_any h HF2.out.1.len HF2.out.1.keys (fun p hp => (HF2.out.1.pend p hp).2)
          have hwn1 := fun {w : World} (h : (DiskA b bs bm d2).says w) => writes_any b bs bm d2 w h
          have hwn2 := fun {S : Nat → Prop} {w : World} (h : (RefA br S d2).says w) => RefA.many h
          rw [hrr] at hrd1 hrd2
          rw [hsn] at hsn1 hsn2
          rw [hpn] at hpn1 hpn2
          rw [hwn] at hwn1 hwn2
          dsimp only at hrd1 hrd2
          have HST := Lib.hid hst
          clear hrr hst hsn hpn hwn
          go_upto_region 25 with (first
            | (go_at_call 41; refine (hrd1 (H.get 2 rfl)).mono ?_; rintro e w ⟨v10, rfl, h1, h2⟩; obtain ⟨A10, c10, rfl, _⟩ := (RdS.own (encInt_len .u8) rfl h1).len; replace H := H.addOwn h2 h1; clear h1 h2)
            | (go_at_call 42; refine (hrd2 (H.get 2 rfl)).mono ?_; rintro e w ⟨⟨v12, rfl, h1⟩, h2⟩; obtain ⟨A12, c12, rfl, _⟩ := (RdS.own (encInt_len .u8) rfl h1).len; replace H := H.addOwn h2 h1; clear h1 h2)
            | (refine L_load1 rfl rfl H 0 rfl rfl rfl Try.isAgg3 ?_; (try simp only [Act.put, List.setIfInBounds_toArray, List.set_cons_succ, List.set_cons_zero, List.getElem_toArray, List.getElem_cons_succ, List.getElem_cons_zero])) | (refine L_load1 rfl rfl H 1 rfl rfl rfl Try.isAgg3 ?_; (try simp only [Act.put, List.setIfInBounds_toArray, List.set_cons_succ, List.set_cons_zero, List.getElem_toArray, List.getElem_cons_succ, List.getElem_cons_zero])))
          clear hrd1 hrd2
          refine D_start H (by kernel_rfl) (fun hS => ?_)
          try simp only [Act.put, List.setIfInBounds_toArray, List.set_cons_succ, List.set_cons_zero]
          refine D_take 0 (v := ?_) rfl (by kernel_rfl) (by kernel_rfl) (by kernel_rfl) (fun _ _ _ h => h) rfl (by rfl) (fun W hS => ?_) hS ?_
          rotate_left; (focus (first | (go_simp; done) | (go_simp; with_reducible rfl) | (go_simp; rfl))); all_goals skip; (try simp only [List.set_cons_succ, List.set_cons_zero])
          refine D_take 1 (v := ?_) rfl (by kernel_rfl) (by kernel_rfl) (by kernel_rfl) (fun _ _ _ h => h) rfl (by rfl) (fun W hS => ?_) hS ?_
          rotate_left; (focus (first | (go_simp; done) | (go_simp; with_reducible rfl) | (go_simp; rfl))); all_goals skip; (try simp only [List.set_cons_succ, List.set_cons_zero])
          refine D_take 2 (v := ?_) rfl (by kernel_rfl) (by kernel_rfl) (by kernel_rfl) (fun _ _ _ h => h) rfl (by rfl) (fun W hS => ?_) hS ?_
          rotate_left; (focus (first | (go_simp; done) | (go_simp; with_reducible rfl) | (go_simp; rfl))); all_goals skip; (try simp only [List.set_cons_succ, List.set_cons_zero])
          refine D_take 3 (v := ?_) rfl (by kernel_rfl) (by kernel_rfl) (by kernel_rfl) (fun _ _ _ h => h) rfl (by rfl) (fun W hS => ?_) hS ?_
          rotate_left; (focus (first | (go_simp; done) | (go_simp; with_reducible rfl) | (go_simp; rfl))); all_goals skip; (try simp only [List.set_cons_succ, List.set_cons_zero])
          refine D_take 4 (v := ?_) rfl (by kernel_rfl) (by kernel_rfl) (by kernel_rfl) (fun _ _ _ h => h) rfl (by rfl) (fun W hS => ?_) hS ?_
          rotate_left; (focus (first | (go_simp; done) | (go_simp; with_reducible rfl) | (go_simp; rfl))); all_goals skip; (try simp only [List.set_cons_succ, List.set_cons_zero])
          refine D_take 5 (v := (.string st)) rfl (by kernel_rfl) (by kernel_rfl) (by kernel_rfl) (fun _ _ _ h => h) rfl (by rfl) (fun W hS => R_convert (src := 48) (dst := 9) (x := .tmp 120) rfl rfl (by rw [← HST.out]; exact run_string (RdS.own (encInt_len .u8) rfl (hS.get 1 rfl)) Try.underlying48 Try.underlying5 Try.underlying9)) hS ?_; (try simp only [List.set_cons_succ, List.set_cons_zero])
          refine D_take 6 (v := ?_) rfl (by kernel_rfl) (by kernel_rfl) (by kernel_rfl) (fun _ _ _ h => h) rfl (by rfl) (fun W hS => ?_) hS ?_
          rotate_left; (focus (first | (go_simp; done) | (go_simp; with_reducible rfl) | (go_simp; rfl))); all_goals skip; (try simp only [List.set_cons_succ, List.set_cons_zero])
          refine D_take 7 (v := (.string st)) rfl (by kernel_rfl) (by kernel_rfl) (by kernel_rfl) (fun _ _ _ h => h) rfl (by rfl) (fun W hS => R_convert (src := 48) (dst := 9) (x := .tmp 122) rfl rfl (by rw [← HST.out]; exact run_string (RdS.own (encInt_len .u8) rfl (hS.get 0 rfl)) Try.underlying48 Try.underlying5 Try.underlying9)) hS ?_; (try simp only [List.set_cons_succ, List.set_cons_zero])
          refine D_take 8 (v := (.bool false)) rfl (by kernel_rfl) (by kernel_rfl) (by kernel_rfl) (fun _ _ _ h => h) rfl (by rfl) (fun W hS => by first | (go_simp; done) | (go_simp; rfl)) hS ?_; (try simp only [List.set_cons_succ, List.set_cons_zero])
          refine D_take 9 (v := ?_) rfl (by kernel_rfl) (by kernel_rfl) (by kernel_rfl) (fun _ _ _ h => h) rfl (by rfl) (fun W hS => ?_) hS ?_
          rotate_left; (focus (first | (go_simp; done) | (go_simp; with_reducible rfl) | (go_simp; rfl))); all_goals skip; (try simp only [List.set_cons_succ, List.set_cons_zero])
          refine D_take 10 (v := ?_) rfl (by kernel_rfl) (by kernel_rfl) (by kernel_rfl) (fun _ _ _ h => h) rfl (by rfl) (fun W hS => ?_) hS ?_
          rotate_left; (focus (first | (go_simp; done) | (go_simp; with_reducible rfl) | (go_simp; rfl))); all_goals skip; (try simp only [List.set_cons_succ, List.set_cons_zero])
          refine D_take 11 (v := ?_) rfl (by kernel_rfl) (by kernel_rfl) (by kernel_rfl) (fun _ _ _ h => h) rfl (by rfl) (fun W hS => ?_) hS ?_
          rotate_left; (focus (first | (go_simp; done) | (go_simp; with_reducible rfl) | (go_simp; rfl))); all_goals skip; (try simp only [List.set_cons_succ, List.set_cons_zero])
          refine D_take 12 (v := ?_) rfl (by kernel_rfl) (by kernel_rfl) (by kernel_rfl) (fun _ _ _ h => h) rfl (by rfl) (fun W hS => ?_) hS ?_
          rotate_left; (focus (first | (go_simp; done) | (go_simp; with_reducible rfl) | (go_simp; rfl))); all_goals skip; (try simp only [List.set_cons_succ, List.set_cons_zero])
          refine D_take 13 (v := ?_) rfl (by kernel_rfl) (by kernel_rfl) (by kernel_rfl) (fun _ _ _ h => h) rfl (by rfl) (fun W hS => ?_) hS ?_
          rotate_left; (focus (first | (refine R_load1 (ty := 3) (x := Operand.tmp 128) rfl hS 2 rfl rfl ?_ Try.isAgg3; rfl))); all_goals skip; (try simp only [List.set_cons_succ, List.set_cons_zero, List.getElem_toArray, List.getElem_cons_succ, List.getElem_cons_zero])
          refine D_take 15 (v := ?_) rfl (by kernel_rfl) (by kernel_rfl) (by kernel_rfl) (fun _ _ _ h => h) rfl (by rfl) (fun W hS => ?_) hS ?_
          rotate_left; (focus (first | (go_simp; done) | (go_simp; with_reducible rfl) | (go_simp; rfl))); all_goals skip; (try simp only [List.set_cons_succ, List.set_cons_zero])
          refine D_take 16 (v := ?_) rfl (by kernel_rfl) (by kernel_rfl) (by kernel_rfl) (fun _ _ _ h => h) rfl (by rfl) (fun W hS => ?_) hS ?_
          rotate_left; (focus (first | (go_simp; done) | (go_simp; with_reducible rfl) | (go_simp; rfl))); all_goals skip; (try simp only [List.set_cons_succ, List.set_cons_zero])
          refine D_take 17 (v := ?_) rfl (by kernel_rfl) (by kernel_rfl) (by kernel_rfl) (fun _ _ _ h => h) rfl (by rfl) (fun W hS => ?_) hS ?_
          rotate_left; (focus (first | (refine R_load1 (ty := 3) (x := Operand.tmp 132) rfl hS 2 rfl rfl ?_ Try.isAgg3; rfl))); all_goals skip; (try simp only [List.set_cons_succ, List.set_cons_zero, List.getElem_toArray, List.getElem_cons_succ, List.getElem_cons_zero])
          refine D_one 14 rfl (by kernel_rfl) (by rfl) ?_
          refine R_call (f := 33) (args := #[.pointer (some ⟨b, 0, none⟩), .int .i64 x.at_]) (by first | (go_simp; done) | (go_simp; rfl)) (hsn1 (hS.get 4 rfl)) ?_
          rintro e w ⟨rfl, h⟩
          have hS2 := hS.calls h
          clear hS
          have hS := hS2
          clear hS2 h
          refine ⟨_, rfl, hS, ?_⟩
          try simp only [Act.put, List.getElem_toArray, List.getElem_cons_succ, List.getElem_cons_zero, List.setIfInBounds_toArray, List.set_cons_succ, List.set_cons_zero]
          refine D_one 18 rfl (by kernel_rfl) (by rfl) ?_
          refine R_call (f := 43) (args := #[.pointer (some ⟨br, 0, none⟩), .int .i64 x.at_]) (by first | (go_simp; done) | (go_simp; rfl)) (hsn2 (hS.get 3 rfl)) ?_
          rintro e w2 ⟨rfl, rfl⟩
          refine ⟨_, rfl, hS, ?_⟩
          try simp only [Act.put, List.getElem_toArray, List.getElem_cons_succ, List.getElem_cons_zero, List.setIfInBounds_toArray, List.set_cons_succ, List.set_cons_zero]
          refine D_take 19 (v := ?_) rfl (by kernel_rfl) (by kernel_rfl) (by kernel_rfl) (fun _ _ _ h => h) rfl (by rfl) (fun W hS => ?_) hS ?_
          rotate_left; (focus (first | (go_simp; done) | (go_simp; with_reducible rfl) | (go_simp; rfl))); all_goals skip; (try simp only [List.set_cons_succ, List.set_cons_zero])
          refine D_take 20 (v := ?_) rfl (by kernel_rfl) (by kernel_rfl) (by kernel_rfl) (fun _ _ _ h => h) rfl (by rfl) (fun W hS => ?_) hS ?_
          rotate_left; (focus (first | (go_simp; done) | (go_simp; with_reducible rfl) | (go_simp; rfl))); all_goals skip; (try simp only [List.set_cons_succ, List.set_cons_zero])
          refine D_take 21 (v := ?_) rfl (by kernel_rfl) (by kernel_rfl) (by kernel_rfl) (fun _ _ _ h => h) rfl (by rfl) (fun W hS => ?_) hS ?_
          rotate_left; (focus (first | (go_simp; done) | (go_simp; with_reducible rfl) | (go_simp; rfl))); all_goals skip; (try simp only [List.set_cons_succ, List.set_cons_zero])
          refine D_take 22 (v := ?_) rfl (by kernel_rfl) (by kernel_rfl) (by kernel_rfl) (fun _ _ _ h => h) rfl (by rfl) (fun W hS => ?_) hS ?_
          rotate_left; (focus (first | (go_simp; done) | (go_simp; with_reducible rfl) | (go_simp; rfl))); all_goals skip; (try simp only [List.set_cons_succ, List.set_cons_zero])
          refine D_take 24 (v := ?_) rfl (by kernel_rfl) (by kernel_rfl) (by kernel_rfl) (fun _ _ _ h => h) rfl (by rfl) (fun W hS => ?_) hS ?_
          rotate_left; (focus (first | (go_simp; done) | (go_simp; with_reducible rfl) | (go_simp; rfl))); all_goals skip; (try simp only [List.set_cons_succ, List.set_cons_zero])
          refine D_one 23 rfl (by kernel_rfl) (by rfl) ?_
          refine R_call (f := 25) (args := #[.pointer (some ⟨b, 0, none⟩)]) (by first | (go_simp; done) | (go_simp; rfl)) (hpn1 (hS.get 4 rfl)) ?_
          rintro e w2 ⟨rfl, rfl⟩
          refine ⟨_, rfl, hS, ?_⟩
          try simp only [Act.put, List.getElem_toArray, List.getElem_cons_succ, List.getElem_cons_zero, List.setIfInBounds_toArray, List.set_cons_succ, List.set_cons_zero]
          refine D_one 25 rfl (by kernel_rfl) (by rfl) ?_
          refine R_call (f := 44) (args := #[.pointer (some ⟨br, 0, none⟩)]) (by first | (go_simp; done) | (go_simp; rfl)) (hpn2 (hS.get 3 rfl)) ?_
          rintro e w2 ⟨rfl, rfl⟩
          refine ⟨_, rfl, hS, ?_⟩
          try simp only [Act.put, List.getElem_toArray, List.getElem_cons_succ, List.getElem_cons_zero, List.setIfInBounds_toArray, List.set_cons_succ, List.set_cons_zero]
          refine D_take 26 (v := ?_) rfl (by kernel_rfl) (by kernel_rfl) (by kernel_rfl) (fun _ _ _ h => h) rfl (by rfl) (fun W hS => ?_) hS ?_
          rotate_left; (focus (first | (go_simp; done) | (go_simp; with_reducible rfl) | (go_simp; rfl))); all_goals skip; (try simp only [List.set_cons_succ, List.set_cons_zero])
          refine D_take 27 (v := ?_) rfl (by kernel_rfl) (by kernel_rfl) (by kernel_rfl) (fun _ _ _ h => h) rfl (by rfl) (fun W hS => ?_) hS ?_
          rotate_left; (focus (first | (go_simp; done) | (go_simp; with_reducible rfl) | (go_simp; rfl))); all_goals skip; (try simp only [List.set_cons_succ, List.set_cons_zero])
          refine D_take 28 (v := ?_) rfl (by kernel_rfl) (by kernel_rfl) (by kernel_rfl) (fun _ _ _ h => h) rfl (by rfl) (fun W hS => ?_) hS ?_
          rotate_left; (focus (first | (go_simp; done) | (go_simp; with_reducible rfl) | (go_simp; rfl))); all_goals skip; (try simp only [List.set_cons_succ, List.set_cons_zero])
          refine D_take 29 (v := ?_) rfl (by kernel_rfl) (by kernel_rfl) (by kernel_rfl) (fun _ _ _ h => h) rfl (by rfl) (fun W hS => ?_) hS ?_
          rotate_left; (focus (first | (go_simp; done) | (go_simp; with_reducible rfl) | (go_simp; rfl))); all_goals skip; (try simp only [List.set_cons_succ, List.set_cons_zero])
          refine D_take 31 (v := ?_) rfl (by kernel_rfl) (by kernel_rfl) (by kernel_rfl) (fun _ _ _ h => h) rfl (by rfl) (fun W hS => ?_) hS ?_
          rotate_left; (focus (first | (go_simp; done) | (go_simp; with_reducible rfl) | (go_simp; rfl))); all_goals skip; (try simp only [List.set_cons_succ, List.set_cons_zero])
          refine D_take 32 (v := ?_) rfl (by kernel_rfl) (by kernel_rfl) (by kernel_rfl) (fun _ _ _ h => h) rfl (by rfl) (fun W hS => ?_) hS ?_
          rotate_left; (focus (first | (go_simp; done) | (go_simp; with_reducible rfl) | (go_simp; rfl))); all_goals skip; (try simp only [List.set_cons_succ, List.set_cons_zero])
          refine D_take 33 (v := ?_) rfl (by kernel_rfl) (by kernel_rfl) (by kernel_rfl) (fun _ _ _ h => h) rfl (by rfl) (fun W hS => ?_) hS ?_
          rotate_left; (focus (first | (go_simp; done) | (go_simp; with_reducible rfl) | (go_simp; rfl))); all_goals skip; (try simp only [List.set_cons_succ, List.set_cons_zero])
          refine D_take 34 (v := (.int .i64 wn)) rfl (by kernel_rfl) (by kernel_rfl) (by kernel_rfl) (fun _ _ _ h => h) rfl (by rfl) (fun W hS => R_loadCell' (ty := 3) (x := .tmp 149) (p := ⟨br, 6, none⟩) rfl rfl (hwn2 (hS.get 3 rfl)) Try.isAgg3) hS ?_; (try simp only [List.set_cons_succ, List.set_cons_zero])
          refine D_one 30 rfl (by kernel_rfl) (by rfl) ?_
          refine R_call (f := 31) (args := #[.pointer (some ⟨b, 0, none⟩)]) (by first | (go_simp; done) | (go_simp; rfl)) (hwn1 (hS.get 4 rfl)) ?_
          rintro e w2 ⟨rfl, rfl⟩
          refine ⟨_, rfl, hS, ?_⟩
          try simp only [Act.put, List.getElem_toArray, List.getElem_cons_succ, List.getElem_cons_zero, List.setIfInBounds_toArray, List.set_cons_succ, List.set_cons_zero]
          refine D_take 35 (v := ?_) rfl (by kernel_rfl) (by kernel_rfl) (by kernel_rfl) (fun _ _ _ h => h) rfl (by rfl) (fun W hS => ?_) hS ?_
          rotate_left; (focus (first | (go_simp; done) | (go_simp; with_reducible rfl) | (go_simp; rfl))); all_goals skip; (try simp only [List.set_cons_succ, List.set_cons_zero])
          refine D_take 36 (v := ?_) rfl (by kernel_rfl) (by kernel_rfl) (by kernel_rfl) (fun _ _ _ h => h) rfl (by rfl) (fun W hS => ?_) hS ?_
          rotate_left; (focus (first | (go_simp; done) | (go_simp; with_reducible rfl) | (go_simp; rfl))); all_goals skip; (try simp only [List.set_cons_succ, List.set_cons_zero])
          refine wpAnyH_done (by kernel_rfl) ?_ _
          clear H
          go_wp2_with fail
          go_roundg (gk - 1)
          case measure => omega
          case rel => exact ⟨k + 1, S2, by go_num, by omega, by rw [HS.out]; exact hS.drop (List.Sublist.cons _ (List.Sublist.cons _ (List.Sublist.cons _ (List.Sublist.refl _))))⟩
      · go_upto_region 8 with fail
        go_cut [43] from 36 to 42 (fun s43 wc => s43 = .bool false ∧ wr = wc)
        case first =>
          by_cases h1 : k < xs.length
          · have h1i : (k : Int) < xs.length := by omega
            have h2i : ¬ (k : Int) < 50 := by omega
            go_wp2
            go_meet
            case rel => exact ⟨rfl, rfl⟩
          · have h1i : ¬ (k : Int) < xs.length := by omega
            go_wp2
            go_meet
            case rel => exact ⟨rfl, rfl⟩
        case rest =>
        obtain ⟨rfl, hw⟩ := hcut
        subst hw
        clear hkn hk HX hr hF0 hdl
        generalize doesD d0 (xs.take k) = d at *
        obtain ⟨r, hro, H⟩ := H.openRef
        have e1 : r.gs.length = n := by rw [hro.gl, hlen]
        have e2 : r.age.length = n := by rw [hro.age]; simp [hlen]
        have hage : ∀ (j : Nat) (hj : j < n), r.age[j]? = some (d.sinceR (j : Int)) := fun j hj => by
          rw [hro.age, List.getElem?_map, List.getElem?_range (by omega)]
          unfold DS.sinceR
          rw [if_pos ⟨by omega, by omega⟩]
          rfl
        have hgs : ∀ (j : Nat) (hj : j < n) (hj2 : j < r.gs.length), (r.gs[j], (d.is (j : Int)).bytes) ∈ r.bv := fun j hj hj2 => hro.g j hj2
        clear hro
        obtain ⟨v1, v2, v3, v4, v5, gs, ss, age, old, wet, f, m, bv⟩ := r
        simp only at e1 e2 hage hgs
        simp only [RM.L, RM.cells, List.cons_append, List.nil_append] at H
        have hsn := fun {w : World} (j : Nat) (h : (DiskA b bs bm d).says w) => dsince h hfine (j : Int)
        have hrd : ∀ {w : World} (j : Nat), j < n → (DiskA b bs bm d).says w → Calls Try.prog 41 #[.pointer (some ⟨b, 0, none⟩), .int .i64 (j : Int)] w fun e w' => ∃ v, e = .returned (.tuple #[v, .int .i64 0]) ∧ w'.ownsRow w.heap.size 5 1 v (d.is (j : Int)).bytes.length (cellsOf (encInt .u8) (d.is (j : Int)).bytes) ∧ Ext0 w w' := fun {w} j hj h => by
          have := dread h hfine (j : Int)
          rw [show d.readR (j : Int) = ((d.is (j : Int)).bytes, 0) by unfold DS.readR; rw [if_pos ⟨by omega, by omega⟩]] at this
          exact this
        have HFI := Lib.hid (And.intro hfine hlen)
        clear hfine hlen
        obtain ⟨A1, c1, hv1⟩ := row_len (H.get 1 (A := ownA 48 1 v1 gs.length gs) rfl)
        rw [e1] at hv1
        subst hv1
        have HAG := Lib.hid hage
        have HGS := Lib.hid hgs
        clear hage hgs
        have H2 := H
        clear H
        go_wp2_with fail
        go_loopg [14] n (fun g vi wr => Does2 n _ w0 g vi wr)
        case atStart => exact ⟨0, rfl, by omega, H2⟩
        case round =>
          clear H2
          obtain ⟨j, rfl, hj, H⟩ := hrel
          have hcr := cell_of_row _ br 0 _ _ _ (H.at_ 0 rfl)
          have hc0 : wr.cell? ⟨br, 0, none⟩ = some (.slice A1 n c1) := hcr
          clear hcr
          by_cases hjn : j < n
          · have hji : (j : Int) < (n : Int) := by omega
            obtain ⟨g1, cc, hg1⟩ := own_form (H.get 1 rfl) (by omega)
            obtain ⟨g3, c3, hg3⟩ := own_form (H.get 3 rfl) (by omega)
            simp only [Value.slice.injEq] at hg1
            obtain ⟨rfl, hz, rfl⟩ := hg1
            clear hz
            subst hg3
            have hja : (j : Int) < (age.length : Int) := by omega
            have hmem := HGS.out j hjn (by omega)
            have hag := HAG.out j hjn
            have hrd1 := fun {w : World} (h : (DiskA b bs bm d).says w) => hrd j hjn h
            have hsn1 := fun {w : World} (h : (DiskA b bs bm d).says w) => hsn j h
            obtain ⟨gv, hgv⟩ : ∃ gv, gs[j]? = some gv := ⟨_, List.getElem?_eq_getElem (by omega)⟩
            have hgv2 : gs[j]'(by omega) = gv := by
              rw [List.getElem?_eq_getElem (by omega)] at hgv
              exact Option.some.inj hgv
            rw [hgv2] at hmem
            generalize (d.is (j : Int)).bytes = ys at *
            generalize d.sinceR (j : Int) = sn at *
            obtain ⟨st, hst⟩ : ∃ st, strOfNums ys = st := ⟨_, rfl⟩
            have hgc : ∀ (W : World), W.ownsRow 0 48 1 (.slice (some ⟨g1, 0, none⟩) n c1) gs.length gs → W.cell? ⟨g1, j, none⟩ = some gv := fun W h => by
              have := World.ownsRow.cellAt (by rw [e1] at h; exact h) j (by omega)
              rw [this, hgv]
            have hac : ∀ (W : World), W.ownsRow 0 3 1 (.slice (some ⟨g3, 0, none⟩) age.length c3) age.length (age.map (Value.int .i64)) → W.cell? ⟨g3, j, none⟩ = some (.int .i64 sn) := fun W h => by
              have := World.ownsRow.cellAt h j (by omega)
              rw [this, List.getElem?_map, hag]
              rfl
            have HST := Lib.hid (And.intro hst hmem)
            have HGC := Lib.hid hgc
            have HAC := Lib.hid hac
            clear hgc hac
            have HJ := Lib.hid (And.intro hj (And.intro e1 e2))
            clear hst hmem hgv hgv2 hag hrd hsn
            clear hj e1 e2
            go_upto_region 31 with (first
              | (go_at_call 41; refine (hrd1 (H.get 7 rfl)).mono ?_; rintro e w ⟨v10, rfl, h1, h2⟩; obtain ⟨A10, c10, rfl, _⟩ := (RdS.own (encInt_len .u8) rfl h1).len; replace H := H.addOwn h2 h1; clear h1 h2))
            clear hrd1 hc0
            refine D_start H (by kernel_rfl) (fun hS => ?_)
            try simp only [Act.put, List.setIfInBounds_toArray, List.set_cons_succ, List.set_cons_zero]
            refine D_take 0 (v := ?_) rfl (by kernel_rfl) (by kernel_rfl) (by kernel_rfl) (fun _ _ _ h => h) rfl (by rfl) (fun W hS => ?_) hS ?_
            rotate_left; (focus (first | (go_simp; done) | (go_simp; with_reducible rfl) | (go_simp; rfl))); all_goals skip; (try simp only [List.set_cons_succ, List.set_cons_zero])
            refine D_take 1 (v := ?_) rfl (by kernel_rfl) (by kernel_rfl) (by kernel_rfl) (fun _ _ _ h => h) rfl (by rfl) (fun W hS => ?_) hS ?_
            rotate_left; (focus (first | (go_simp; done) | (go_simp; with_reducible rfl) | (go_simp; rfl))); all_goals skip; (try simp only [List.set_cons_succ, List.set_cons_zero])
            refine D_take 2 (v := ?_) rfl (by kernel_rfl) (by kernel_rfl) (by kernel_rfl) (fun _ _ _ h => h) rfl (by rfl) (fun W hS => ?_) hS ?_
            rotate_left; (focus (first | (go_simp; done) | (go_simp; with_reducible rfl) | (go_simp; rfl))); all_goals skip; (try simp only [List.set_cons_succ, List.set_cons_zero])
            refine D_take 3 (v := ?_) rfl (by kernel_rfl) (by kernel_rfl) (by kernel_rfl) (fun _ _ _ h => h) rfl (by rfl) (fun W hS => ?_) hS ?_
            rotate_left; (focus (first | (go_simp; done) | (go_simp; with_reducible rfl) | (go_simp; rfl))); all_goals skip; (try simp only [List.set_cons_succ, List.set_cons_zero])
            refine D_take 4 (v := (.string st)) rfl (by kernel_rfl) (by kernel_rfl) (by kernel_rfl) (fun _ _ _ h => h) rfl (by rfl) (fun W hS => R_convert (src := 48) (dst := 9) (x := .tmp 171) rfl rfl (by rw [← HST.out.1]; exact run_string (RdS.own (encInt_len .u8) rfl (hS.get 0 rfl)) Try.underlying48 Try.underlying5 Try.underlying9)) hS ?_; (try simp only [List.set_cons_succ, List.set_cons_zero])
            refine D_take 5 (v := ?_) rfl (by kernel_rfl) (by kernel_rfl) (by kernel_rfl) (fun _ _ _ h => h) rfl (by rfl) (fun W hS => ?_) hS ?_
            rotate_left; (focus (first | (go_simp; done) | (go_simp; with_reducible rfl) | (go_simp; rfl))); all_goals skip; (try simp only [List.set_cons_succ, List.set_cons_zero])
            refine D_take 6 (v := ?_) rfl (by kernel_rfl) (by kernel_rfl) (by kernel_rfl) (fun _ _ _ h => h) rfl (by rfl) (fun W hS => ?_) hS ?_
            rotate_left; (focus (first | (go_simp; done) | (go_simp; with_reducible rfl) | (go_simp; rfl))); all_goals skip; (try simp only [List.set_cons_succ, List.set_cons_zero])
            refine D_take 7 (v := ?_) rfl (by kernel_rfl) (by kernel_rfl) (by kernel_rfl) (fun _ _ _ h => h) rfl (by rfl) (fun W hS => ?_) hS ?_
            rotate_left; (focus (first | (go_simp; done) | (go_simp; with_reducible rfl) | (go_simp; rfl))); all_goals skip; (try simp only [List.set_cons_succ, List.set_cons_zero])
            refine D_take 8 (v := ?_) rfl (by kernel_rfl) (by kernel_rfl) (by kernel_rfl) (fun _ _ _ h => h) rfl (by rfl) (fun W hS => ?_) hS ?_
            rotate_left; (focus (first | (refine R_load1 (ty := 59) (x := Operand.tmp 175) rfl hS 1 rfl rfl ?_ Try.isAgg59; rfl))); all_goals skip; (try simp only [List.set_cons_succ, List.set_cons_zero, List.getElem_toArray, List.getElem_cons_succ, List.getElem_cons_zero])
            refine D_take 9 (v := ?_) rfl (by kernel_rfl) (by kernel_rfl) (by kernel_rfl) (fun _ _ _ h => h) rfl (by rfl) (fun W hS => ?_) hS ?_
            rotate_left; (focus (first | (go_simp; done) | (go_simp; with_reducible rfl) | (go_simp; rfl))); all_goals skip; (try simp only [List.set_cons_succ, List.set_cons_zero])
            refine D_take 10 (v := ?_) rfl (by kernel_rfl) (by kernel_rfl) (by kernel_rfl) (fun _ _ _ h => h) rfl (by rfl) (fun W hS => ?_) hS ?_
            rotate_left; (focus (first | (go_simp; done) | (go_simp; with_reducible rfl) | (go_simp; rfl))); all_goals skip; (try simp only [List.set_cons_succ, List.set_cons_zero])
            refine D_take 11 (v := gv) rfl (by kernel_rfl) (by kernel_rfl) (by kernel_rfl) (fun _ _ _ h => h) rfl (by rfl) (fun W hS => R_loadCell' (ty := 48) (x := .tmp 178) (p := ⟨g1, j, none⟩) rfl rfl (HGC.out _ (hS.get 2 rfl)) Try.isAgg48) hS ?_; (try simp only [List.set_cons_succ, List.set_cons_zero])
            refine D_take 12 (v := (.string st)) rfl (by kernel_rfl) (by kernel_rfl) (by kernel_rfl) (fun _ _ _ h => h) rfl (by rfl) (fun W hS => R_convert (src := 48) (dst := 9) (x := .tmp 179) rfl rfl (by rw [← HST.out.1]; exact run_string (hS.get 7 (A := bytesA bv) rfl _ HST.out.2) Try.underlying48 Try.underlying5 Try.underlying9)) hS ?_; (try simp only [List.set_cons_succ, List.set_cons_zero])
            refine D_take 13 (v := (.bool false)) rfl (by kernel_rfl) (by kernel_rfl) (by kernel_rfl) (fun _ _ _ h => h) rfl (by rfl) (fun W hS => by first | (go_simp; done) | (go_simp; rfl)) hS ?_; (try simp only [List.set_cons_succ, List.set_cons_zero])
            refine D_take 14 (v := ?_) rfl (by kernel_rfl) (by kernel_rfl) (by kernel_rfl) (fun _ _ _ h => h) rfl (by rfl) (fun W hS => ?_) hS ?_
            rotate_left; (focus (first | (go_simp; done) | (go_simp; with_reducible rfl) | (go_simp; rfl))); all_goals skip; (try simp only [List.set_cons_succ, List.set_cons_zero])
            refine D_take 15 (v := ?_) rfl (by kernel_rfl) (by kernel_rfl) (by kernel_rfl) (fun _ _ _ h => h) rfl (by rfl) (fun W hS => ?_) hS ?_
            rotate_left; (focus (first | (go_simp; done) | (go_simp; with_reducible rfl) | (go_simp; rfl))); all_goals skip; (try simp only [List.set_cons_succ, List.set_cons_zero])
            refine D_take 16 (v := ?_) rfl (by kernel_rfl) (by kernel_rfl) (by kernel_rfl) (fun _ _ _ h => h) rfl (by rfl) (fun W hS => ?_) hS ?_
            rotate_left; (focus (first | (go_simp; done) | (go_simp; with_reducible rfl) | (go_simp; rfl))); all_goals skip; (try simp only [List.set_cons_succ, List.set_cons_zero])
            refine D_take 17 (v := ?_) rfl (by kernel_rfl) (by kernel_rfl) (by kernel_rfl) (fun _ _ _ h => h) rfl (by rfl) (fun W hS => ?_) hS ?_
            rotate_left; (focus (first | (go_simp; done) | (go_simp; with_reducible rfl) | (go_simp; rfl))); all_goals skip; (try simp only [List.set_cons_succ, List.set_cons_zero])
            refine D_take 19 (v := ?_) rfl (by kernel_rfl) (by kernel_rfl) (by kernel_rfl) (fun _ _ _ h => h) rfl (by rfl) (fun W hS => ?_) hS ?_
            rotate_left; (focus (first | (go_simp; done) | (go_simp; with_reducible rfl) | (go_simp; rfl))); all_goals skip; (try simp only [List.set_cons_succ, List.set_cons_zero])
            refine D_take 20 (v := ?_) rfl (by kernel_rfl) (by kernel_rfl) (by kernel_rfl) (fun _ _ _ h => h) rfl (by rfl) (fun W hS => ?_) hS ?_
            rotate_left; (focus (first | (go_simp; done) | (go_simp; with_reducible rfl) | (go_simp; rfl))); all_goals skip; (try simp only [List.set_cons_succ, List.set_cons_zero])
            refine D_take 21 (v := ?_) rfl (by kernel_rfl) (by kernel_rfl) (by kernel_rfl) (fun _ _ _ h => h) rfl (by rfl) (fun W hS => ?_) hS ?_
            rotate_left; (focus (first | (go_simp; done) | (go_simp; with_reducible rfl) | (go_simp; rfl))); all_goals skip; (try simp only [List.set_cons_succ, List.set_cons_zero])
            refine D_take 22 (v := ?_) rfl (by kernel_rfl) (by kernel_rfl) (by kernel_rfl) (fun _ _ _ h => h) rfl (by rfl) (fun W hS => ?_) hS ?_
            rotate_left; (focus (first | (refine R_load1 (ty := 60) (x := Operand.tmp 189) rfl hS 1 rfl rfl ?_ Try.isAgg60; rfl))); all_goals skip; (try simp only [List.set_cons_succ, List.set_cons_zero, List.getElem_toArray, List.getElem_cons_succ, List.getElem_cons_zero])
            refine D_take 23 (v := ?_) rfl (by kernel_rfl) (by kernel_rfl) (by kernel_rfl) (fun _ _ _ h => h) rfl (by rfl) (fun W hS => ?_) hS ?_
            rotate_left; (focus (first | (go_simp; done) | (go_simp; with_reducible rfl) | (go_simp; rfl))); all_goals skip; (try simp only [List.set_cons_succ, List.set_cons_zero])
            refine D_take 24 (v := ?_) rfl (by kernel_rfl) (by kernel_rfl) (by kernel_rfl) (fun _ _ _ h => h) rfl (by rfl) (fun W hS => ?_) hS ?_
            rotate_left; (focus (first | (go_simp; done) | (go_simp; with_reducible rfl) | (go_simp; rfl))); all_goals skip; (try simp only [List.set_cons_succ, List.set_cons_zero])
            refine D_take 25 (v := (.int .i64 sn)) rfl (by kernel_rfl) (by kernel_rfl) (by kernel_rfl) (fun _ _ _ h => h) rfl (by rfl) (fun W hS => R_loadCell' (ty := 3) (x := .tmp 192) (p := ⟨g3, j, none⟩) rfl rfl (HAC.out _ (hS.get 4 rfl)) Try.isAgg3) hS ?_; (try simp only [List.set_cons_succ, List.set_cons_zero])
            refine D_one 18 rfl (by kernel_rfl) (by rfl) ?_
            refine R_call (f := 33) (args := #[.pointer (some ⟨b, 0, none⟩), .int .i64 (j : Int)]) (by first | (go_simp; done) | (go_simp; rfl)) (hsn1 (hS.get 8 rfl)) ?_
            rintro e w ⟨rfl, h⟩
            have hS2 := hS.calls h
            clear hS
            have hS := hS2
            clear hS2 h
            refine ⟨_, rfl, hS, ?_⟩
            try simp only [Act.put, List.getElem_toArray, List.getElem_cons_succ, List.getElem_cons_zero, List.setIfInBounds_toArray, List.set_cons_succ, List.set_cons_zero]
            refine D_take 26 (v := ?_) rfl (by kernel_rfl) (by kernel_rfl) (by kernel_rfl) (fun _ _ _ h => h) rfl (by rfl) (fun W hS => ?_) hS ?_
            rotate_left; (focus (first | (go_simp; done) | (go_simp; with_reducible rfl) | (go_simp; rfl))); all_goals skip; (try simp only [List.set_cons_succ, List.set_cons_zero])
            refine D_take 27 (v := ?_) rfl (by kernel_rfl) (by kernel_rfl) (by kernel_rfl) (fun _ _ _ h => h) rfl (by rfl) (fun W hS => ?_) hS ?_
            rotate_left; (focus (first | (go_simp; done) | (go_simp; with_reducible rfl) | (go_simp; rfl))); all_goals skip; (try simp only [List.set_cons_succ, List.set_cons_zero])
            refine wpAnyH_done (by kernel_rfl) ?_ _
            clear H
            go_wp2_with fail
            have hj := HJ.out.1
            go_roundg (gk - 1)
            case measure => omega
            case rel => exact ⟨j + 1, by go_num, by omega, hS.drop (List.sublist_cons_self _ _)⟩
          · obtain rfl : j = n := by omega
            clear HAG HGS hrd hsn
            go_wp2_with (first | (go_at_call 30; refine (awake_any _).mono ?_; rintro e w ⟨rfl, h⟩; replace H := H.calls h; clear h))
            go_ret
            exact ⟨rfl, H.ext⟩

theorem does_row (w : World) (n : Int) (_ : (Lit.int .i64 n).wf = true) (v : Value) (h1 : ∃ xs : List Deed, RdS Deed.cells 5 w v xs ∧ ∀ x ∈ xs, x.Ok) :
    Calls Try.prog 9 #[.int .i64 n, v] w fun e w' => e = .returned (.bool true) ∧ Below w.heap.size w w' := by
  obtain ⟨xs, hr, hx⟩ := h1
  exact (does_walk n v xs w hr hx).mono fun _ _ h => ⟨h.1, h.2.below⟩
section
open Go.ChangeShapes Go.WideShapes Go.ChangeAt Go.RowKit
open Go.ChangeMaps (open_string shut_string)
theorem diskDoes_own : ownKnob Try.prog.godebug = none := by kernel_rfl
theorem diskDoes_laidOut : laidOutB Try.prog = true := by kernel_rfl
set_option maxRecDepth 100000 in
theorem diskDoes_lifted (os : Os) (started : os.Started) (H : Type) (enc : TypeId × Value → H) :
    ReturnsInHanded {} Try.checked os 9 .any (Rows.diskDoesSpec.pre6 enc Try.prog Try.f9 Rows.diskDoesRow.domain false) (Rows.diskDoesSpec.post enc Try.prog Try.f9 false true false false) := by
  refine returnsInHanded_of_change (C := Try.checked) diskDoes_own started (by kernel_rfl) Try.func9
    (ChangeSpec.witness6 (enc := enc) (C := Try.checked) false ⟨#[], #[.int .i64 0, .slice none 0 0], []⟩ 8 (by kernel_rfl) (by kernel_rfl) (by kernel_rfl) (by kernel_rfl)) ?_
  intro W base args ds gs before hval0 hW hcnd _
  have hval : ∀ (j : Nat) t v, Try.f9.params[j]? = some t → args[j]? = some v → Value.okWide Try.prog W .any base t v := hval0
  have hW' := hW
  obtain ⟨p, q, hA0, hV, rfl, hfz, hnd⟩ := hW
  have hA : DataW.TrodAll enc Try.prog W 0 (fun _ => true) true Try.f9.params.toList args.toList ds p := hA0
  rw [Try.params9] at hA hval
  obtain ⟨v0, vs0, d0, ds0, p0, q0, hargs, rfl, rfl, h0, r0⟩ := trodAll_cons hA
  obtain ⟨v1, vs1, d1, ds1, p1, q1, rfl, rfl, rfl, h1, r1⟩ := trodAll_cons r0
  obtain ⟨rfl, rfl, rfl⟩ := trodAll_nil r1
  obtain rfl : args = #[v0, v1] := by cases args; simp_all
  obtain ⟨rfl, rfl⟩ := trodVars_none hV
  obtain ⟨a0, rfl, rfl, rfl, w0⟩ := open_int Try.underlying3 (hval 0 3 v0 rfl rfl) h0
  have k1 := h1
  have lt1 : ∀ x ∈ p1, x.block < W.heap.size := by obtain ⟨m, hm⟩ := k1; exact DataW.trod_lt m _ _ _ hm
  have w1 := deeds_of (hval 1 37 v1 rfl rfl) h1
  clear hA0 hval0
  refine (does_row W a0 w0 v1 w1).mono fun e W' ⟨he, bel⟩ => ?_
  subst he
  exact ⟨_, rfl, _, _, _, [], _, [], hW', trodAll_mk1 (shut_bool Try.underlying4 _), (trodAll_cons_mk (shut_int Try.underlying3 w0) (trodAll_cons_mk (Below.trod diskDoes_laidOut (by kernel_rfl) (of_decide_eq_true (by kernel_rfl)) k1 bel lt1) trodAll_mk0)), rfl, bel.frame _, fun h => by cases h⟩
theorem diskDoes_over : Rows.diskDoesRow.holds Try.pinned (OpenSpec.ofChange Rows.diskDoesSpec) :=
  OpenClaim.holds_of_wide 9 Try.f9 rfl rfl rfl rfl rfl rfl rfl ⟨rfl, rfl, rfl, rfl, rfl⟩ rfl rfl rfl rfl rfl (by kernel_rfl) Try.func9 (by kernel_rfl)
    (of_decide_eq_true (by kernel_rfl)) (by unfold Func.isWrapper; first | (rw [if_pos (by decide +kernel)]; kernel_rfl) | (rw [if_neg (by decide +kernel)]; exact ⟨rfl, rfl⟩))
    (fun os started H enc _ => diskDoes_lifted os started H enc)
/-- THE STATEMENT. -/
theorem diskDoes_holds : Rows.DiskDoesSaid := diskDoes_over
#print axioms diskDoes_holds
end
end Go.Proofs.Ytjdfeagjbhdceaa
