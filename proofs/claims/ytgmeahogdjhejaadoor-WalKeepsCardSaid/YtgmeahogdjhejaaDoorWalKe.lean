/- WalKeeps: the walk. -/
import Derived.Test.YtgmeahogdjhejaaDoorWalKd
namespace Go.Proofs.YtgmeahogdjhejaaDoor
set_option linter.unusedVariables false
set_option linter.unusedSimpArgs false
open Go.RowKit Go.Shelf

def KeepR (b bs bm : Nat) (w0 : World) (v10 v4 v8 v9 : Value) (wr : World) : Prop :=
  ∃ (i : Nat) (d : DS) (j : JS) (jb : Nat) (ws : List ((Option Addr × Nat × Nat) × List Int)) (sure n8 c8 : Nat) (A8 : Option Addr), v10 = .int .i64 (i : Int) ∧ v4 = .pointer (some ⟨jb, 0, none⟩) ∧ v9 = .int .i64 (sure : Int) ∧ v8 = .slice A8 n8 c8 ∧ n8 = ws.length ∧ K i d j (ws.map (·.2)) sure ∧ (rowsA ws).says w0 ∧
    SH (fun _ => False) w0 wr [JD b bs bm jb d j, ownA 23 1 (.slice A8 n8 c8) ws.length (cellsOf encSl (ws.map (·.1)))]
set_option maxRecDepth 100000 in
set_option maxHeartbeats 16000000 in
theorem keeps_walk (v : Value) (ps : List DV) (w0 : World) (hr : DvR w0 v ps) : Calls Tryd.prog 5 #[v] w0 fun e w' => e = .returned (.bool true) ∧ Ext0 w0 w' := by
  obtain ⟨A, cap, rfl, hcap⟩ := hr.row.len
  have H : SH (fun _ => False) w0 w0 [] := SH.nil _ _
  have c0 := fun {w : World} => new_any 60 w
  rw [show min (60 : Int).toNat 4096 = 60 from rfl] at c0
  have hmay : mayP ks1.sure.length ((2 : Nat) : Int) ((50 : Nat) : Int) := by rw [ks_f1.2]; exact ag_may
  have hfmt := fun {b bs bm : Nat} {w : World} {v : Value} (hD : (DiskA b bs bm (DS.new 60)).says w) (hr : RdS (encInt .u8) 1 w v (tellN 0)) (hap : ∀ j, v.ownBlock = some j → ¬ (DiskA b bs bm (DS.new 60)).fp j) => format_any w hD ks_f0 (by omega) 2 50 hr (tell_bytes (by omega)) hap
  unfold FormatE at hfmt
  rw [show formatP (DS.new 60) 2 50 (tellN 0) = (ks1, 0) from ks_fo] at hfmt
  have hop1 := fun {b bs bm : Nat} {w : World} (hD : (DiskA b bs bm ks1).says w) => (open_any w hD ks_f1.1 2 50 hmay).mono (fun e w' h => opened_some (by rw [ks_op] at h; exact h))
  have ht0 := fun {w : World} => tell_any 0 (by omega) w
  have HX := Lib.hid hr
  have hK0 := K.start
  obtain ⟨D0, hD0⟩ : ∃ D0, DS.new 60 = D0 := ⟨_, rfl⟩
  obtain ⟨D1, hD1⟩ : ∃ D1, ks1 = D1 := ⟨_, rfl⟩
  obtain ⟨J1, hJ1⟩ : ∃ J1, ksj = J1 := ⟨_, rfl⟩
  rw [hD0] at c0 hfmt
  rw [hD1] at hfmt hop1 hK0
  rw [hJ1] at hop1 hK0
  have HK0 := Lib.hid hK0
  clear hr hmay hK0 hD0 hD1 hJ1
  go_enter Tryd.func5, Tryd.ntmps5
  go_upto_region 4 with (first
    | (go_at_call 7; refine c0.mono ?_; rintro e w ⟨b, bs, bm, rfl, h⟩; replace H := H.cat h; clear h; simp only [List.cons_append, List.nil_append] at H)
    | (go_at_call 21; refine ht0.mono ?_; rintro e w ⟨gt, rfl, h⟩; replace H := H.cat h; clear h; simp only [List.cons_append, List.nil_append] at H)
    | (go_at_call 8; refine (hfmt (H.get 1 rfl) (two_bytes (H.at_ 0 rfl)) (fun j hj hfp => by cases hj; exact H.sep 1 0 (by decide) rfl rfl _ hfp rfl)).mono ?_; rintro e1 w2 ⟨rfl, hE, hsay⟩; replace H := H.disk 1 rfl hE hsay; simp only [List.set_cons_zero, List.set_cons_succ] at H; clear hE hsay))
  clear hfmt ht0 c0
  replace H := H.drop (L' := [_]) (.cons _ (List.Sublist.refl _))
  go_upto_region 7 with (first
    | (go_at_call 9; refine (hop1 (H.get 0 rfl)).mono ?_; rintro e1 w3 ⟨jb, vs, vl, ps1, rfl, hps, hS⟩; replace H := H.opened hS; clear hS))
  clear hps hop1
  replace H := H.drop (L' := [_]) (.cons_cons _ (.cons _ (.cons _ (.cons _ .slnil))))
  go_upto_region 8 with (first | (refine L_lit (e := ?_) (cs := ?_) rfl rfl H ?_ ?_; rotate_left 2; (focus (intro _; first | (go_simp; done) | (go_simp; with_reducible rfl) | (go_simp; rfl))); all_goals skip; clear H; intro g w H; (try simp only [Act.put, List.setIfInBounds_toArray, List.set_cons_succ, List.set_cons_zero, List.getElem_toArray, List.getElem_cons_succ, List.getElem_cons_zero])))
  have H2 := H.toOwn 0 rfl 1 0 0 (Nat.le_refl _) (Nat.zero_le _) rfl [] rfl
  simp only [List.set_cons_zero] at H2
  have hst : KeepR b bs bm w0 (.int .i64 0) (.pointer (some ⟨jb, 0, none⟩)) (.slice (some ⟨g, 0, none⟩) 0 0) (.int .i64 0) w := ⟨0, D1, J1, jb, [], 0, 0, 0, _, rfl, rfl, rfl, rfl, rfl, HK0.out, (fun p hp => by cases hp), H2.perm (.swap _ _ _)⟩
  clear H H2 HK0
  go_wp2_with fail
  go_loopw [10, 4, 8, 9] (KeepR b bs bm w0) (fun vi _ _ _ _ => 60 - (intOf vi).toNat)
  case atStart => exact hst
  case round =>
    clear hst
    obtain ⟨i, d, j, jb, ws, sure, n8, c8, A8, h10, h4, h9, h8, hn8, hK, hrows, H⟩ := hrel
    subst h10 h4 h9 h8
    have hi60 := hK.i60
    have hwl := hK.wl
    rw [List.length_map] at hwl
    by_cases hlt : i < ps.length ∧ i < 60
    · obtain ⟨hlx, hl60⟩ := hlt
      have hlxi : (i : Int) < (ps.length : Int) := by omega
      have hl60i : (i : Int) < 60 := by omega
      have hwi : IntKind.i64.wrap ((i : Int) + 1) = ((i + 1 : Nat) : Int) := by rw [IntKind.wrap_i64]; omega
      obtain ⟨i1, hi1⟩ : ∃ i1, i + 1 = i1 := ⟨_, rfl⟩
      rw [hi1] at hwi
      obtain ⟨p, hp⟩ : ∃ p, ps[i] = p := ⟨_, rfl⟩
      have hmem : p ∈ ps := by rw [← hp]; exact List.getElem_mem hlx
      obtain ⟨bb, off, rfl, hcs⟩ := HX.out.cells hlx hp
      have hbs := HX.out.bs p hmem
      have hpo := HX.out.ok p hmem
      have hload := fun {w : World} (e : Ext0 w0 w) => HX.out.row.keep e
      obtain ⟨⟨⟨Ab, cb⟩, kd, bts, px, py, pz⟩, hpe⟩ : ∃ q, p = q := ⟨_, rfl⟩
      subst hpe
      simp only [DV.wv] at hbs
      obtain ⟨r, hrr⟩ : ∃ r, kd.tmod 10 = r := ⟨_, rfl⟩
      have HP := Lib.hid (And.intro hp (And.intro hlx (And.intro hpo (And.intro hK (And.intro hrows (And.intro hn8 (And.intro hi1 hbs)))))))
      obtain ⟨W, hfine, hW, hdl, hok⟩ := hK.facts
      clear hcs hmem hpo hK hrows hn8 hi1 hbs
      go_upto_region 17 with (first
        | (refine L_loadDV rfl rfl (hload H.ext) hlx rfl hp Tryd.underlying46 rfl info46 ?_; simp only [DV.wv]; (try simp only [Act.put, List.setIfInBounds_toArray, List.set_cons_succ, List.set_cons_zero, List.getElem_toArray, List.getElem_cons_succ, List.getElem_cons_zero]))
        | (refine L_alloc rfl rfl H Tryd.zeroValue46 ?_; clear H; intro gx w H; simp only [Value.cells] at H; (try simp only [Act.put, List.setIfInBounds_toArray, List.set_cons_succ, List.set_cons_zero, List.getElem_toArray, List.getElem_cons_succ, List.getElem_cons_zero]))
        | (refine L_storerow rfl rfl H 0 rfl rfl rfl info46 rfl rfl (one5 _ _ _ _ _ rfl rfl rfl rfl rfl) ?_; clear H; intro w H; simp only [List.set_cons_zero] at H; (try simp only [Act.put, List.setIfInBounds_toArray, List.set_cons_succ, List.set_cons_zero, List.getElem_toArray, List.getElem_cons_succ, List.getElem_cons_zero]))
        | (refine L_load1 rfl rfl H 0 rfl rfl rfl Tryd.isAgg5 ?_; (try simp only [Act.put, List.setIfInBounds_toArray, List.set_cons_succ, List.set_cons_zero, List.getElem_toArray, List.getElem_cons_succ, List.getElem_cons_zero])))
      have hK := HP.out.2.2.2.1
      have hi1 := HP.out.2.2.2.2.2.2.1
      have hn8 := HP.out.2.2.2.2.2.1
      by_cases hc01 : r = 0 ∨ r = 1
      · obtain ⟨j2, fr, t, hop, hfr, hsu, htw, hKn⟩ := hK.crash hl60 px py pz
        rw [hi1] at hKn
        have hcr := fun {w : World} (hD : (DiskA b bs bm d).says w) => crash_on b bs bm d px py pz w hD hfine.good
        obtain ⟨d2, hd2⟩ : ∃ d2, d.crash px py pz = d2 := ⟨_, rfl⟩
        rw [hd2] at hcr hop hKn
        obtain ⟨W2, hf2, hW2, hl2, hok2⟩ := hKn.facts
        have hopn := fun {w : World} (hD : (DiskA b bs bm d2).says w) => (open_any w hD hf2 2 50 (by rw [hl2]; exact ag_may)).mono (fun e w' h => opened_some (by rw [hop] at h; exact h))
        have hwb := hK.wb
        have hrows := HP.out.2.2.2.2.1
        rw [List.length_map] at htw
        obtain ⟨tt, htt⟩ : ∃ tt, fr + t = tt := ⟨_, rfl⟩
        rw [htt] at hsu htw hKn
        have hs1 : ¬ (tt : Int) < (sure : Int) := by omega
        have hs2 : ¬ (n8 : Int) < (tt : Int) := by omega
        have hwf : IntKind.i64.wrap (fr : Int) = (fr : Int) := by rw [IntKind.wrap_i64]; omega
        have hw23 : IntKind.i64.wrap (IntKind.i64.wrap (IntKind.i64.wrap 0 * 256) + IntKind.i64.wrap (fr : Int)) = (fr : Int) := by
          rw [show IntKind.i64.wrap (0 : Int) = 0 from rfl, show IntKind.i64.wrap ((0 : Int) * 256) = 0 from rfl, Int.zero_add, hwf, hwf]
        clear hwf
        have hw24 : IntKind.i64.wrap ((fr : Int) + (t : Int)) = (tt : Int) := by rw [IntKind.wrap_i64]; omega
        have hq : ((ws.drop fr).take t).map (·.2) = ((ws.map (·.2)).drop fr).take t := by rw [List.map_take, List.map_drop]
        have hqb : ∀ p ∈ (ws.drop fr).take t, ∀ x ∈ p.2, 0 ≤ x ∧ x ≤ 255 := fun p hp => (hwb p.2 (List.mem_map_of_mem (List.mem_of_mem_drop (List.mem_of_mem_take hp)))).1
        have hqr : ∀ {w : World}, Ext0 w0 w → (rowsA ((ws.drop fr).take t)).says w := fun e p hp => (hrows p (List.mem_of_mem_drop (List.mem_of_mem_take hp))).keep e
        have hsame := fun {w : World} {v u : Value} {qs : List ((Option Addr × Nat × Nat) × List Int)} (h1 : RdS encSl 1 w v (qs.map (·.1))) (h2 : RdS encSl 1 w u (((ws.map (·.1)).drop fr).take (tt - fr))) (h3 : (rowsA qs).says w) (he : Ext0 w0 w) (hqq : qs.map (·.2) = ((ws.map (·.2)).drop fr).take t) =>
          (rows_same v u qs ((ws.drop fr).take t) w h1 (by rw [List.map_take, List.map_drop, show t = tt - fr by omega]; exact h2) h3 (hqr he) (fun p hp x hx => by
            have hm : p.2 ∈ qs.map (·.2) := List.mem_map_of_mem hp
            rw [hqq, ← hq] at hm
            obtain ⟨p2, hp2, he2⟩ := List.mem_map.1 hm
            exact hqb p2 hp2 x (by rw [he2]; exact hx)) hqb (by
            have hlq := congrArg List.length hqq
            rw [List.length_map, List.length_take, List.length_drop, List.length_map] at hlq
            omega)).mono (R' := fun e w' => e = .returned (.bool true) ∧ Ext0 w w') (fun e w' h => ⟨by rw [h.1, decide_eq_true (hqq.trans hq.symm)], h.2⟩)
        have hlen : ∀ qs : List ((Option Addr × Nat × Nat) × List Int), qs.map (·.2) = ((ws.map (·.2)).drop fr).take t → qs.length = t := fun qs hqq => by
          have hlq := congrArg List.length hqq
          rw [List.length_map, List.length_take, List.length_drop, List.length_map] at hlq
          omega
        have hcc : tt ≤ c8 := by
          have h88 : RdS encSl 1 _ (.slice A8 n8 c8) (ws.map (·.1)) := RdS.own encSl_len (by simp) (H.get 2 rfl)
          obtain ⟨A9, c9, he9, hl9⟩ := h88.len
          cases he9
          rw [List.length_map] at hl9
          omega
        have hft : fr ≤ tt := by omega
        have hbb1 : (0 + ((ws.map (·.1)).take tt).length) * 24 ≤ 140737488355328 := by rw [List.length_take, List.length_map]; omega
        have hmm1 : 0 + ((ws.map (·.1)).take tt).length ≤ maxLen := by rw [List.length_take, List.length_map]; simp only [maxLen]; omega
        obtain ⟨A9, hA9⟩ : ∃ A9, (if c8 = fr then A8 else Option.map (fun x => x.add fr) A8) = A9 := ⟨_, rfl⟩
        have hA0 : (if c8 = 0 then A8 else Option.map (fun x => x.add 0) A8) = A8 := by
          split
          · rfl
          · cases A8 <;> simp [addr_add0]
        have hsub := fun {w : World} (h : RdS encSl 1 w (.slice A8 n8 c8) (ws.map (·.1))) => sub_rows h fr tt hft (by rw [List.length_map]; exact htw)
        have hsub0 := fun {w : World} (h : RdS encSl 1 w (.slice A8 n8 c8) (ws.map (·.1))) => sub_rows h 0 tt (Nat.zero_le _) (by rw [List.length_map]; exact htw)
        rw [hA9] at hsub
        rw [hA0] at hsub0
        simp only [Nat.sub_zero, List.drop_zero] at hsub0
        have HK := Lib.hid (And.intro hKn (And.intro hn8 (And.intro hrows (And.intro hi1 (And.intro htt htw)))))
        clear hn8 hK hKn HP hi1 hfine hok hdl hW hW2 hok2 hl2 hf2 hd2 hop hwb hrows hqb hqr hq htt
        rcases hc01 with rfl | rfl
        all_goals
          go_upto_region 20 with (first
            | (refine L_load1 rfl rfl H 0 rfl rfl rfl Tryd.isAgg3 ?_; (try simp only [Act.put, List.setIfInBounds_toArray, List.set_cons_succ, List.set_cons_zero, List.getElem_toArray, List.getElem_cons_succ, List.getElem_cons_zero]))
            | (go_at_call 22; refine (hcr (H.get 1 rfl).1).mono ?_; rintro e1 w2 ⟨rfl, hE, hsay⟩; replace H := H.jdiskAt 1 rfl hE hsay; simp only [List.set_cons_zero, List.set_cons_succ] at H; clear hE hsay))
          clear hcr
          replace H := (H.drop (L' := [_, _]) (.cons _ (List.Sublist.refl _))).undisk
          go_upto_region 21 with (first
            | (go_at_call 9; refine (hopn (H.get 0 rfl)).mono ?_; rintro e1 w3 ⟨jb2, vs, vl, ps2, rfl, hps2, hS⟩; obtain ⟨Al, cl, rfl⟩ := own_slice (hS.get 1 rfl); replace H := H.opened hS; clear hS))
          clear hopn
          have hlt := hlen ps2 hps2
          rw [hlt] at H
          obtain ⟨bv, ov, cs, rfl, hb0, hb1⟩ := tell_cells (H.get 3 rfl)
          have hb0 := fun {W : World} (e : Ext0 w3 W) => e.cell hb0 (fun h => h)
          have hb1 := fun {W : World} (e : Ext0 w3 W) => e.cell hb1 (fun h => h)
          have HP2 := Lib.hid hps2
          clear hps2 hlt
          go_upto_region 23 with fail
          have hD := SH.nil (fun _ => False) w3
          refine D_start hD (by kernel_rfl) (fun hS => ?_)
          try simp only [Act.put, List.setIfInBounds_toArray, List.set_cons_succ, List.set_cons_zero]
          refine D_take 0 (v := ?_) rfl (by kernel_rfl) (by kernel_rfl) (by kernel_rfl) (fun _ _ _ h => h) rfl (by rfl) (fun W hS => ?_) hS ?_
          rotate_left; (focus (first | (go_simp; done) | (go_simp; with_reducible rfl) | (go_simp; rfl))); all_goals skip; (try simp only [List.set_cons_succ, List.set_cons_zero])
          refine D_take 1 (v := ?_) rfl (by kernel_rfl) (by kernel_rfl) (by kernel_rfl) (fun _ _ _ h => h) rfl (by rfl) (fun W hS => ?_) hS ?_
          rotate_left; (focus (first | (go_simp; done) | (go_simp; with_reducible rfl) | (go_simp; rfl))); all_goals skip; (try simp only [List.set_cons_succ, List.set_cons_zero])
          refine D_take 2 (v := (.int .u8 0)) rfl (by kernel_rfl) (by kernel_rfl) (by kernel_rfl) (fun _ _ _ h => h) rfl (by rfl) (fun W hS => R_loadCellW (ty := 5) (x := .tmp 94) rfl rfl (hb0 hS.ext) Tryd.isAgg5) hS ?_; (try simp only [List.set_cons_succ, List.set_cons_zero])
          refine D_take 3 (v := ?_) rfl (by kernel_rfl) (by kernel_rfl) (by kernel_rfl) (fun _ _ _ h => h) rfl (by rfl) (fun W hS => ?_) hS ?_
          rotate_left; (focus (first | (go_simp; done) | (go_simp; with_reducible rfl) | (go_simp; rfl))); all_goals skip; (try simp only [List.set_cons_succ, List.set_cons_zero])
          refine D_take 4 (v := ?_) rfl (by kernel_rfl) (by kernel_rfl) (by kernel_rfl) (fun _ _ _ h => h) rfl (by rfl) (fun W hS => ?_) hS ?_
          rotate_left; (focus (first | (go_simp; done) | (go_simp; with_reducible rfl) | (go_simp; rfl))); all_goals skip; (try simp only [List.set_cons_succ, List.set_cons_zero])
          refine D_take 5 (v := ?_) rfl (by kernel_rfl) (by kernel_rfl) (by kernel_rfl) (fun _ _ _ h => h) rfl (by rfl) (fun W hS => ?_) hS ?_
          rotate_left; (focus (first | (go_simp; done) | (go_simp; with_reducible rfl) | (go_simp; rfl))); all_goals skip; (try simp only [List.set_cons_succ, List.set_cons_zero])
          refine D_take 6 (v := ?_) rfl (by kernel_rfl) (by kernel_rfl) (by kernel_rfl) (fun _ _ _ h => h) rfl (by rfl) (fun W hS => ?_) hS ?_
          rotate_left; (focus (first | (go_simp; done) | (go_simp; with_reducible rfl) | (go_simp; rfl))); all_goals skip; (try simp only [List.set_cons_succ, List.set_cons_zero])
          refine D_take 7 (v := (.int .u8 (fr : Int))) rfl (by kernel_rfl) (by kernel_rfl) (by kernel_rfl) (fun _ _ _ h => h) rfl (by rfl) (fun W hS => R_loadCellW (ty := 5) (x := .tmp 99) rfl rfl (hb1 hS.ext) Tryd.isAgg5) hS ?_; (try simp only [List.set_cons_succ, List.set_cons_zero])
          refine D_take 8 (v := ?_) rfl (by kernel_rfl) (by kernel_rfl) (by kernel_rfl) (fun _ _ _ h => h) rfl (by rfl) (fun W hS => ?_) hS ?_
          rotate_left; (focus (first | (go_simp; done) | (go_simp; with_reducible rfl) | (go_simp; rfl))); all_goals skip; (try simp only [List.set_cons_succ, List.set_cons_zero])
          refine D_take 9 (v := ?_) rfl (by kernel_rfl) (by kernel_rfl) (by kernel_rfl) (fun _ _ _ h => h) rfl (by rfl) (fun W hS => ?_) hS ?_
          rotate_left; (focus (first | (go_simp; done) | (go_simp; with_reducible rfl) | (go_simp; rfl))); all_goals skip; (try simp only [List.set_cons_succ, List.set_cons_zero])
          refine D_take 10 (v := ?_) rfl (by kernel_rfl) (by kernel_rfl) (by kernel_rfl) (fun _ _ _ h => h) rfl (by rfl) (fun W hS => ?_) hS ?_
          rotate_left; (focus (first | (go_simp; done) | (go_simp; with_reducible rfl) | (go_simp; rfl))); all_goals skip; (try simp only [List.set_cons_succ, List.set_cons_zero])
          refine wpAnyH_done (by kernel_rfl) ?_ _
          clear hb0 hb1
          replace H := H.drew
          clear hD hS
          go_upto_region 25 with fail
          go_upto_region 27 with (first
            | (go_at_call 23; refine (hsame (RdS.own encSl_len (by simp [hlen ps2 HP2.out]) (H.get 2 rfl)) (hsub (RdS.own encSl_len (by simp) (H.get 4 rfl))) (H.get 1 rfl) H.ext HP2.out).mono ?_; rintro e1 w4 ⟨rfl, hE⟩; replace H := H.calls hE; clear hE))
          clear hsame
          go_wp2_with (first
            | ((refine L_lit (e := ?_) (cs := ?_) rfl rfl H ?_ ?_; rotate_left 2; (focus (intro _; first | (go_simp; done) | (go_simp; with_reducible rfl) | (go_simp; rfl))); all_goals skip; clear H; intro g w H; (try simp only [Act.put, List.setIfInBounds_toArray, List.set_cons_succ, List.set_cons_zero, List.getElem_toArray, List.getElem_cons_succ, List.getElem_cons_zero])); replace H := H.toOwn 0 rfl 1 0 0 (Nat.le_refl _) (Nat.zero_le _) rfl [] rfl; simp only [List.set_cons_zero] at H; generalize Value.slice (some ⟨g, 0, none⟩) 0 0 = v0 at H ⊢)
            | (refine L_append (ys := (List.take tt (List.map Prod.fst ws) : List (Option Addr × Nat × Nat))) encSl_len encSl_one rfl rfl Tryd.underlying29 infoSl rfl (Nat.le_refl _) H 0 rfl rfl rfl (hsub0 (RdS.own encSl_len (by simp) (H.get 5 rfl))) hbb1 hmm1 ?_; clear H; intro v2 w H hnn; clear hnn; simp only [List.set_cons_zero] at H))
          obtain ⟨A7, c7, rfl⟩ := own_slice (H.get 0 rfl)
          go_roundw
          case rel =>
            refine ⟨i1, d2, j2, jb2, ws.take tt, tt, _, c7, A7, rfl, rfl, rfl, rfl, by simp, ?_, fun p hp => HK.out.2.2.1 p (List.mem_of_mem_take hp), ?_⟩
            · rw [List.map_take]
              exact HK.out.1
            · have h9 := (H.drop (L' := [_, _]) (.cons_cons _ (.cons_cons _ (List.nil_sublist _)))).perm (.swap _ _ _)
              have hL : (ws.take tt).length = 0 + ((ws.map (·.1)).take tt).length := by simp
              rw [List.map_take, hL]
              exact h9
          case measure => simp [intOf]; have := HK.out.2.2.2.1; omega
      · have hr0 : (r == 0) = false := by simp; omega
        have hr1 : (r == 1) = false := by simp; omega
        by_cases h2 : r = 2
        · subst h2
          obtain ⟨m, hm⟩ : ∃ m : Nat, pz % 16 = (m : Int) := ⟨(pz % 16).toNat, by omega⟩
          have hm16 : m < 16 := by omega
          have hm0 : IntKind.i64.wrap (m : Int) = (m : Int) := by rw [IntKind.wrap_i64]; omega
          have hm1 : IntKind.u8.wrap (m : Int) = (m : Int) := by rw [IntKind.wrap_u8]; omega
          have hfu := fun {w : World} (hD : (DiskA b bs bm d).says w) => fuse_any b bs bm d (m : Int) w hD
          have hKn := hK.fuse hl60 (m : Int) (by omega)
          rw [hi1] at hKn
          have HK := Lib.hid (And.intro hKn (And.intro hn8 (And.intro HP.out.2.2.2.2.1 hi1)))
          clear hK hKn hn8 HP hm16 hc01 hi1 hfine hok hdl
          go_wp2_with (first
            | (refine L_load1 rfl rfl H 0 rfl rfl rfl Tryd.isAgg3 ?_; (try simp only [Act.put, List.setIfInBounds_toArray, List.set_cons_succ, List.set_cons_zero, List.getElem_toArray, List.getElem_cons_succ, List.getElem_cons_zero]))
            | (go_at_call 24; refine (hfu (H.get 1 rfl).1).mono ?_; rintro e1 w2 ⟨rfl, hE, hsay⟩; replace H := H.jdiskAt 1 rfl (hE.mono (fun i _ h => .inl h)) hsay; simp only [List.set_cons_zero, List.set_cons_succ] at H; clear hE hsay))
          go_roundw
          case rel => exact ⟨i1, _, j, jb, ws, sure, n8, c8, A8, rfl, rfl, rfl, rfl, HK.out.2.1, HK.out.1, HK.out.2.2.1, H.drop (.cons _ (List.Sublist.refl _))⟩
          case measure => simp [intOf]; have := HK.out.2.2.2; omega
        · have hr2 : (r == 2) = false := by simp; omega
          by_cases h34 : r = 3 ∨ r = 4
          · have hcm := fun {w : World} (h : (JD b bs bm jb d j).says w) => commit_any w h hfine
            unfold JE at hcm
            have hKn := hK.commit hl60
            rw [hi1, List.length_map] at hKn
            obtain ⟨R, hR⟩ : ∃ R, commitP d j = R := ⟨_, rfl⟩
            rw [hR] at hcm hKn
            obtain ⟨rc, hrc⟩ : ∃ rc, R.2.2 = rc := ⟨_, rfl⟩
            rw [hrc] at hKn
            simp only [hrc] at hcm
            have hKz : rc = 0 → K i1 R.1 R.2.1 (ws.map (·.2)) n8 := fun h => by rw [if_pos h, ← hn8] at hKn; exact hKn
            have hKy : rc ≠ 0 → K i1 R.1 R.2.1 (ws.map (·.2)) sure := fun h => by rw [if_neg h] at hKn; exact hKn
            have HK := Lib.hid (And.intro (And.intro hKz hKy) (And.intro hn8 (And.intro HP.out.2.2.2.2.1 hi1)))
            clear hK hKn hKz hKy hn8 HP hc01 hi1 hfine hok hdl hR hrc
            by_cases hz : rc = 0
            · subst hz
              rcases h34 with rfl | rfl
              all_goals
                go_wp2_with (first
                  | (go_at_call 16; refine (hcm (H.get 1 rfl)).mono ?_; rintro e1 w2 ⟨rfl, hE, hsay⟩; replace H := H.jd 1 rfl hE hsay; simp only [List.set_cons_zero, List.set_cons_succ] at H; clear hE hsay))
                go_roundw
                case rel => exact ⟨i1, _, _, jb, ws, n8, n8, c8, A8, rfl, rfl, rfl, rfl, HK.out.2.1, HK.out.1.1 trivial, HK.out.2.2.1, H.drop (.cons _ (List.Sublist.refl _))⟩
                case measure => simp [intOf]; have := HK.out.2.2.2; omega
            · have hz2 : (rc == 0) = false := by simp [hz]
              rcases h34 with rfl | rfl
              all_goals
                go_wp2_with (first
                  | (go_at_call 16; refine (hcm (H.get 1 rfl)).mono ?_; rintro e1 w2 ⟨rfl, hE, hsay⟩; replace H := H.jd 1 rfl hE hsay; simp only [List.set_cons_zero, List.set_cons_succ] at H; clear hE hsay))
                go_roundw
                case rel => exact ⟨i1, _, _, jb, ws, sure, n8, c8, A8, rfl, rfl, rfl, rfl, HK.out.2.1, HK.out.1.2 hz, HK.out.2.2.1, H.drop (.cons _ (List.Sublist.refl _))⟩
                case measure => simp [intOf]; have := HK.out.2.2.2; omega
          · have hr3 : (r == 3) = false := by simp; omega
            have hr4 : (r == 4) = false := by simp; omega
            by_cases h5 : r = 5
            · subst h5
              have htl := fun {w : World} => tell_any n8 (by omega) w
              have hck := fun {w : World} {v : Value} (h : (JD b bs bm jb d j).says w) (hr : RdS (encInt .u8) 1 w v (tellN n8)) => checkpoint_any w h hfine (by omega) hok hr (tell_bytes (by omega))
              unfold JE at hck
              have hKn := hK.checkpoint hl60
              rw [hi1, List.length_map, ← hn8] at hKn
              obtain ⟨R, hR⟩ : ∃ R, checkpointP d j (tellN n8) = R := ⟨_, rfl⟩
              rw [hR] at hck hKn
              obtain ⟨rc, hrc⟩ : ∃ rc, R.2.2 = rc := ⟨_, rfl⟩
              rw [hrc] at hKn
              simp only [hrc] at hck
              have hKz : rc = 0 → K i1 R.1 R.2.1 (ws.map (·.2)) n8 := fun h => by rw [if_pos h] at hKn; exact hKn
              have hKy : rc ≠ 0 → K i1 R.1 R.2.1 (ws.map (·.2)) sure := fun h => by rw [if_neg h] at hKn; exact hKn
              have HK := Lib.hid (And.intro (And.intro hKz hKy) (And.intro hn8 (And.intro HP.out.2.2.2.2.1 hi1)))
              clear hK hKn hKz hKy hn8 HP hc01 hi1 hfine hok hdl hR hrc
              by_cases hz : rc = 0
              · subst hz
                go_wp2_with (first
                  | (go_at_call 21; refine htl.mono ?_; rintro e w ⟨g9, rfl, h⟩; replace H := H.cat h; clear h; simp only [List.cons_append, List.nil_append] at H)
                  | (go_at_call 10; refine (hck (H.get 2 rfl) (two_bytes (H.at_ 0 rfl))).mono ?_; rintro e1 w2 ⟨rfl, hE, hsay⟩; replace H := H.jd 2 rfl hE hsay; simp only [List.set_cons_zero, List.set_cons_succ] at H; clear hE hsay))
                go_roundw
                case rel => exact ⟨i1, _, _, jb, ws, n8, n8, c8, A8, rfl, rfl, rfl, rfl, HK.out.2.1, HK.out.1.1 trivial, HK.out.2.2.1, H.drop (.cons _ (.cons _ (List.Sublist.refl _)))⟩
                case measure => simp [intOf]; have := HK.out.2.2.2; omega
              · have hz2 : (rc == 0) = false := by simp [hz]
                go_wp2_with (first
                  | (go_at_call 21; refine htl.mono ?_; rintro e w ⟨g9, rfl, h⟩; replace H := H.cat h; clear h; simp only [List.cons_append, List.nil_append] at H)
                  | (go_at_call 10; refine (hck (H.get 2 rfl) (two_bytes (H.at_ 0 rfl))).mono ?_; rintro e1 w2 ⟨rfl, hE, hsay⟩; replace H := H.jd 2 rfl hE hsay; simp only [List.set_cons_zero, List.set_cons_succ] at H; clear hE hsay))
                go_roundw
                case rel => exact ⟨i1, _, _, jb, ws, sure, n8, c8, A8, rfl, rfl, rfl, rfl, HK.out.2.1, HK.out.1.2 hz, HK.out.2.2.1, H.drop (.cons _ (.cons _ (List.Sublist.refl _)))⟩
                case measure => simp [intOf]; have := HK.out.2.2.2; omega
            · have hr5 : (r == 5) = false := by simp; omega
              have hbs' := HP.out.2.2.2.2.2.2.2
              have hpo := HP.out.2.2.1
              have hbb : Bytes (bts.take 50) := fun x hx => hpo.b x (List.mem_of_mem_take hx)
              have hb50 : (bts.take 50).length ≤ 50 := by rw [List.length_take]; omega
              have hfew := fun {w : World} => few_c (.slice Ab bts.length cb) bts 50 (by omega) w0 w hbs'
              have hap := fun {w : World} {va : Value} (h : (JD b bs bm jb d j).says w) (hr : RdS (encInt .u8) 1 w va (bts.take 50)) => append_any w h hfine (by omega) hok hr hbb (by omega)
              unfold JE at hap
              have hKn := hK.append hl60 hbb hb50
              rw [hi1] at hKn
              obtain ⟨tb, htb⟩ : ∃ tb, bts.take 50 = tb := ⟨_, rfl⟩
              rw [htb] at hfew hap hKn
              obtain ⟨R, hR⟩ : ∃ R, appendP d j tb = R := ⟨_, rfl⟩
              rw [hR] at hap hKn
              obtain ⟨rc, hrc⟩ : ∃ rc, R.2.2 = rc := ⟨_, rfl⟩
              rw [hrc] at hKn
              simp only [hrc] at hap
              have hKz : rc = 0 ∨ rc = 10 → K i1 R.1 R.2.1 (ws.map (·.2) ++ [tb]) sure := fun h => by rw [if_pos h] at hKn; exact hKn
              have hKy : ¬ (rc = 0 ∨ rc = 10) → K i1 R.1 R.2.1 (ws.map (·.2)) sure := fun h => by rw [if_neg h] at hKn; exact hKn
              have HK := Lib.hid (And.intro (And.intro hKz hKy) (And.intro hn8 (And.intro HP.out.2.2.2.2.1 hi1)))
              have hb1 : (ws.length + [((none, 0, 0) : Option Addr × Nat × Nat)].length) * 24 ≤ 140737488355328 := by simp only [List.length_cons, List.length_nil]; omega
              have hm1 : ws.length + [((none, 0, 0) : Option Addr × Nat × Nat)].length ≤ maxLen := by simp only [maxLen, List.length_cons, List.length_nil]; omega
              clear hK hKn hKz hKy hn8 HP hc01 hi1 hfine hok hdl hR hrc hbs' hpo hbb hb50 htb
              by_cases hz : rc = 0 ∨ rc = 10
              · have hz1 : (rc == 0 || rc == 10) = true := by rcases hz with rfl | rfl <;> decide
                go_upto_region 15 with (first
                  | (refine L_load1 rfl rfl H 0 rfl rfl rfl Tryd.isAgg23 ?_; (try simp only [Act.put, List.setIfInBounds_toArray, List.set_cons_succ, List.set_cons_zero, List.getElem_toArray, List.getElem_cons_succ, List.getElem_cons_zero]))
                  | (go_at_call 15; refine hfew.mono ?_; rintro e1 w2 ⟨⟨A9, n9, c9, rfl, hn9, hru⟩, rfl⟩; clear hn9)
                  | (go_at_call 13; refine (hap (H.get 1 rfl) (hru.keep H.ext)).mono ?_; rintro e1 w2 ⟨rfl, hE, hsay⟩; replace H := H.jd 1 rfl hE hsay; simp only [List.set_cons_zero, List.set_cons_succ] at H; clear hE hsay))
                have HRU := Lib.hid (And.intro trivial hru)
                clear hru hfew hap
                rcases hz with rfl | rfl
                all_goals
                  go_wp2_with (first
                    | (refine L_lit (e := ?_) (cs := ?_) rfl rfl H ?_ ?_; rotate_left 2; (focus (intro _; first | (go_simp; done) | (go_simp; with_reducible rfl) | (go_simp; rfl))); all_goals skip; clear H; intro g w H; (try simp only [Act.put, List.setIfInBounds_toArray, List.set_cons_succ, List.set_cons_zero, List.getElem_toArray, List.getElem_cons_succ, List.getElem_cons_zero]))
                    | (refine L_append (ys := [(A9, n9, c9)]) encSl_len encSl_one rfl rfl Tryd.underlying29 infoSl rfl (Nat.le_refl _) H 3 rfl rfl rfl (one_part (A9, n9, c9) (H.at_ 0 rfl)) hb1 hm1 ?_; clear H; intro v2 w H hnn; clear hnn; simp only [List.set_cons_succ, List.set_cons_zero] at H))
                  obtain ⟨A7, c7, rfl⟩ := own_slice (H.get 3 rfl)
                  go_roundw
                  case rel =>
                    refine ⟨i1, R.1, R.2.1, jb, ws ++ [((A9, n9, c9), tb)], sure, _, c7, A7, rfl, rfl, rfl, rfl, by simp, ?_, ?_, ?_⟩
                    · have h9 := HK.out.1.1 (by simp)
                      rw [List.map_append]
                      exact h9
                    · intro p hp
                      rcases List.mem_append.1 hp with hp | hp
                      · exact HK.out.2.2.1 p hp
                      · rw [List.mem_singleton.1 hp]; exact HRU.out.2
                    · have h9 := H.drop (.cons _ (.cons _ (List.Sublist.refl _)))
                      rw [List.length_append, List.map_append, cellsOf_append]
                      exact h9
                  case measure => simp [intOf]; have := HK.out.2.2.2; omega
              · have hz1 : (rc == 0) = false := by simp; omega
                have hz2 : (rc == 10) = false := by simp; omega
                go_wp2_with (first
                  | (refine L_load1 rfl rfl H 0 rfl rfl rfl Tryd.isAgg23 ?_; (try simp only [Act.put, List.setIfInBounds_toArray, List.set_cons_succ, List.set_cons_zero, List.getElem_toArray, List.getElem_cons_succ, List.getElem_cons_zero]))
                  | (go_at_call 15; refine hfew.mono ?_; rintro e1 w2 ⟨⟨A9, n9, c9, rfl, hn9, hru⟩, rfl⟩; clear hn9)
                  | (go_at_call 13; refine (hap (H.get 1 rfl) (hru.keep H.ext)).mono ?_; rintro e1 w2 ⟨rfl, hE, hsay⟩; replace H := H.jd 1 rfl hE hsay; simp only [List.set_cons_zero, List.set_cons_succ] at H; clear hE hsay hru))
                go_roundw
                case rel => exact ⟨i1, _, _, jb, ws, sure, n8, c8, A8, rfl, rfl, rfl, rfl, HK.out.2.1, HK.out.1.2 hz, HK.out.2.2.1, H.drop (.cons _ (List.Sublist.refl _))⟩
                case measure => simp [intOf]; have := HK.out.2.2.2; omega
    · have HK := Lib.hid (And.intro hK hrows)
      clear hK hrows hn8 hwl
      by_cases h1 : i < ps.length
      · have h1i : (i : Int) < (ps.length : Int) := by omega
        have h2i : ¬ (i : Int) < 60 := by omega
        clear hlt
        go_wp2_with (first
          | (go_at_call 14; refine (awake_any _).mono ?_; rintro e1 w2 ⟨rfl, hE⟩; replace H := H.calls hE; clear hE))
        go_ret
        exact ⟨rfl, H.ext⟩
      · have h1i : ¬ (i : Int) < (ps.length : Int) := by omega
        clear hlt
        go_wp2_with (first
          | (go_at_call 14; refine (awake_any _).mono ?_; rintro e1 w2 ⟨rfl, hE⟩; replace H := H.calls hE; clear hE))
        go_ret
        exact ⟨rfl, H.ext⟩
theorem keeps_any (v : Value) (ps : List DV) (w0 : World) (hr : DvR w0 v ps) : Calls Tryd.prog 5 #[v] w0 fun e w' => e = .returned (.bool true) ∧ Ext0 w0 w' := keeps_walk v ps w0 hr
end Go.Proofs.YtgmeahogdjhejaaDoor
