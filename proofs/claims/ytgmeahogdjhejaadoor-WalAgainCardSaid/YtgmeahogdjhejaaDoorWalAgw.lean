/- WalAgain: the walk. -/
import Derived.Test.YtgmeahogdjhejaaDoorWalAg
import Derived.Test.YtgmeahogdjhejaaDoorWalDd
import Derived.Deep.RegionWith
namespace Go.Proofs.YtgmeahogdjhejaaDoor
set_option linter.unusedVariables false
set_option linter.unusedSimpArgs false
open Go.RowKit Go.Shelf

def AgR (b bs bm jb g3 : Nat) (X : Array Value) (d2 : DS) (w0 : World) (v10 : Value) (wr : World) : Prop :=
  ∃ (i : Nat) (d : DS) (j : JS) (W : Int), v10 = .int .i64 (i : Int) ∧ i ≤ 30 ∧ Held d2 d 4 ∧ d.Fine W ∧ d.sure.length = 60 ∧ j.Ok 60 ∧ j.slot = 2 ∧ W ≤ 6000 + 3000 * i ∧ SH (fun _ => False) w0 wr [JD b bs bm jb d j, pt g3 (.cells X 46 (0, 0))]
set_option maxRecDepth 100000 in
set_option maxHeartbeats 8000000 in
theorem again_walk {d0 d1 d2 : DS} {j1 j2 : JS} (hA : Ag d0 d1 d2 j1 j2) (c0 : ∀ w, Calls Tryd.prog 7 #[.int .i64 60] w (GivesDisk w d0)) (v : Value) (ps : List DV) (k1 : Int) (A1 : Option Addr) (n1 c1 : Nat) (x y z : Int) (w0 : World) (hr : DvR w0 v ps) :
    Calls Tryd.prog 6 #[v, .agg #[.int .u8 k1, .slice A1 n1 c1, .int .i64 x, .int .i64 y, .int .i64 z]] w0 fun e w' => e = .returned (.bool true) ∧ Ext0 w0 w' := by
  obtain ⟨A, cap, rfl, hcap⟩ := hr.row.len
  have H : SH (fun _ => False) w0 w0 [] := SH.nil _ _
  have hmay : mayP d1.sure.length ((2 : Nat) : Int) ((50 : Nat) : Int) := by rw [hA.l1]; exact ag_may
  have hfmt := fun {b bs bm : Nat} {w : World} (hD : (DiskA b bs bm d0).says w) => format_any w hD hA.f0 (by omega) 2 50 (v := .slice none 0 0) (xs := []) (RdS.nil _ _ _) (by simp) (fun j hj => by cases hj)
  unfold FormatE at hfmt
  rw [hA.fo] at hfmt
  have hop1 := fun {b bs bm : Nat} {w : World} (hD : (DiskA b bs bm d1).says w) => (open_any w hD hA.f1 2 50 hmay).mono (fun e w' h => opened_some (by rw [hA.op] at h; exact h))
  have hck := fun {b bs bm jb : Nat} {w : World} (h : (JD b bs bm jb d1 j1).says w) => checkpoint_any w h hA.f1 (by omega) (by rw [hA.l1]; exact hA.k1) (v := .slice none 0 0) (xs := []) (RdS.nil _ _ _) (by simp)
  unfold JE at hck
  rw [hA.ck] at hck
  have HA := Lib.hid hA
  have HX := Lib.hid hr
  clear hA hr hmay
  go_enter Tryd.func6, Tryd.ntmps6
  go_upto_region 4 with (first
    | (refine L_box rfl rfl H rfl rfl ?_; clear H; intro g w H; (try simp only [Act.eval, Array.getD_eq_getD_getElem?, List.getElem?_toArray, List.getElem?_cons_succ, List.getElem?_cons_zero, Option.getD_some, Value.cells] at H); (try simp only [Act.put, List.setIfInBounds_toArray, List.set_cons_succ, List.set_cons_zero, List.getElem_toArray, List.getElem_cons_succ, List.getElem_cons_zero]))
    | (go_at_call 7; refine (c0 _).mono ?_; rintro e w ⟨b, bs, bm, rfl, h⟩; replace H := H.cat h; clear h; simp only [List.cons_append, List.nil_append] at H)
    | (go_at_call 8; refine (hfmt (H.get 0 rfl)).mono ?_; rintro e1 w2 ⟨rfl, hE, hsay⟩; replace H := H.disk 0 rfl hE hsay; simp only [List.set_cons_zero, List.set_cons_succ] at H; clear hE hsay))
  clear hfmt
  go_upto_region 5 with (first
    | (go_at_call 9; refine (hop1 (H.get 0 rfl)).mono ?_; rintro e1 w3 ⟨jb, vs, vl, ps1, rfl, hps, hS⟩; replace H := H.opened hS; clear hS))
  clear hps hop1
  replace H := H.drop (L' := [_, _]) (.cons_cons _ (.cons _ (.cons _ (.cons _ (.cons_cons _ .slnil)))))
  go_upto_region 6 with (first
    | (go_at_call 10; refine (hck (H.get 0 rfl)).mono ?_; rintro e1 w2 ⟨rfl, hE, hsay⟩; replace H := H.jd 0 rfl hE hsay; simp only [List.set_cons_zero, List.set_cons_succ] at H; clear hE hsay))
  clear hck
  have hst : AgR b bs bm jb g #[.int .u8 k1, .slice A1 n1 c1, .int .i64 x, .int .i64 y, .int .i64 z] d2 w0 (.int .i64 0) w2 := ⟨0, d2, j2, 6000, rfl, by omega, held_self HA.out.pend 4, HA.out.f2, HA.out.l2, HA.out.k2, HA.out.slot, by omega, H⟩
  clear H
  go_wp2_with fail
  go_loopw [10] (AgR b bs bm jb g #[.int .u8 k1, .slice A1 n1 c1, .int .i64 x, .int .i64 y, .int .i64 z] d2 w0) (fun vi _ => 30 - (intOf vi).toNat)
  case atStart => exact hst
  case round =>
    clear hst
    obtain ⟨i, d, j, W, rfl, hi30, hheld, hfine, hdl, hok, hslot, hW, H⟩ := hrel
    by_cases hlt : i < ps.length ∧ i < 30
    · obtain ⟨hlx, hl30⟩ := hlt
      have hlxi : (i : Int) < (ps.length : Int) := by omega
      have hl30i : (i : Int) < 30 := by omega
      have hwi : IntKind.i64.wrap ((i : Int) + 1) = ((i + 1 : Nat) : Int) := by rw [IntKind.wrap_i64]; omega
      obtain ⟨i1, hi1⟩ : ∃ i1, i + 1 = i1 := ⟨_, rfl⟩
      rw [hi1] at hwi
      obtain ⟨p, hp⟩ : ∃ p, ps[i] = p := ⟨_, rfl⟩
      have hmem : p ∈ ps := by rw [← hp]; exact List.getElem_mem hlx
      obtain ⟨bb, off, rfl, hcs⟩ := HX.out.cells hlx hp
      have hbs := HX.out.bs p hmem
      have hpo := HX.out.ok p hmem
      have hc0 := fun {w : World} (e : Ext0 w0 w) => e.cell (hcs 0 (by omega)) (fun h => h)
      have hc1 := fun {w : World} (e : Ext0 w0 w) => e.cell (hcs 1 (by omega)) (fun h => h)
      simp only [dvCells, List.getElem?_cons_zero, List.getElem?_cons_succ, Nat.add_zero] at hc0 hc1
      obtain ⟨⟨⟨Ab, cb⟩, kd, bts, px, py, pz⟩, hpe⟩ : ∃ q, p = q := ⟨_, rfl⟩
      subst hpe
      simp only [DV.wv] at hc0 hc1 hbs
      have hfew := fun {w : World} (e : Ext0 w0 w) => few_b _ bts 50 (by omega) w (hbs.keep e)
      have hbb : Bytes (bts.take 50) := fun x hx => hpo.b x (List.mem_of_mem_take hx)
      obtain ⟨nb, hnb⟩ : ∃ nb, bts.length = nb := ⟨_, rfl⟩
      rw [hnb] at hc1 hfew
      obtain ⟨r, hrr⟩ : ∃ r, kd.tmod 3 = r := ⟨_, rfl⟩
      have hjo : j.Ok d.sure.length := by rw [hdl]; exact hok
      by_cases h0 : r = 0
      · subst h0
        have hcm := fun {w : World} (h : (JD b bs bm jb d j).says w) => commit_any w h hfine
        unfold JE at hcm
        have hokk := commit_ok hfine hdl hok
        have hhd := hheld.commit hfine j
        have hsl : (commitP d j).2.1.slot = j.slot := (commit_fine hfine hjo).2.2.2.1
        obtain ⟨r3, hr3⟩ : ∃ r3, commitP d j = r3 := ⟨_, rfl⟩
        rw [hr3] at hcm hokk hhd hsl
        have HK := Lib.hid (And.intro hokk (And.intro hhd (And.intro (hsl.trans hslot) (And.intro hW hi1))))
        clear hokk hhd hsl hslot hW hi1 hr3 hheld hfine hdl hok hjo hbs hpo hnb hbb hmem hp hcs hfew hc1
        have hcc := hc0 H.ext
        go_upto_region 10 with fail
        clear hcc
        go_wp2_with (first
          | (go_at_call 16; refine (hcm (H.get 0 rfl)).mono ?_; rintro e1 w2 ⟨rfl, hE, hsay⟩; replace H := H.jd 0 rfl hE hsay; simp only [List.set_cons_zero, List.set_cons_succ] at H; clear hE hsay))
        go_roundw
        case rel =>
          have h9 := HK.out
          exact ⟨i1, r3.1, r3.2.1, W, rfl, by omega, h9.2.1, h9.1.1, h9.1.2.1, h9.1.2.2, h9.2.2.1, by omega, H⟩
        case measure => simp [intOf]; have := HK.out; omega
      · have hap := fun {w : World} {va : Value} (h : (JD b bs bm jb d j).says w) (hr : RdS (encInt .u8) 1 w va (bts.take 50)) => append_any w h hfine (by omega) hjo hr hbb (by rw [List.length_take]; omega)
        unfold JE at hap
        have hokk := append_ok hfine hdl hok hbb
        have hhd := hheld.append hfine (by rw [hslot]; omega) hbb
        have hsl : (appendP d j (bts.take 50)).2.1.slot = j.slot := (append_fine hfine hjo hbb).2.2.2.1
        obtain ⟨r3, hr3⟩ : ∃ r3, appendP d j (bts.take 50) = r3 := ⟨_, rfl⟩
        rw [hr3] at hap hokk hhd hsl
        have HK := Lib.hid (And.intro hokk (And.intro hhd (And.intro (hsl.trans hslot) (And.intro hW hi1))))
        clear hokk hhd hsl hslot hW hi1 hr3 hheld hfine hdl hok hjo hbs hpo hnb hbb hmem hp hcs
        have hcc := hc0 H.ext
        have hcd := hc1 H.ext
        have hr0 : ¬ r = 0 := h0
        have hr1 : (r == 0) = false := by simp [h0]
        go_upto_region 11 with fail
        go_wp2_with (first
          | (go_at_call 15; refine (hfew H.ext).mono ?_; rintro e1 w2 ⟨⟨u2, rfl, hru⟩, rfl⟩; clear hcc hcd)
          | (go_at_call 13; refine (hap (H.get 0 rfl) hru).mono ?_; rintro e1 w2 ⟨rfl, hE, hsay⟩; replace H := H.jd 0 rfl hE hsay; simp only [List.set_cons_zero, List.set_cons_succ] at H; clear hE hsay hru))
        go_roundw
        case rel =>
          have h9 := HK.out
          exact ⟨i1, r3.1, r3.2.1, _, rfl, by omega, h9.2.1, h9.1.1, h9.1.2.1, h9.1.2.2, h9.2.2.1, by omega, H⟩
        case measure => simp [intOf]; have := HK.out; omega
    · have hmay3 : mayP 60 ((2 : Nat) : Int) ((50 : Nat) : Int) := ag_may
      have hcr := fun {w : World} (hD : (DiskA b bs bm d).says w) => crash_on b bs bm d x y z w hD hfine.good
      have hf3 := hfine.crash x y z
      have hl3 : (d.crash x y z).sure.length = 60 := (crash_len d x y z).trans hdl
      have hb3 := (hheld.crash hfine x y z).best (slot := 2) HA.out.pend
      have hfu3 : (d.crash x y z).fuse = -1 := rfl
      have hpe3 : (d.crash x y z).pend = [] := rfl
      obtain ⟨d3, hd3⟩ : ∃ d3, d.crash x y z = d3 := ⟨_, rfl⟩
      rw [hd3] at hcr hf3 hl3 hb3 hfu3 hpe3
      obtain ⟨j3, st, xss, hop⟩ := open_of_best (log := 50) hb3 HA.out.best
      have hok3 := open_ok hf3 (by rw [hl3]; exact hmay3) hop
      have hxl := open_len hop
      have hcr3 := fun {w : World} (hD : (DiskA b bs bm d3).says w) => crash_on b bs bm d3 z x y w hD hf3.good
      rw [crash_still d3 hfu3 hpe3] at hcr3
      have hopn := fun {w : World} (hD : (DiskA b bs bm d3).says w) => (open_any w hD hf3 2 50 (by rw [hl3]; exact hmay3)).mono (fun e w' h => opened_some (by rw [hop] at h; exact h))
      have hwr := fun {w : World} (hD : (DiskA b bs bm d3).says w) => writes_any b bs bm d3 w hD
      have hpn := fun {w : World} (hD : (DiskA b bs bm d3).says w) => pending_any b bs bm d3 w hD
      rw [hpe3] at hpn
      have hep := fun {jb : Nat} {w : World} (h : w.heap[jb]? = some (.cells (jCells b j3) 67 (0, 0))) => epoch_any w h
      have hse := fun {jb : Nat} {w : World} (h : w.heap[jb]? = some (.cells (jCells b j3) 67 (0, 0))) => seq_any w h
      have hpl := fun {jb : Nat} {w : World} (h : w.heap[jb]? = some (.cells (jCells b j3) 67 (0, 0))) => jplace_any w h
      have hro := fun {jb : Nat} {w : World} (h : w.heap[jb]? = some (.cells (jCells b j3) 67 (0, 0))) => room_any w h (by rw [hok3.2.2.1]; omega) hok3.1.used
      obtain ⟨e3, he3⟩ : ∃ e3, j3.epoch = e3 := ⟨_, rfl⟩
      obtain ⟨q3, hq3⟩ : ∃ q3, j3.seq = q3 := ⟨_, rfl⟩
      obtain ⟨p3, hp3⟩ : ∃ p3, j3.place = p3 := ⟨_, rfl⟩
      obtain ⟨r3, hr3⟩ : ∃ r3, j3.log - j3.used = r3 := ⟨_, rfl⟩
      obtain ⟨n3, hn3⟩ : ∃ n3, d3.writes = n3 := ⟨_, rfl⟩
      rw [he3] at hep
      rw [hq3] at hse
      rw [hp3] at hpl
      rw [hr3] at hro
      rw [hn3] at hwr
      obtain ⟨ss, hss⟩ : ∃ ss, strOfNums st = ss := ⟨_, rfl⟩
      have hstr := fun {v : Value} {w : World} (h : (rdA v st).says w) => (run_string (src := 23) (dst := 9) h Tryd.underlying23 Tryd.underlying5 Tryd.underlying9)
      rw [hss] at hstr
      have hbx : ∀ qs : List ((Option Addr × Nat × Nat) × List Int), qs.map (·.2) = xss → qs.length ≤ 1000000 ∧ ∀ p ∈ qs, ∀ x ∈ p.2, 0 ≤ x ∧ x ≤ 255 := fun qs hq => by
        refine ⟨by have := congrArg List.length hq; rw [List.length_map] at this; omega, fun p hp => ?_⟩
        have : p.2 ∈ qs.map (·.2) := List.mem_map_of_mem hp
        rw [hq] at this
        exact (hok3.2.2.2.2.2.2.2 _ this).1
      have hsame := fun {w : World} {v u : Value} {qs rs : List ((Option Addr × Nat × Nat) × List Int)} (h1 : RdS encSl 1 w v (qs.map (·.1))) (h2 : RdS encSl 1 w u (rs.map (·.1))) (h3 : (rowsA qs).says w) (h4 : (rowsA rs).says w) (hq : qs.map (·.2) = xss) (hr : rs.map (·.2) = xss) =>
        (rows_same v u qs rs w h1 h2 h3 h4 (hbx qs hq).2 (hbx rs hr).2 (hbx qs hq).1).mono (R' := fun e w' => e = .returned (.bool true) ∧ Ext0 w w') (fun e w' h => ⟨by rw [h.1, decide_eq_true (hq.trans hr.symm)], h.2⟩)
      replace H := H.drop (L' := [_, _]) (List.Sublist.refl _)
      clear hb3 hfu3 hpe3 hop hok3 hxl hf3 hl3 hheld hfine hdl hok hslot hW he3 hq3 hp3 hr3 hn3 hss hd3 hbx hmay3
      by_cases h1 : i < ps.length
      · have h1i : (i : Int) < (ps.length : Int) := by omega
        have h2i : ¬ (i : Int) < 30 := by omega
        clear hlt
        go_upto_region 13 with (first
          | (refine L_load1 rfl rfl H 0 rfl rfl rfl Tryd.isAgg3 ?_; (try simp only [Act.put, List.setIfInBounds_toArray, List.set_cons_succ, List.set_cons_zero, List.getElem_toArray, List.getElem_cons_succ, List.getElem_cons_zero])) | (refine L_load1 rfl rfl H 1 rfl rfl rfl Tryd.isAgg3 ?_; (try simp only [Act.put, List.setIfInBounds_toArray, List.set_cons_succ, List.set_cons_zero, List.getElem_toArray, List.getElem_cons_succ, List.getElem_cons_zero]))
          | (go_at_call 22; refine (hcr (H.get 0 rfl).1).mono ?_; rintro e1 w2 ⟨rfl, hE, hsay⟩; replace H := H.jdisk hE hsay; clear hE hsay))
        go_upto_region 14 with (first
          | (go_at_call 25; refine (hwr (H.get 0 rfl).1).mono ?_; rintro e1 w2 ⟨rfl, rfl⟩))
        replace H := H.undisk
        go_upto_region 15 with (first
          | (go_at_call 9; refine (hopn (H.get 0 rfl)).mono ?_; rintro e1 w3 ⟨jb2, vs1, vl1, ps1, rfl, hps1, hS⟩; obtain ⟨Al1, cl1, rfl⟩ := own_slice (hS.get 1 rfl); replace H := H.opened hS; clear hS))
        go_upto_region 16 with (first
          | (refine L_load1 rfl rfl H 0 rfl rfl rfl Tryd.isAgg3 ?_; (try simp only [Act.put, List.setIfInBounds_toArray, List.set_cons_succ, List.set_cons_zero, List.getElem_toArray, List.getElem_cons_succ, List.getElem_cons_zero])) | (refine L_load1 rfl rfl H 1 rfl rfl rfl Tryd.isAgg3 ?_; (try simp only [Act.put, List.setIfInBounds_toArray, List.set_cons_succ, List.set_cons_zero, List.getElem_toArray, List.getElem_cons_succ, List.getElem_cons_zero])) | (refine L_load1 rfl rfl H 2 rfl rfl rfl Tryd.isAgg3 ?_; (try simp only [Act.put, List.setIfInBounds_toArray, List.set_cons_succ, List.set_cons_zero, List.getElem_toArray, List.getElem_cons_succ, List.getElem_cons_zero])) | (refine L_load1 rfl rfl H 3 rfl rfl rfl Tryd.isAgg3 ?_; (try simp only [Act.put, List.setIfInBounds_toArray, List.set_cons_succ, List.set_cons_zero, List.getElem_toArray, List.getElem_cons_succ, List.getElem_cons_zero])) | (refine L_load1 rfl rfl H 4 rfl rfl rfl Tryd.isAgg3 ?_; (try simp only [Act.put, List.setIfInBounds_toArray, List.set_cons_succ, List.set_cons_zero, List.getElem_toArray, List.getElem_cons_succ, List.getElem_cons_zero]))
          | (go_at_call 22; refine (hcr3 (H.get 0 rfl).1).mono ?_; rintro e1 w2 ⟨rfl, hE, hsay⟩; replace H := H.jdisk hE hsay; clear hE hsay))
        replace H := H.split
        go_upto_region 19 with (first
          | (go_at_call 9; refine (hopn (H.get 0 rfl)).mono ?_; rintro e1 w4 ⟨jb3, vs2, vl2, ps2, rfl, hps2, hS⟩; obtain ⟨Al2, cl2, rfl⟩ := own_slice (hS.get 1 rfl); replace H := H.opened hS; clear hS))
        clear hopn hcr hcr3
        have HP1 := Lib.hid hps1
        have HP2 := Lib.hid hps2
        clear hps1 hps2
        go_wp2_with (first
          | (go_at_call 14; refine (awake_any _).mono ?_; rintro e1 w2 ⟨rfl, hE⟩; replace H := H.calls hE; clear hE; have hv1 := hstr (H.get 7 rfl); have hv2 := hstr (H.get 3 rfl))
          | (go_at_call 23; refine (hsame (RdS.own encSl_len (by simp) (H.get 6 rfl)) (RdS.own encSl_len (by simp) (H.get 2 rfl)) (H.get 5 rfl) (H.get 1 rfl) HP1.out HP2.out).mono ?_; rintro e1 w2 ⟨rfl, hE⟩; replace H := H.calls hE; clear hE hv1 hv2)
          | (go_at_call_of 17 (Value.pointer (some ⟨jb2, 0, none⟩)); refine (hep (H.at_ 4 rfl)).mono ?_; rintro e1 w2 ⟨rfl, hE⟩; replace H := H.calls hE; clear hE)
          | (go_at_call_of 17 (Value.pointer (some ⟨jb3, 0, none⟩)); refine (hep (H.get 0 rfl).2.1).mono ?_; rintro e1 w2 ⟨rfl, hE⟩; replace H := H.calls hE; clear hE)
          | (go_at_call_of 12 (Value.pointer (some ⟨jb2, 0, none⟩)); refine (hse (H.at_ 4 rfl)).mono ?_; rintro e1 w2 ⟨rfl, hE⟩; replace H := H.calls hE; clear hE)
          | (go_at_call_of 12 (Value.pointer (some ⟨jb3, 0, none⟩)); refine (hse (H.get 0 rfl).2.1).mono ?_; rintro e1 w2 ⟨rfl, hE⟩; replace H := H.calls hE; clear hE)
          | (go_at_call_of 11 (Value.pointer (some ⟨jb2, 0, none⟩)); refine (hro (H.at_ 4 rfl)).mono ?_; rintro e1 w2 ⟨rfl, hE⟩; replace H := H.calls hE; clear hE)
          | (go_at_call_of 11 (Value.pointer (some ⟨jb3, 0, none⟩)); refine (hro (H.get 0 rfl).2.1).mono ?_; rintro e1 w2 ⟨rfl, hE⟩; replace H := H.calls hE; clear hE)
          | (go_at_call_of 18 (Value.pointer (some ⟨jb2, 0, none⟩)); refine (hpl (H.at_ 4 rfl)).mono ?_; rintro e1 w2 ⟨rfl, hE⟩; replace H := H.calls hE; clear hE)
          | (go_at_call_of 18 (Value.pointer (some ⟨jb3, 0, none⟩)); refine (hpl (H.get 0 rfl).2.1).mono ?_; rintro e1 w2 ⟨rfl, hE⟩; replace H := H.calls hE; clear hE)
          | (go_at_call 25; refine (hwr (H.get 0 rfl).1).mono ?_; rintro e1 w2 ⟨rfl, rfl⟩)
          | (go_at_call 26; refine (hpn (H.get 0 rfl).1).mono ?_; rintro e1 w2 ⟨rfl, rfl⟩))
        go_ret
        exact ⟨rfl, H.ext⟩
      · have h1i : ¬ (i : Int) < (ps.length : Int) := by omega
        clear hlt
        go_upto_region 13 with (first
          | (refine L_load1 rfl rfl H 0 rfl rfl rfl Tryd.isAgg3 ?_; (try simp only [Act.put, List.setIfInBounds_toArray, List.set_cons_succ, List.set_cons_zero, List.getElem_toArray, List.getElem_cons_succ, List.getElem_cons_zero])) | (refine L_load1 rfl rfl H 1 rfl rfl rfl Tryd.isAgg3 ?_; (try simp only [Act.put, List.setIfInBounds_toArray, List.set_cons_succ, List.set_cons_zero, List.getElem_toArray, List.getElem_cons_succ, List.getElem_cons_zero]))
          | (go_at_call 22; refine (hcr (H.get 0 rfl).1).mono ?_; rintro e1 w2 ⟨rfl, hE, hsay⟩; replace H := H.jdisk hE hsay; clear hE hsay))
        go_upto_region 14 with (first
          | (go_at_call 25; refine (hwr (H.get 0 rfl).1).mono ?_; rintro e1 w2 ⟨rfl, rfl⟩))
        replace H := H.undisk
        go_upto_region 15 with (first
          | (go_at_call 9; refine (hopn (H.get 0 rfl)).mono ?_; rintro e1 w3 ⟨jb2, vs1, vl1, ps1, rfl, hps1, hS⟩; obtain ⟨Al1, cl1, rfl⟩ := own_slice (hS.get 1 rfl); replace H := H.opened hS; clear hS))
        go_upto_region 16 with (first
          | (refine L_load1 rfl rfl H 0 rfl rfl rfl Tryd.isAgg3 ?_; (try simp only [Act.put, List.setIfInBounds_toArray, List.set_cons_succ, List.set_cons_zero, List.getElem_toArray, List.getElem_cons_succ, List.getElem_cons_zero])) | (refine L_load1 rfl rfl H 1 rfl rfl rfl Tryd.isAgg3 ?_; (try simp only [Act.put, List.setIfInBounds_toArray, List.set_cons_succ, List.set_cons_zero, List.getElem_toArray, List.getElem_cons_succ, List.getElem_cons_zero])) | (refine L_load1 rfl rfl H 2 rfl rfl rfl Tryd.isAgg3 ?_; (try simp only [Act.put, List.setIfInBounds_toArray, List.set_cons_succ, List.set_cons_zero, List.getElem_toArray, List.getElem_cons_succ, List.getElem_cons_zero])) | (refine L_load1 rfl rfl H 3 rfl rfl rfl Tryd.isAgg3 ?_; (try simp only [Act.put, List.setIfInBounds_toArray, List.set_cons_succ, List.set_cons_zero, List.getElem_toArray, List.getElem_cons_succ, List.getElem_cons_zero])) | (refine L_load1 rfl rfl H 4 rfl rfl rfl Tryd.isAgg3 ?_; (try simp only [Act.put, List.setIfInBounds_toArray, List.set_cons_succ, List.set_cons_zero, List.getElem_toArray, List.getElem_cons_succ, List.getElem_cons_zero]))
          | (go_at_call 22; refine (hcr3 (H.get 0 rfl).1).mono ?_; rintro e1 w2 ⟨rfl, hE, hsay⟩; replace H := H.jdisk hE hsay; clear hE hsay))
        replace H := H.split
        go_upto_region 19 with (first
          | (go_at_call 9; refine (hopn (H.get 0 rfl)).mono ?_; rintro e1 w4 ⟨jb3, vs2, vl2, ps2, rfl, hps2, hS⟩; obtain ⟨Al2, cl2, rfl⟩ := own_slice (hS.get 1 rfl); replace H := H.opened hS; clear hS))
        clear hopn hcr hcr3
        have HP1 := Lib.hid hps1
        have HP2 := Lib.hid hps2
        clear hps1 hps2
        go_wp2_with (first
          | (go_at_call 14; refine (awake_any _).mono ?_; rintro e1 w2 ⟨rfl, hE⟩; replace H := H.calls hE; clear hE; have hv1 := hstr (H.get 7 rfl); have hv2 := hstr (H.get 3 rfl))
          | (go_at_call 23; refine (hsame (RdS.own encSl_len (by simp) (H.get 6 rfl)) (RdS.own encSl_len (by simp) (H.get 2 rfl)) (H.get 5 rfl) (H.get 1 rfl) HP1.out HP2.out).mono ?_; rintro e1 w2 ⟨rfl, hE⟩; replace H := H.calls hE; clear hE hv1 hv2)
          | (go_at_call_of 17 (Value.pointer (some ⟨jb2, 0, none⟩)); refine (hep (H.at_ 4 rfl)).mono ?_; rintro e1 w2 ⟨rfl, hE⟩; replace H := H.calls hE; clear hE)
          | (go_at_call_of 17 (Value.pointer (some ⟨jb3, 0, none⟩)); refine (hep (H.get 0 rfl).2.1).mono ?_; rintro e1 w2 ⟨rfl, hE⟩; replace H := H.calls hE; clear hE)
          | (go_at_call_of 12 (Value.pointer (some ⟨jb2, 0, none⟩)); refine (hse (H.at_ 4 rfl)).mono ?_; rintro e1 w2 ⟨rfl, hE⟩; replace H := H.calls hE; clear hE)
          | (go_at_call_of 12 (Value.pointer (some ⟨jb3, 0, none⟩)); refine (hse (H.get 0 rfl).2.1).mono ?_; rintro e1 w2 ⟨rfl, hE⟩; replace H := H.calls hE; clear hE)
          | (go_at_call_of 11 (Value.pointer (some ⟨jb2, 0, none⟩)); refine (hro (H.at_ 4 rfl)).mono ?_; rintro e1 w2 ⟨rfl, hE⟩; replace H := H.calls hE; clear hE)
          | (go_at_call_of 11 (Value.pointer (some ⟨jb3, 0, none⟩)); refine (hro (H.get 0 rfl).2.1).mono ?_; rintro e1 w2 ⟨rfl, hE⟩; replace H := H.calls hE; clear hE)
          | (go_at_call_of 18 (Value.pointer (some ⟨jb2, 0, none⟩)); refine (hpl (H.at_ 4 rfl)).mono ?_; rintro e1 w2 ⟨rfl, hE⟩; replace H := H.calls hE; clear hE)
          | (go_at_call_of 18 (Value.pointer (some ⟨jb3, 0, none⟩)); refine (hpl (H.get 0 rfl).2.1).mono ?_; rintro e1 w2 ⟨rfl, hE⟩; replace H := H.calls hE; clear hE)
          | (go_at_call 25; refine (hwr (H.get 0 rfl).1).mono ?_; rintro e1 w2 ⟨rfl, rfl⟩)
          | (go_at_call 26; refine (hpn (H.get 0 rfl).1).mono ?_; rintro e1 w2 ⟨rfl, rfl⟩))
        go_ret
        exact ⟨rfl, H.ext⟩
theorem again_any (v u : Value) (ps : List DV) (q : DV) (w0 : World) (hr : DvR w0 v ps) (hu : u = dvV q) :
    Calls Tryd.prog 6 #[v, u] w0 fun e w' => e = .returned (.bool true) ∧ Ext0 w0 w' := by
  subst hu
  exact again_walk ag (fun w => new_any 60 w) v ps _ _ _ _ _ _ _ w0 hr
end Go.Proofs.YtgmeahogdjhejaaDoor
