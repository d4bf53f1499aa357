/- WalDoes: the walk. (Printed by gendoes.py.) -/
import Derived.Test.YtgmeahogdjhejaaGreatDoorWalDa
import Derived.Deep.RegionWith
import Derived.Deep.CutRange
import Derived.Deep.CutBlock
namespace Go.Proofs.YtgmeahogdjhejaaGreatDoor
set_option linter.unusedVariables false
set_option linter.unusedSimpArgs false
open Go.RowKit Go.Shelf
open Rf (RefA)

theorem L_loadDW {P : Program} {ops : Array Oper} {Q : Exit → Act → World → Prop} {a : Act} {w : World} {rest : List Oper} {o : Oper} (hgd : o.guard = none) {ty : TypeId} {x : Operand} (ho : o.op = .load ty x) {b off n cap : Nat} {xs : List DV} (hr : RdS dvCells 5 w (.slice (some ⟨b, off, none⟩) n cap) xs) {j : Nat} (hj : j < xs.length)
    (hx : a.eval x = .pointer (some ⟨b, off + j * 5, none⟩)) {s : DV} (hs : xs[j] = s) {d : TypeDesc} (hu : P.underlying ty = some d) (hd : d.isRow = true) (hi : (P.info? ty).map (·.size) = some 5)
    (k : wpList P ops Q rest (a.put o.dst (.agg #[.int .u8 s.2.kind, s.wv, .int .i64 s.2.x, .int .i64 s.2.y, .int .i64 s.2.z])) w) : wpList P ops Q (o :: rest) a w := by
  obtain ⟨b', off', cs, T, fr, he, hb, hcs⟩ := hr.cell hj
  cases he
  rw [hs] at hcs
  refine wpList_plain hgd fun K hK => ?_
  have hrun := R_loadmid (P := P) (a := a) ho hx hb hu hd hi (dvCells s) rfl hcs
  unfold Oper.wp
  rw [hrun]
  exact hK _ _ k
theorem info42 : (Tryz.prog.info? 42).map (·.size) = some 5 := by kernel_rfl
theorem one5 (a b c d e : Value) (ha : a.oneCell' = true) (hb : b.oneCell' = true) (hc : c.oneCell' = true) (hd : d.oneCell' = true) (he : e.oneCell' = true) : (#[a, b, c, d, e] : Array Value).all (·.oneCell') = true := by simp [ha, hb, hc, hd, he]
theorem SH.jdiskAt {M : Nat → Prop} {w0 w : World} {L : List Asr} {b bs bm jb : Nat} {d : DS} {j : JS} (H : SH M w0 w L) (k : Nat) (hk : L[k]? = some (JD b bs bm jb d j)) {w' : World} {d' : DS} (he : Ext (DiskA b bs bm d).fp w w') (hs : (DiskA b bs bm d').says w') : SH M w0 w' (L.set k (JD b bs bm jb d' j)) := by
  have h0 := H.get k hk
  exact H.jd k hk (he.mono (fun i _ hi => .inl hi)) ⟨hs, he.keep h0.2.1 (fun h => h0.2.2 h), h0.2.2⟩
def DoesR (b bs bm rb N : Nat) (w0 : World) (v13 v14 v15 v16 v17 v18 v19 v20 v21 : Value) (wr : World) : Prop :=
  ∃ (i : Nat) (d : DS) (W : Int), v21 = .int .i64 (i : Int) ∧ i ≤ 40 ∧ d.Fine W ∧ W ≤ 6000 + 3000 * (i : Int) ∧ d.sure.length = N ∧ DoS b bs bm rb d w0 v13 v14 v15 v16 v17 v18 v19 v20 wr
def DoM (b bs bm rb jb kb gx : Nat) (d : DS) (X : Array Value) (L : List Asr) (B : Int) (w0 : World) (s23 s24 : Value) (wc : World) : Prop :=
  ∃ (d2 : DS) (j2 : JS) (S2 : Nat → Prop) (kk W2 : Int), s23 = .int .i64 kk ∧ s24 = .int .i64 kk ∧ (d2.Fine W2 ∧ W2 ≤ B ∧ d2.sure.length = d.sure.length ∧ j2.Ok d.sure.length) ∧
    SH (fun _ => False) w0 wc (pt gx (.cells X 42 (0, 0)) :: JD b bs bm jb d2 j2 :: JQ rb kb S2 d2 j2 :: L)
theorem SH.two {M : Nat → Prop} {w0 w : World} {L : List Asr} {b bs bm jb rb kb : Nat} {S : Nat → Prop} {d : DS} {j : JS} (H : SH M w0 w (JD b bs bm jb d j :: JQ rb kb S d j :: L)) : SH M w0 w [DiskA b bs bm d, RefA rb S d] :=
  ((((H.drop (L' := [JD b bs bm jb d j, JQ rb kb S d j]) (.cons_cons _ (.cons_cons _ (List.nil_sublist _)))).undisk).perm (.swap _ _ _)).unq).perm (.swap _ _ _)
theorem DoS.disks {b bs bm rb : Nat} {d : DS} {w0 : World} {v13 v14 v15 v16 v17 v18 v19 v20 : Value} {wr : World} (h : DoS b bs bm rb d w0 v13 v14 v15 v16 v17 v18 v19 v20 wr) : ∃ S : Nat → Prop, SH (fun _ => False) w0 wr [DiskA b bs bm d, RefA rb S d] := by
  rcases h with ⟨S, code, _, _, _, _, _, _, _, _, _, H⟩ | ⟨S, j, st, jb, kb, qs, rs, vs, vt, vl, vm, _, _, _, _, _, _, _, _, _, _, _, _, H⟩
  · exact ⟨S, H⟩
  · exact ⟨S, H.two⟩
theorem RefA.goods {b : Nat} {S : Nat → Prop} {d : DS} {w : World} (h : (RefA b S d).says w) : ∃ A c, w.cell? ⟨b, 0, none⟩ = some (.slice A d.sure.length c) ∧ ∀ k : Nat, k < d.sure.length → ∃ g Ak nk ck, A = some ⟨g, 0, none⟩ ∧ w.cell? ⟨g, k, none⟩ = some (.slice Ak nk ck) ∧ RdS (encInt .u8) 1 w (.slice Ak nk ck) (d.is (k : Int)).bytes := by
  obtain ⟨r, hr, HS⟩ := Rf.RefA.opens h
  obtain ⟨hc0, _⟩ := Rf.RM.cellsAt (L := []) (by simpa using HS)
  have hsh := Rf.row_shape (HS.get 1 rfl)
  have hbv := HS.get 6 (A := Rf.bytesA r.bv) rfl
  have hgl := hr.gl
  rcases hsh with ⟨h0, A, c, h1⟩ | ⟨g, c, h1, hcell⟩
  · refine ⟨A, c, ?_, fun k hk => ?_⟩
    · rw [hc0, h1, ← hgl, h0]; rfl
    · rw [← hgl, h0] at hk; cases hk
  · refine ⟨_, c, by rw [hc0, h1, hgl], fun k hk => ?_⟩
    have hk2 : k < r.gs.length := by rw [hgl]; exact hk
    have hrk : RdS (encInt .u8) 1 w r.gs[k] (d.is (k : Int)).bytes := hbv _ (hr.g k hk2)
    obtain ⟨Ak, ck, he, hck⟩ := hrk.len
    exact ⟨g, Ak, _, ck, rfl, by rw [(hcell k hk2).1, he], by rw [← he]; exact hrk⟩
def DoesZ (n : Nat) (wA : World) (v25 : Value) (wr : World) : Prop := ∃ i : Nat, v25 = .int .i64 (i : Int) ∧ i ≤ n ∧ Ext0 wA wr
set_option maxRecDepth 100000 in
set_option maxHeartbeats 16000000 in
theorem does_walk (se : Int) (hse : 0 ≤ se ∧ se ≤ 255) (slot log : Int) (v u : Value) (state : List Int) (ps : List DV) (w0 : World) (hv : RdS (encInt .u8) 1 w0 v state) (hvb : ∀ x ∈ state, 0 ≤ x ∧ x ≤ 255) (hr : DvR w0 u ps) :
    Calls Tryz.prog 3 #[.int .u8 se, .int .i64 slot, .int .i64 log, v, u] w0 fun e w' => e = .returned (.bool true) ∧ Ext0 w0 w' := by
  obtain ⟨A, cap, rfl, hcap⟩ := hr.row.len
  have H : SH (fun _ => False) w0 w0 [] := SH.nil _ _
  obtain ⟨N, hN⟩ : ∃ N : Nat, se.tmod 70 = (N : Int) := ⟨(se.tmod 70).toNat, by rw [Int.tmod_eq_emod_of_nonneg hse.1]; omega⟩
  have hN70 : N < 70 := by have := Int.tmod_eq_emod_of_nonneg hse.1 (b := 70); omega
  have hwi : IntKind.i64.wrap (N : Int) = (N : Int) := by rw [IntKind.wrap_i64]; omega
  have hwu : IntKind.u8.wrap (N : Int) = (N : Int) := by rw [IntKind.wrap_u8]; omega
  have hl0 : (DS.new N).sure.length = N := by simp [DS.new]
  have hf0 : (DS.new N).Fine 0 := DS.Fine.new N (by omega)
  have hnew := fun {w : World} => new_any (N : Int) w
  rw [show min (N : Int).toNat 4096 = N by rw [Int.toNat_natCast]; omega] at hnew
  have hrnew := fun {w : World} => Rf.refNew_any (N : Int) w
  rw [show min (N : Int).toNat 4096 = N by rw [Int.toNat_natCast]; omega] at hrnew
  have hfew := fun {w : World} => few_c v state 200 (by omega) w0 w hv
  have hstb : ∀ x ∈ state.take 200, 0 ≤ x ∧ x ≤ 255 := fun x hx => hvb x (List.mem_of_mem_take hx)
  have hst2 : (state.take 200).length ≤ 65535 := by rw [List.length_take]; omega
  obtain ⟨st0, hst0⟩ : ∃ st0, state.take 200 = st0 := ⟨_, rfl⟩
  rw [hst0] at hfew hstb hst2
  have hff := format_fine hf0 slot log hstb
  have hfmt := fun {b bs bm : Nat} {w : World} {v : Value} (hD : (DiskA b bs bm (DS.new N)).says w) (hr : RdS (encInt .u8) 1 w v st0) (hap : st0 ≠ [] → ∀ j, v.ownBlock = some j → ¬ (DiskA b bs bm (DS.new N)).fp j) => format_anyE w hD hf0 (by omega) slot log hr hstb hap
  have hrfmt := fun {rb : Nat} {S : Nat → Prop} {w : World} {v : Value} (hD : (RefA rb S (DS.new N)).says w) (hr : RdS (encInt .u8) 1 w v st0) => refFormat_any w hD hf0 (by omega) slot log hr hstb hst2
  unfold FormatE at hfmt
  unfold RfE at hrfmt
  rw [hl0] at hff
  obtain ⟨F, hF⟩ : ∃ F, formatP (DS.new N) slot log st0 = F := ⟨_, rfl⟩
  rw [hF] at hfmt hrfmt hff
  obtain ⟨k0, hk0⟩ : ∃ k0, F.2 = k0 := ⟨_, rfl⟩
  simp only [hk0] at hfmt hrfmt
  obtain ⟨d0, hd0⟩ : ∃ d0, F.1 = d0 := ⟨_, rfl⟩
  rw [hd0] at hff
  simp only [hd0] at hfmt hrfmt
  have hop1 := fun {b bs bm : Nat} {w : World} (hD : (DiskA b bs bm d0).says w) => openF_any w hD hff.1 slot log
  have hop2 := fun {rb : Nat} {S : Nat → Prop} {w : World} (hD : (RefA rb S d0).says w) => refOpenF_any w hD hff.1 slot log
  obtain ⟨D0, hD0⟩ : ∃ D0, DS.new N = D0 := ⟨_, rfl⟩
  rw [hD0] at hnew hrnew hfmt hrfmt
  have HX := Lib.hid (And.intro hr hff)
  clear hr hv hvb hse hl0 hf0 hst0 hF hk0 hd0 hstb hst2 hD0 hff
  go_enter Tryz.func3, Tryz.ntmps3
  go_upto_region 2 with (first
    | (go_at_call 4; refine hnew.mono ?_; rintro e w ⟨b, bs, bm, rfl, h⟩; replace H := H.cat h; clear h; simp only [List.cons_append, List.nil_append] at H)
    | (go_at_call 5; refine hrnew.mono ?_; rintro e w1 ⟨rb, rfl, hE, hsay⟩; replace H := H.add hE (RefA rb _ D0) hsay (fun i hi => hi.elim (fun h => h.elim) id); clear hE hsay))
  clear hnew hrnew
  go_upto_region 4 with (first
    | (go_at_call 7; refine hfew.mono ?_; rintro e1 w2 ⟨⟨A9, n9, c9, rfl, hn9, hru⟩, hw9⟩; clear hn9; replace hw9 := hw9.symm; subst hw9)
    | (go_at_call 6; refine (hfmt (H.get 1 rfl) (hru.keep H.ext) (fun hne j hj hfp => Nat.lt_irrefl _ (Nat.lt_of_lt_of_le (rds_lt hru hne hj) ((H.own _ (List.mem_of_getElem? (i := 1) rfl) j hfp).resolve_left (fun h => h))))).mono ?_; rintro e1 w2 ⟨rfl, hE, hsay⟩; replace H := H.disk 1 rfl hE hsay; simp only [List.set_cons_zero, List.set_cons_succ] at H; clear hE hsay hru)
    | (go_at_call 8; refine (hrfmt (H.get 0 rfl) (hru.keep H.ext)).mono ?_; rintro e1 w2 ⟨rfl, S2, hE, hsay, hS2⟩; replace H := H.refTo 0 rfl hE hsay hS2; simp only [List.set_cons_zero, List.set_cons_succ] at H; clear hE hsay hS2 hru))
  clear hfmt hrfmt hfew
  go_upto_region 6 with (first
    | (go_at_call 9; refine (hop1 (H.get 1 rfl)).mono ?_; rintro e1 w3 ⟨pj, vs, vl, c1, rfl, h1⟩; have H1 := H.calls h1.ext)
    | (go_at_call 10; refine (hop2 (H1.get 0 rfl)).mono ?_; rintro e1 w4 ⟨pk, vt, vm, c2, rfl, h2⟩))
  clear hop1 hop2 H1
  have hst : DoesR b bs bm rb N w0 pj vs vl (.int .i64 c1) pk vt vm (.int .i64 c2) (.int .i64 0) w4 := ⟨0, d0, _, rfl, by omega, HX.out.2.1, by omega, HX.out.2.2, DoS.of_open HX.out.2.1 (H.perm (.swap _ _ _)) h1 h2⟩
  clear H h1 h2
  go_wp2_with fail
  go_loopw [13, 14, 15, 16, 17, 18, 19, 20, 21] (DoesR b bs bm rb N w0) (fun _ _ _ _ _ _ _ _ vi _ => 40 - (intOf vi).toNat)
  case atStart => exact hst
  case round =>
    clear hst
    obtain ⟨i, d, W, rfl, hi40, hf, hW, hdl, hdo⟩ := hrel
    by_cases hlt : i < ps.length ∧ i < 40
    · obtain ⟨hlx, hl40⟩ := hlt
      have hlxi : (i : Int) < (ps.length : Int) := by omega
      have hl40i : (i : Int) < 40 := by omega
      rcases hdo with ⟨S, code, hc, rfl, rfl, rfl, rfl, rfl, rfl, rfl, rfl, H⟩ | ⟨S, j, st, jb, kb, qs, rs, vs, vt, vl, vm, rfl, rfl, rfl, rfl, rfl, rfl, rfl, rfl, hok, hqr, hql, hqb, H⟩
      · have hc2 : (code != 0) = true := by simp [hc]
        have hv1 := run_string (P := Tryz.prog) (src := 22) (dst := 9) (RdS.nil (encInt .u8) 1 wr) Tryz.underlying22 Tryz.underlying5 Tryz.underlying9
        have hsame := (rows_same (.slice none 0 0) (.slice none 0 0) [] [] wr (RdS.nil _ _ _) (RdS.nil _ _ _) (fun p hp => by cases hp) (fun p hp => by cases hp) (fun p hp => by cases hp) (fun p hp => by cases hp) (by simp)).mono (R' := fun e w' => e = .returned (.bool true) ∧ Ext0 wr w') (fun e w' h => ⟨h.1, h.2⟩)
        clear hf hW hdl hc
        go_upto_region 12 with (first
          | (go_at_call 11; refine hsame.mono ?_; rintro e1 w2 ⟨rfl, hE⟩; replace H := H.calls hE; clear hE))
        clear hv1 hsame
        go_wp2_with (first
          | (go_at_call 12; refine (awake_any _).mono ?_; rintro e1 w2 ⟨rfl, hE⟩; replace H := H.calls hE; clear hE))
        go_ret
        exact ⟨rfl, H.ext⟩
      · have hv1 := run_string (P := Tryz.prog) (src := 22) (dst := 9) (H.get 2 rfl) Tryz.underlying22 Tryz.underlying5 Tryz.underlying9
        have hv2 := run_string (P := Tryz.prog) (src := 22) (dst := 9) (H.get 3 rfl) Tryz.underlying22 Tryz.underlying5 Tryz.underlying9
        obtain ⟨ss, hss⟩ : ∃ ss, strOfNums st = ss := ⟨_, rfl⟩
        rw [hss] at hv1 hv2
        have hrb : ∀ p ∈ rs, Bytes p.2 := fun p hp => by
          have hm : p.2 ∈ rs.map (·.2) := List.mem_map_of_mem hp
          rw [← hqr] at hm
          obtain ⟨p2, hp2, he2⟩ := List.mem_map.1 hm
          rw [← he2]
          exact hqb p2 hp2
        have hsame := (rows_same vl vm qs rs wr (RdS.own encSl_len (by simp) (H.get 5 rfl)) (RdS.own encSl_len (by simp) (H.get 7 rfl)) (H.get 4 rfl) (H.get 6 rfl) hqb hrb hql).mono (R' := fun e w' => e = .returned (.bool true) ∧ Ext0 wr w') (fun e w' h => ⟨by rw [h.1, decide_eq_true hqr], h.2⟩)
        have hwi1 : IntKind.i64.wrap ((i : Int) + 1) = ((i + 1 : Nat) : Int) := by rw [IntKind.wrap_i64]; omega
        obtain ⟨i1, hi1⟩ : ∃ i1, i + 1 = i1 := ⟨_, rfl⟩
        rw [hi1] at hwi1
        obtain ⟨p, hp⟩ : ∃ p, ps[i] = p := ⟨_, rfl⟩
        have hmem : p ∈ ps := by rw [← hp]; exact List.getElem_mem hlx
        obtain ⟨bb, off, rfl, hcs⟩ := HX.out.1.cells hlx hp
        have hbs := HX.out.1.bs p hmem
        have hpo := HX.out.1.ok p hmem
        have hload := fun {w : World} (e : Ext0 w0 w) => HX.out.1.row.keep e
        obtain ⟨⟨⟨Ab, cb⟩, kd, bts, px, py, pz⟩, hpe⟩ : ∃ q, p = q := ⟨_, rfl⟩
        subst hpe
        simp only [DV.wv] at hbs
        obtain ⟨r, hrr⟩ : ∃ r, kd.tmod 10 = r := ⟨_, rfl⟩
        have HP := Lib.hid (And.intro hpo (And.intro hi1 (And.intro hbs (And.intro hf (And.intro hW (And.intro hdl (And.intro hok (And.intro hqr (And.intro hql hqb)))))))))
        clear hcs hmem hpo hi1 hbs hf hW hdl hok hqr hql hqb hss hrb
        go_upto_region 13 with (first
          | (go_at_call 11; refine hsame.mono ?_; rintro e1 w2 ⟨rfl, hE⟩; replace H := H.calls hE; clear hE))
        clear hv1 hv2 hsame
        go_upto_block 2 with (first
          | (refine L_loadDW rfl rfl (hload H.ext) hlx rfl hp Tryz.underlying42 rfl info42 ?_; simp only [DV.wv]; (try simp only [Act.put, List.setIfInBounds_toArray, List.set_cons_succ, List.set_cons_zero, List.getElem_toArray, List.getElem_cons_succ, List.getElem_cons_zero]))
          | (refine L_alloc rfl rfl H Tryz.zeroValue42 ?_; clear H; intro gx w H; simp only [Value.cells] at H; (try simp only [Act.put, List.setIfInBounds_toArray, List.set_cons_succ, List.set_cons_zero, List.getElem_toArray, List.getElem_cons_succ, List.getElem_cons_zero]))
          | (refine L_storerow rfl rfl H 0 rfl rfl rfl info42 rfl rfl (one5 _ _ _ _ _ rfl rfl rfl rfl rfl) ?_; clear H; intro w H; simp only [List.set_cons_zero] at H; (try simp only [Act.put, List.setIfInBounds_toArray, List.set_cons_succ, List.set_cons_zero, List.getElem_toArray, List.getElem_cons_succ, List.getElem_cons_zero]))
          | (refine L_load1 rfl rfl H 0 rfl rfl rfl Tryz.isAgg5 ?_; (try simp only [Act.put, List.setIfInBounds_toArray, List.set_cons_succ, List.set_cons_zero, List.getElem_toArray, List.getElem_cons_succ, List.getElem_cons_zero])))
        go_cut [13, 14, 15, 16, 17, 18, 19, 20, 23, 24] from 107 to 183 (fun s13 s14 s15 s16 s17 s18 s19 s20 s23 s24 wc => (.pointer (some ⟨jb, 0, none⟩) = s13 ∧ vs = s14 ∧ vl = s15 ∧ .int .i64 0 = s16 ∧ .pointer (some ⟨kb, 0, none⟩) = s17 ∧ vt = s18 ∧ vm = s19 ∧ .int .i64 0 = s20) ∧ DoM b bs bm rb jb kb gx d #[.int .u8 kd, .slice Ab bts.length cb, .int .i64 px, .int .i64 py, .int .i64 pz] [rdA vs st, rdA vt st, rowsA qs, ownA 22 1 vl qs.length (cellsOf encSl (qs.map (·.1))), rowsA rs, ownA 22 1 vm rs.length (cellsOf encSl (rs.map (·.1)))] (6000 + 3000 * (i1 : Int)) w0 s23 s24 wc)
        case first =>
          obtain ⟨hpo, hi1, hbs, hf, hW, hdl, hok, _⟩ := HP.out
          have hok' : j.Ok d.sure.length := hok
          by_cases h0 : r = 0
          · subst h0
            have hc1 := fun {w : World} (h : (DiskA b bs bm d).says w) => crash_on b bs bm d px py pz w h hf.good
            have hc2 := fun {S : Nat → Prop} {w : World} (h : (RefA rb S d).says w) => refCrash_any h hf px py pz
            have hf2 := hf.crash px py pz
            have hl2 := crash_len d px py pz
            obtain ⟨d2, hd2⟩ : ∃ d2, d.crash px py pz = d2 := ⟨_, rfl⟩
            rw [hd2] at hc1 hc2 hf2 hl2
            have ho1 := fun {b bs bm : Nat} {w : World} (hD : (DiskA b bs bm d2).says w) => openF_any w hD hf2 slot log
            have ho2 := fun {rb : Nat} {S : Nat → Prop} {w : World} (hD : (RefA rb S d2).says w) => refOpenF_any w hD hf2 slot log
            have HK := Lib.hid (And.intro hf2 (And.intro (show W ≤ 6000 + 3000 * (i1 : Int) by omega) (hl2.trans hdl)))
            clear hf hW hok hok' hbs hpo hdl hi1 hd2 hf2 hl2
            go_upto_region 20 with (first
              | (go_at_call 13; refine (hc1 (H.get 1 (A := JD b bs bm jb d j) rfl).1).mono ?_; rintro e1 w2 ⟨rfl, hE, hsay⟩; replace H := H.jdiskAt 1 rfl hE hsay; simp only [List.set_cons_zero, List.set_cons_succ] at H; clear hE hsay)
              | (go_at_call 14; refine (hc2 (H.get 2 (A := JQ rb kb S d j) rfl).1).mono ?_; rintro e1 w3 ⟨rfl, hE, hsay⟩; replace H := H.jqdisk 2 rfl hE hsay (fun i hi => hi.elim .inl (fun h => .inr h.1)); simp only [List.set_cons_zero, List.set_cons_succ] at H; clear hE hsay)
              | (refine L_load1 rfl rfl H 0 rfl rfl rfl Tryz.isAgg3 ?_; (try simp only [Act.put, List.setIfInBounds_toArray, List.set_cons_succ, List.set_cons_zero, List.getElem_toArray, List.getElem_cons_succ, List.getElem_cons_zero])))
            clear hc1 hc2
            have H2 := (H.drop (List.sublist_cons_self _ _)).two
            clear H
            have H := H2
            clear H2
            go_upto_region 8 with (first
              | (go_at_call 9; refine (ho1 (H.get 0 rfl)).mono ?_; rintro e1 w4 ⟨pj, vs1, vl1, c1, rfl, h1⟩; have H1 := H.calls h1.ext)
              | (go_at_call 10; refine (ho2 (H1.get 1 rfl)).mono ?_; rintro e1 w5 ⟨pk, vt1, vm1, c2, rfl, h2⟩))
            have HS := Lib.hid (DoS.of_open HK.out.1 H h1 h2)
            clear ho1 ho2 H H1 h1 h2
            go_wp2_with fail
            go_roundw
            case rel => exact ⟨i1, d2, W, rfl, by have := HP.out.2.1; omega, HK.out.1, HK.out.2.1, HK.out.2.2, HS.out⟩
            case measure => simp [intOf]; have := HP.out.2.1; omega
          · have hr0 : (r == 0) = false := by simp [h0]
            by_cases h1 : r = 1
            · subst h1
              have hc1 := fun {w : World} (h : (DiskA b bs bm d).says w) => fuse_any b bs bm d pz w h
              have hc2 := fun {S : Nat → Prop} {w : World} (h : (RefA rb S d).says w) => Rf.RefA.setFuse h pz hpo.z.1
              have hf2 := hf.setFuse pz hpo.z.2
              obtain ⟨d2, hd2⟩ : ∃ d2 : DS, { d with fuse := max pz (-1) } = d2 := ⟨_, rfl⟩
              have hl2 : d2.sure.length = d.sure.length := by rw [← hd2]
              have HK : Hid (d2.Fine W ∧ W ≤ 6000 + 3000 * (i1 : Int) ∧ d2.sure.length = d.sure.length ∧ j.Ok d.sure.length) := Lib.hid ⟨by rw [← hd2]; exact hf2, by omega, hl2, hok⟩
              rw [hd2] at hc1 hc2
              clear hf hW hok hok' hbs hpo hdl hi1 hd2 hf2 hl2
              go_upto_region 24 with (first
                | (go_at_call 15; refine (hc1 (H.get 1 (A := JD b bs bm jb d j) rfl).1).mono ?_; rintro e1 w2 ⟨rfl, hE, hsay⟩; replace H := H.jdiskAt 1 rfl (hE.mono (fun i _ h => .inl h)) hsay; simp only [List.set_cons_zero, List.set_cons_succ] at H; clear hE hsay)
                | (refine L_load1 rfl rfl H 0 rfl rfl rfl Tryz.isAgg3 ?_; (try simp only [Act.put, List.setIfInBounds_toArray, List.set_cons_succ, List.set_cons_zero, List.getElem_toArray, List.getElem_cons_succ, List.getElem_cons_zero])))
              obtain ⟨fu, hfu1, hfu2⟩ := Rf.RefA.fuseCell (H.get 2 (A := JQ rb kb S d j) rfl).1
              have hc3 := hc2 (H.get 2 (A := JQ rb kb S d j) rfl).1
              have HH := Lib.hid (H.jqdisk 2 rfl hc3.1 hc3.2 (fun i hi => hi.elim .inl (fun h => .inr h.1)))
              clear hc1 hc2 hc3
              go_wp2_with (first
                | (refine L_load1 rfl rfl H 0 rfl rfl rfl Tryz.isAgg3 ?_; (try simp only [Act.put, List.setIfInBounds_toArray, List.set_cons_succ, List.set_cons_zero, List.getElem_toArray, List.getElem_cons_succ, List.getElem_cons_zero])))
              go_meet
              case rel => exact ⟨⟨rfl, rfl, rfl, rfl, rfl, rfl, rfl, rfl⟩, d2, j, _, 0, W, rfl, rfl, HK.out, HH.out⟩
            · have hr1 : (r == 1) = false := by simp [h1]
              by_cases h23 : r = 2 ∨ r = 3
              · have hcm := fun {w : World} (h : (JD b bs bm jb d j).says w) => commit_any w h hf
                have hcq := fun {w : World} (h : (JQ rb kb S d j).says w) => refCommit_any w h hf
                unfold JE at hcm
                unfold JQE at hcq
                have hcf := commit_fine hf hok'
                obtain ⟨R, hR⟩ : ∃ R, commitP d j = R := ⟨_, rfl⟩
                rw [hR] at hcm hcq hcf
                obtain ⟨d2, hd2⟩ : ∃ d2, R.1 = d2 := ⟨_, rfl⟩
                obtain ⟨j2, hj2⟩ : ∃ j2, R.2.1 = j2 := ⟨_, rfl⟩
                obtain ⟨kk, hkk⟩ : ∃ kk, R.2.2 = kk := ⟨_, rfl⟩
                simp only [hd2, hj2, hkk] at hcm hcq
                rw [hd2, hj2] at hcf
                obtain ⟨W2, hW2⟩ : ∃ W2, W = W2 := ⟨_, rfl⟩
                have HK : Hid (d2.Fine W2 ∧ W2 ≤ 6000 + 3000 * (i1 : Int) ∧ d2.sure.length = d.sure.length ∧ j2.Ok d.sure.length) := Lib.hid ⟨by rw [← hW2]; exact hcf.1, by rw [← hW2]; omega, hcf.2.1, hcf.2.2.1⟩
                clear hf hW hok hok' hcf hR hd2 hj2 hkk hW2 hbs hpo hdl hi1
                rcases h23 with rfl | rfl
                all_goals
                  go_wp2_with (first
                    | (go_at_call 16; refine (hcm (H.get 1 rfl)).mono ?_; rintro e1 w2 ⟨rfl, hE, hsay⟩; replace H := H.jd 1 rfl hE hsay; simp only [List.set_cons_zero, List.set_cons_succ] at H; clear hE hsay)
                    | (go_at_call 17; refine (hcq (H.get 2 rfl)).mono ?_; rintro e1 w9 ⟨rfl, S2, hE, hsay, hS2⟩; replace H := H.jq 2 rfl hE hsay hS2; simp only [List.set_cons_zero, List.set_cons_succ] at H; clear hE hsay hS2))
                  go_meet
                  case rel => exact ⟨⟨rfl, rfl, rfl, rfl, rfl, rfl, rfl, rfl⟩, d2, j2, S2, kk, W2, rfl, rfl, HK.out, H⟩
              · have hr2 : (r == 2) = false := by simp; omega
                have hr3 : (r == 3) = false := by simp; omega
                have hfew := fun {w : World} => few_c (.slice Ab bts.length cb) bts 200 (by omega) w0 w hbs
                have hbb : ∀ x ∈ bts.take 200, 0 ≤ x ∧ x ≤ 255 := fun x hx => hpo.b x (List.mem_of_mem_take hx)
                have hb200 : (bts.take 200).length ≤ 65535 := by rw [List.length_take]; omega
                by_cases h45 : r = 4 ∨ r = 5
                · have hcm := fun {w : World} {va : Value} (h : (JD b bs bm jb d j).says w) (hr : RdS (encInt .u8) 1 w va (bts.take 200)) => checkpoint_any w h hf (by omega) hok' hr hbb
                  have hcq := fun {w : World} {va : Value} (h : (JQ rb kb S d j).says w) (hr : RdS (encInt .u8) 1 w va (bts.take 200)) => refCheckpoint_any w h hf (by omega) hok' hr hbb hb200
                  have hcf := checkpoint_fine hf hok' hbb
                  unfold JE at hcm
                  unfold JQE at hcq
                  obtain ⟨tb, htb⟩ : ∃ tb, bts.take 200 = tb := ⟨_, rfl⟩
                  rw [htb] at hfew hcm hcq hcf
                  obtain ⟨R, hR⟩ : ∃ R, checkpointP d j tb = R := ⟨_, rfl⟩
                  rw [hR] at hcm hcq hcf
                  obtain ⟨d2, hd2⟩ : ∃ d2, R.1 = d2 := ⟨_, rfl⟩
                  obtain ⟨j2, hj2⟩ : ∃ j2, R.2.1 = j2 := ⟨_, rfl⟩
                  obtain ⟨kk, hkk⟩ : ∃ kk, R.2.2 = kk := ⟨_, rfl⟩
                  simp only [hd2, hj2, hkk] at hcm hcq
                  rw [hd2, hj2] at hcf
                  obtain ⟨W2, hW2⟩ : ∃ W2, W + 3000 = W2 := ⟨_, rfl⟩
                  have HK : Hid (d2.Fine W2 ∧ W2 ≤ 6000 + 3000 * (i1 : Int) ∧ d2.sure.length = d.sure.length ∧ j2.Ok d.sure.length) := Lib.hid ⟨by rw [← hW2]; exact hcf.1, by omega, hcf.2.1, hcf.2.2.1⟩
                  clear hf hW hok hok' hcf hR hd2 hj2 hkk hW2 hbs hpo hdl hi1 hbb hb200 htb
                  rcases h45 with rfl | rfl
                  all_goals
                    go_upto_region 30 with fail
                    have HJ := H.drew
                    have H0 := H.drop (L' := [_]) (List.Sublist.cons_cons _ (List.nil_sublist _))
                    clear H
                    refine D_start H0 (by kernel_rfl) (fun hS => ?_)
                    try simp only [Act.put, List.setIfInBounds_toArray, List.set_cons_succ, List.set_cons_zero]
                    refine D_take 0 (v := ?_) rfl (by kernel_rfl) (by kernel_rfl) (by kernel_rfl) (fun _ _ _ h => h) rfl (by rfl) (fun W hS => ?_) hS ?_
                    rotate_left; (focus (first | (go_simp; done) | (go_simp; with_reducible rfl) | (go_simp; rfl))); all_goals skip; (try simp only [List.set_cons_succ, List.set_cons_zero])
                    refine D_take 1 (v := ?_) rfl (by kernel_rfl) (by kernel_rfl) (by kernel_rfl) (fun _ _ _ h => h) rfl (by rfl) (fun W hS => ?_) hS ?_
                    rotate_left; (focus (first | (go_simp; done) | (go_simp; with_reducible rfl) | (go_simp; rfl))); all_goals skip; (try simp only [List.set_cons_succ, List.set_cons_zero])
                    refine D_take 2 (v := ?_) rfl (by kernel_rfl) (by kernel_rfl) (by kernel_rfl) (fun _ _ _ h => h) rfl (by rfl) (fun W hS => ?_) hS ?_
                    rotate_left; (focus (first | (refine R_load1 (ty := 22) (x := Operand.tmp 175) rfl hS 0 rfl rfl ?_ Tryz.isAgg22; rfl))); all_goals skip; (try simp only [List.set_cons_succ, List.set_cons_zero, List.getElem_toArray, List.getElem_cons_succ, List.getElem_cons_zero])
                    refine D_take 5 (v := ?_) rfl (by kernel_rfl) (by kernel_rfl) (by kernel_rfl) (fun _ _ _ h => h) rfl (by rfl) (fun W hS => ?_) hS ?_
                    rotate_left; (focus (first | (go_simp; done) | (go_simp; with_reducible rfl) | (go_simp; rfl))); all_goals skip; (try simp only [List.set_cons_succ, List.set_cons_zero])
                    refine D_take 6 (v := ?_) rfl (by kernel_rfl) (by kernel_rfl) (by kernel_rfl) (fun _ _ _ h => h) rfl (by rfl) (fun W hS => ?_) hS ?_
                    rotate_left; (focus (first | (go_simp; done) | (go_simp; with_reducible rfl) | (go_simp; rfl))); all_goals skip; (try simp only [List.set_cons_succ, List.set_cons_zero])
                    refine D_take 7 (v := ?_) rfl (by kernel_rfl) (by kernel_rfl) (by kernel_rfl) (fun _ _ _ h => h) rfl (by rfl) (fun W hS => ?_) hS ?_
                    rotate_left; (focus (first | (refine R_load1 (ty := 22) (x := Operand.tmp 180) rfl hS 0 rfl rfl ?_ Tryz.isAgg22; rfl))); all_goals skip; (try simp only [List.set_cons_succ, List.set_cons_zero, List.getElem_toArray, List.getElem_cons_succ, List.getElem_cons_zero])
                    refine D_one 3 rfl (by kernel_rfl) (by rfl) ?_
                    refine R_call (f := 7) (args := #[.slice Ab bts.length cb, .int .i64 200]) (by first | (go_simp; done) | (go_simp; rfl)) hfew ?_
                    rintro e w8 ⟨⟨A9, n9, c9, rfl, hn9, hru⟩, hw9⟩
                    replace hw9 := hw9.symm
                    subst hw9
                    refine ⟨_, rfl, hS, ?_⟩
                    try simp only [Act.put, List.getElem_toArray, List.getElem_cons_succ, List.getElem_cons_zero, List.setIfInBounds_toArray, List.set_cons_succ, List.set_cons_zero]
                    refine D_one 4 rfl (by kernel_rfl) (by rfl) ?_
                    refine R_call (f := 18) (args := #[.pointer (some ⟨jb, 0, none⟩), .slice A9 n9 c9]) (by first | (go_simp; done) | (go_simp; rfl)) (hcm (HJ.get 1 rfl) (hru.keep HJ.ext)) ?_
                    rintro e w7 ⟨rfl, hE, hsay⟩
                    have HJ2 := HJ.jd 1 rfl hE hsay
                    simp only [List.set_cons_zero, List.set_cons_succ] at HJ2
                    clear hS HJ hE hsay
                    have hS := HJ2.drop (L' := [_]) (List.Sublist.cons_cons _ (List.nil_sublist _))
                    refine ⟨_, rfl, hS, ?_⟩
                    try simp only [Act.put, List.getElem_toArray, List.getElem_cons_succ, List.getElem_cons_zero, List.setIfInBounds_toArray, List.set_cons_succ, List.set_cons_zero]
                    refine D_one 8 rfl (by kernel_rfl) (by rfl) ?_
                    refine R_call (f := 7) (args := #[.slice Ab bts.length cb, .int .i64 200]) (by first | (go_simp; done) | (go_simp; rfl)) hfew ?_
                    rintro e w8 ⟨⟨A8, n8, c8, rfl, hn8, hrv⟩, hw9⟩
                    replace hw9 := hw9.symm
                    subst hw9
                    refine ⟨_, rfl, hS, ?_⟩
                    try simp only [Act.put, List.getElem_toArray, List.getElem_cons_succ, List.getElem_cons_zero, List.setIfInBounds_toArray, List.set_cons_succ, List.set_cons_zero]
                    refine D_one 9 rfl (by kernel_rfl) (by rfl) ?_
                    refine R_call (f := 19) (args := #[.pointer (some ⟨kb, 0, none⟩), .slice A8 n8 c8]) (by first | (go_simp; done) | (go_simp; rfl)) (hcq (HJ2.get 2 rfl) (hrv.keep HJ2.ext)) ?_
                    rintro e w9 ⟨rfl, S2, hE, hsay, hS2⟩
                    have HJ3 := HJ2.jq 2 rfl hE hsay hS2
                    simp only [List.set_cons_zero, List.set_cons_succ] at HJ3
                    clear hS HJ2 hE hsay hS2
                    have hS := HJ3.drop (L' := [_]) (List.Sublist.cons_cons _ (List.nil_sublist _))
                    refine ⟨_, rfl, hS, ?_⟩
                    try simp only [Act.put, List.getElem_toArray, List.getElem_cons_succ, List.getElem_cons_zero, List.setIfInBounds_toArray, List.set_cons_succ, List.set_cons_zero]
                    refine D_take 10 (v := ?_) rfl (by kernel_rfl) (by kernel_rfl) (by kernel_rfl) (fun _ _ _ h => h) rfl (by rfl) (fun W hS => ?_) hS ?_
                    rotate_left; (focus (first | (go_simp; done) | (go_simp; with_reducible rfl) | (go_simp; rfl))); all_goals skip; (try simp only [List.set_cons_succ, List.set_cons_zero])
                    refine D_take 11 (v := ?_) rfl (by kernel_rfl) (by kernel_rfl) (by kernel_rfl) (fun _ _ _ h => h) rfl (by rfl) (fun W hS => ?_) hS ?_
                    rotate_left; (focus (first | (go_simp; done) | (go_simp; with_reducible rfl) | (go_simp; rfl))); all_goals skip; (try simp only [List.set_cons_succ, List.set_cons_zero])
                    refine wpAnyH_done (by kernel_rfl) ?_ _
                    have H := HJ3
                    clear HJ3 hS H0 hru hrv hn8 hn9 hcm hcq hfew
                    go_wp2_with fail
                    go_meet
                    case rel => exact ⟨⟨rfl, rfl, rfl, rfl, rfl, rfl, rfl, rfl⟩, d2, j2, S2, kk, W2, rfl, rfl, HK.out, H⟩
                · have hr4 : (r == 4) = false := by simp; omega
                  have hr5 : (r == 5) = false := by simp; omega
                  have hcm := fun {w : World} {va : Value} (h : (JD b bs bm jb d j).says w) (hr : RdS (encInt .u8) 1 w va (bts.take 200)) => append_any w h hf (by omega) hok' hr hbb hb200
                  have hcq := fun {w : World} {va : Value} (h : (JQ rb kb S d j).says w) (hr : RdS (encInt .u8) 1 w va (bts.take 200)) => refAppend_any w h hf (by omega) hok' hr hbb hb200
                  have hcf := append_fine hf hok' hbb
                  unfold JE at hcm
                  unfold JQE at hcq
                  obtain ⟨tb, htb⟩ : ∃ tb, bts.take 200 = tb := ⟨_, rfl⟩
                  rw [htb] at hfew hcm hcq hcf
                  obtain ⟨R, hR⟩ : ∃ R, appendP d j tb = R := ⟨_, rfl⟩
                  rw [hR] at hcm hcq hcf
                  obtain ⟨d2, hd2⟩ : ∃ d2, R.1 = d2 := ⟨_, rfl⟩
                  obtain ⟨j2, hj2⟩ : ∃ j2, R.2.1 = j2 := ⟨_, rfl⟩
                  obtain ⟨kk, hkk⟩ : ∃ kk, R.2.2 = kk := ⟨_, rfl⟩
                  simp only [hd2, hj2, hkk] at hcm hcq
                  rw [hd2, hj2] at hcf
                  obtain ⟨W2, hW2⟩ : ∃ W2, W + 3000 = W2 := ⟨_, rfl⟩
                  have HK : Hid (d2.Fine W2 ∧ W2 ≤ 6000 + 3000 * (i1 : Int) ∧ d2.sure.length = d.sure.length ∧ j2.Ok d.sure.length) := Lib.hid ⟨by rw [← hW2]; exact hcf.1, by omega, hcf.2.1, hcf.2.2.1⟩
                  clear hf hW hok hok' hcf hR hd2 hj2 hkk hW2 hbs hpo hdl hi1 hbb hb200 htb
                  go_upto_region 16 with fail
                  have HJ := H.drew
                  have H0 := H.drop (L' := [_]) (List.Sublist.cons_cons _ (List.nil_sublist _))
                  clear H
                  refine D_start H0 (by kernel_rfl) (fun hS => ?_)
                  try simp only [Act.put, List.setIfInBounds_toArray, List.set_cons_succ, List.set_cons_zero]
                  refine D_take 0 (v := ?_) rfl (by kernel_rfl) (by kernel_rfl) (by kernel_rfl) (fun _ _ _ h => h) rfl (by rfl) (fun W hS => ?_) hS ?_
                  rotate_left; (focus (first | (go_simp; done) | (go_simp; with_reducible rfl) | (go_simp; rfl))); all_goals skip; (try simp only [List.set_cons_succ, List.set_cons_zero])
                  refine D_take 1 (v := ?_) rfl (by kernel_rfl) (by kernel_rfl) (by kernel_rfl) (fun _ _ _ h => h) rfl (by rfl) (fun W hS => ?_) hS ?_
                  rotate_left; (focus (first | (go_simp; done) | (go_simp; with_reducible rfl) | (go_simp; rfl))); all_goals skip; (try simp only [List.set_cons_succ, List.set_cons_zero])
                  refine D_take 2 (v := ?_) rfl (by kernel_rfl) (by kernel_rfl) (by kernel_rfl) (fun _ _ _ h => h) rfl (by rfl) (fun W hS => ?_) hS ?_
                  rotate_left; (focus (first | (refine R_load1 (ty := 22) (x := Operand.tmp 108) rfl hS 0 rfl rfl ?_ Tryz.isAgg22; rfl))); all_goals skip; (try simp only [List.set_cons_succ, List.set_cons_zero, List.getElem_toArray, List.getElem_cons_succ, List.getElem_cons_zero])
                  refine D_take 5 (v := ?_) rfl (by kernel_rfl) (by kernel_rfl) (by kernel_rfl) (fun _ _ _ h => h) rfl (by rfl) (fun W hS => ?_) hS ?_
                  rotate_left; (focus (first | (go_simp; done) | (go_simp; with_reducible rfl) | (go_simp; rfl))); all_goals skip; (try simp only [List.set_cons_succ, List.set_cons_zero])
                  refine D_take 6 (v := ?_) rfl (by kernel_rfl) (by kernel_rfl) (by kernel_rfl) (fun _ _ _ h => h) rfl (by rfl) (fun W hS => ?_) hS ?_
                  rotate_left; (focus (first | (go_simp; done) | (go_simp; with_reducible rfl) | (go_simp; rfl))); all_goals skip; (try simp only [List.set_cons_succ, List.set_cons_zero])
                  refine D_take 7 (v := ?_) rfl (by kernel_rfl) (by kernel_rfl) (by kernel_rfl) (fun _ _ _ h => h) rfl (by rfl) (fun W hS => ?_) hS ?_
                  rotate_left; (focus (first | (refine R_load1 (ty := 22) (x := Operand.tmp 113) rfl hS 0 rfl rfl ?_ Tryz.isAgg22; rfl))); all_goals skip; (try simp only [List.set_cons_succ, List.set_cons_zero, List.getElem_toArray, List.getElem_cons_succ, List.getElem_cons_zero])
                  refine D_one 3 rfl (by kernel_rfl) (by rfl) ?_
                  refine R_call (f := 7) (args := #[.slice Ab bts.length cb, .int .i64 200]) (by first | (go_simp; done) | (go_simp; rfl)) hfew ?_
                  rintro e w8 ⟨⟨A9, n9, c9, rfl, hn9, hru⟩, hw9⟩
                  replace hw9 := hw9.symm
                  subst hw9
                  refine ⟨_, rfl, hS, ?_⟩
                  try simp only [Act.put, List.getElem_toArray, List.getElem_cons_succ, List.getElem_cons_zero, List.setIfInBounds_toArray, List.set_cons_succ, List.set_cons_zero]
                  refine D_one 4 rfl (by kernel_rfl) (by rfl) ?_
                  refine R_call (f := 20) (args := #[.pointer (some ⟨jb, 0, none⟩), .slice A9 n9 c9]) (by first | (go_simp; done) | (go_simp; rfl)) (hcm (HJ.get 1 rfl) (hru.keep HJ.ext)) ?_
                  rintro e w7 ⟨rfl, hE, hsay⟩
                  have HJ2 := HJ.jd 1 rfl hE hsay
                  simp only [List.set_cons_zero, List.set_cons_succ] at HJ2
                  clear hS HJ hE hsay
                  have hS := HJ2.drop (L' := [_]) (List.Sublist.cons_cons _ (List.nil_sublist _))
                  refine ⟨_, rfl, hS, ?_⟩
                  try simp only [Act.put, List.getElem_toArray, List.getElem_cons_succ, List.getElem_cons_zero, List.setIfInBounds_toArray, List.set_cons_succ, List.set_cons_zero]
                  refine D_one 8 rfl (by kernel_rfl) (by rfl) ?_
                  refine R_call (f := 7) (args := #[.slice Ab bts.length cb, .int .i64 200]) (by first | (go_simp; done) | (go_simp; rfl)) hfew ?_
                  rintro e w8 ⟨⟨A8, n8, c8, rfl, hn8, hrv⟩, hw9⟩
                  replace hw9 := hw9.symm
                  subst hw9
                  refine ⟨_, rfl, hS, ?_⟩
                  try simp only [Act.put, List.getElem_toArray, List.getElem_cons_succ, List.getElem_cons_zero, List.setIfInBounds_toArray, List.set_cons_succ, List.set_cons_zero]
                  refine D_one 9 rfl (by kernel_rfl) (by rfl) ?_
                  refine R_call (f := 21) (args := #[.pointer (some ⟨kb, 0, none⟩), .slice A8 n8 c8]) (by first | (go_simp; done) | (go_simp; rfl)) (hcq (HJ2.get 2 rfl) (hrv.keep HJ2.ext)) ?_
                  rintro e w9 ⟨rfl, S2, hE, hsay, hS2⟩
                  have HJ3 := HJ2.jq 2 rfl hE hsay hS2
                  simp only [List.set_cons_zero, List.set_cons_succ] at HJ3
                  clear hS HJ2 hE hsay hS2
                  have hS := HJ3.drop (L' := [_]) (List.Sublist.cons_cons _ (List.nil_sublist _))
                  refine ⟨_, rfl, hS, ?_⟩
                  try simp only [Act.put, List.getElem_toArray, List.getElem_cons_succ, List.getElem_cons_zero, List.setIfInBounds_toArray, List.set_cons_succ, List.set_cons_zero]
                  refine D_take 10 (v := ?_) rfl (by kernel_rfl) (by kernel_rfl) (by kernel_rfl) (fun _ _ _ h => h) rfl (by rfl) (fun W hS => ?_) hS ?_
                  rotate_left; (focus (first | (go_simp; done) | (go_simp; with_reducible rfl) | (go_simp; rfl))); all_goals skip; (try simp only [List.set_cons_succ, List.set_cons_zero])
                  refine D_take 11 (v := ?_) rfl (by kernel_rfl) (by kernel_rfl) (by kernel_rfl) (fun _ _ _ h => h) rfl (by rfl) (fun W hS => ?_) hS ?_
                  rotate_left; (focus (first | (go_simp; done) | (go_simp; with_reducible rfl) | (go_simp; rfl))); all_goals skip; (try simp only [List.set_cons_succ, List.set_cons_zero])
                  refine wpAnyH_done (by kernel_rfl) ?_ _
                  have H := HJ3
                  clear HJ3 hS H0 hru hrv hn8 hn9 hcm hcq hfew
                  go_wp2_with fail
                  go_meet
                  case rel => exact ⟨⟨rfl, rfl, rfl, rfl, rfl, rfl, rfl, rfl⟩, d2, j2, S2, kk, W2, rfl, rfl, HK.out, H⟩
        case rest =>
          clear H
          obtain ⟨⟨rfl, rfl, rfl, rfl, rfl, rfl, rfl, rfl⟩, d2, j2, S2, kk, W2, rfl, rfl, hkk, H⟩ := hcut
          have HK := Lib.hid hkk
          clear hkk
          obtain ⟨w9, hw9⟩ : ∃ w9, wc = w9 := ⟨_, rfl⟩
          rw [hw9] at H ⊢
          clear hw9
          have hjb : w9.heap[jb]? = some (.cells (jCells b j2) 76 (0, 0)) := (H.get 1 (A := JD b bs bm jb d2 j2) rfl).2.1
          have hkb : w9.heap[kb]? = some (.cells (jCells rb j2) 54 (0, 0)) := (H.get 2 (A := JQ rb kb S2 d2 j2) rfl).2.1
          have hep := fun {W : World} (e : Ext0 w9 W) => epoch_any W (e.block0 hjb)
          have hse := fun {W : World} (e : Ext0 w9 W) => seq_any W (e.block0 hjb)
          have hpl := fun {W : World} (e : Ext0 w9 W) => jplace_any W (e.block0 hjb)
          have hro := fun {W : World} (e : Ext0 w9 W) => room_any W (e.block0 hjb) (by have := HK.out.2.2.2.may.2.2.2.1; have := HK.out.2.2.1; have := HK.out.1.len; omega) HK.out.2.2.2.used
          have hc2 : ∀ {W : World}, Ext0 w9 W → W.cell? ⟨kb, 2, none⟩ = some (.int .i64 (j2.log : Int)) := fun {W} e => e.cell (show w9.cell? ⟨kb, 2, none⟩ = some (.int .i64 (j2.log : Int)) from cell_of_row w9 kb 2 _ _ _ hkb) (fun h => h)
          have hc3 : ∀ {W : World}, Ext0 w9 W → W.cell? ⟨kb, 3, none⟩ = some (.int .i64 j2.epoch) := fun {W} e => e.cell (show w9.cell? ⟨kb, 3, none⟩ = some (.int .i64 j2.epoch) from cell_of_row w9 kb 3 _ _ _ hkb) (fun h => h)
          have hc4 : ∀ {W : World}, Ext0 w9 W → W.cell? ⟨kb, 4, none⟩ = some (.int .i64 j2.seq) := fun {W} e => e.cell (show w9.cell? ⟨kb, 4, none⟩ = some (.int .i64 j2.seq) from cell_of_row w9 kb 4 _ _ _ hkb) (fun h => h)
          have hc5 : ∀ {W : World}, Ext0 w9 W → W.cell? ⟨kb, 5, none⟩ = some (.int .i64 (j2.place : Int)) := fun {W} e => e.cell (show w9.cell? ⟨kb, 5, none⟩ = some (.int .i64 (j2.place : Int)) from cell_of_row w9 kb 5 _ _ _ hkb) (fun h => h)
          have hc6 : ∀ {W : World}, Ext0 w9 W → W.cell? ⟨kb, 6, none⟩ = some (.int .i64 (j2.used : Int)) := fun {W} e => e.cell (show w9.cell? ⟨kb, 6, none⟩ = some (.int .i64 (j2.used : Int)) from cell_of_row w9 kb 6 _ _ _ hkb) (fun h => h)
          have hwr : IntKind.i64.wrap ((j2.log : Int) - (j2.used : Int)) = ((j2.log - j2.used : Nat) : Int) := by
            have h1 := HK.out.2.2.2.used
            have h2 := HK.out.2.2.2.may.2.2.2.1
            have h3 := HK.out.1.len
            have h4 := HK.out.2.2.1
            rw [IntKind.wrap_i64]
            omega
          obtain ⟨ep, hepe⟩ : ∃ ep, j2.epoch = ep := ⟨_, rfl⟩
          obtain ⟨sq, hsqe⟩ : ∃ sq, j2.seq = sq := ⟨_, rfl⟩
          obtain ⟨pl, hple⟩ : ∃ pl : Int, (j2.place : Int) = pl := ⟨_, rfl⟩
          obtain ⟨lg, hlge⟩ : ∃ lg : Int, (j2.log : Int) = lg := ⟨_, rfl⟩
          obtain ⟨us, huse⟩ : ∃ us : Int, (j2.used : Int) = us := ⟨_, rfl⟩
          obtain ⟨rm, hrme⟩ : ∃ rm : Int, ((j2.log - j2.used : Nat) : Int) = rm := ⟨_, rfl⟩
          rw [hepe] at hep hc3
          rw [hsqe] at hse hc4
          rw [hple] at hpl hc5
          rw [hrme] at hro hwr
          rw [hlge] at hc2 hwr
          rw [huse] at hc6 hwr
          clear hepe hsqe hple hlge huse hrme hjb hkb
          have hD := SH.nil (fun _ => False) w9
          go_upto_region 31 with fail
          refine D_start hD (by kernel_rfl) (fun hS => ?_)
          try simp only [Act.put, List.setIfInBounds_toArray, List.set_cons_succ, List.set_cons_zero]
          refine D_take 0 (v := ?_) rfl (by kernel_rfl) (by kernel_rfl) (by kernel_rfl) (fun _ _ _ h => h) rfl (by rfl) (fun W hS => ?_) hS ?_
          rotate_left; (focus (first | (go_simp; done) | (go_simp; with_reducible rfl) | (go_simp; rfl))); all_goals skip; (try simp only [List.set_cons_succ, List.set_cons_zero])
          refine D_take 1 (v := ?_) rfl (by kernel_rfl) (by kernel_rfl) (by kernel_rfl) (fun _ _ _ h => h) rfl (by rfl) (fun W hS => ?_) hS ?_
          rotate_left; (focus (first | (go_simp; done) | (go_simp; with_reducible rfl) | (go_simp; rfl))); all_goals skip; (try simp only [List.set_cons_succ, List.set_cons_zero])
          refine D_take 2 (v := ?_) rfl (by kernel_rfl) (by kernel_rfl) (by kernel_rfl) (fun _ _ _ h => h) rfl (by rfl) (fun W hS => ?_) hS ?_
          rotate_left; (focus (first | (go_simp; done) | (go_simp; with_reducible rfl) | (go_simp; rfl))); all_goals skip; (try simp only [List.set_cons_succ, List.set_cons_zero])
          refine D_take 3 (v := ?_) rfl (by kernel_rfl) (by kernel_rfl) (by kernel_rfl) (fun _ _ _ h => h) rfl (by rfl) (fun W hS => ?_) hS ?_
          rotate_left; (focus (first | (go_simp; done) | (go_simp; with_reducible rfl) | (go_simp; rfl))); all_goals skip; (try simp only [List.set_cons_succ, List.set_cons_zero])
          refine D_take 4 (v := ?_) rfl (by kernel_rfl) (by kernel_rfl) (by kernel_rfl) (fun _ _ _ h => h) rfl (by rfl) (fun W hS => ?_) hS ?_
          rotate_left; (focus (first | (go_simp; done) | (go_simp; with_reducible rfl) | (go_simp; rfl))); all_goals skip; (try simp only [List.set_cons_succ, List.set_cons_zero])
          refine D_take 6 (v := ?_) rfl (by kernel_rfl) (by kernel_rfl) (by kernel_rfl) (fun _ _ _ h => h) rfl (by rfl) (fun W hS => ?_) hS ?_
          rotate_left; (focus (first | (go_simp; done) | (go_simp; with_reducible rfl) | (go_simp; rfl))); all_goals skip; (try simp only [List.set_cons_succ, List.set_cons_zero])
          refine D_take 7 (v := ?_) rfl (by kernel_rfl) (by kernel_rfl) (by kernel_rfl) (fun _ _ _ h => h) rfl (by rfl) (fun W hS => ?_) hS ?_
          rotate_left; (focus (first | (go_simp; done) | (go_simp; with_reducible rfl) | (go_simp; rfl))); all_goals skip; (try simp only [List.set_cons_succ, List.set_cons_zero])
          refine D_take 8 (v := ?_) rfl (by kernel_rfl) (by kernel_rfl) (by kernel_rfl) (fun _ _ _ h => h) rfl (by rfl) (fun W hS => ?_) hS ?_
          rotate_left; (focus (first | (go_simp; done) | (go_simp; with_reducible rfl) | (go_simp; rfl))); all_goals skip; (try simp only [List.set_cons_succ, List.set_cons_zero])
          refine D_take 9 (v := (.int .i64 ep)) rfl (by kernel_rfl) (by kernel_rfl) (by kernel_rfl) (fun _ _ _ h => h) rfl (by rfl) (fun W hS => R_loadCellW (ty := 3) (x := .tmp 192) rfl rfl (hc3 hS.ext) Tryz.isAgg3) hS ?_; (try simp only [List.set_cons_succ, List.set_cons_zero])
          refine D_one 5 rfl (by kernel_rfl) (by rfl) ?_
          refine R_call (f := 22) (args := #[.pointer (some ⟨jb, 0, none⟩)]) (by first | (go_simp; done) | (go_simp; rfl)) (hep hS.ext) ?_
          rintro e w8 ⟨rfl, hE⟩
          have hS2 := hS.calls hE
          clear hS hE
          have hS := hS2
          clear hS2
          refine ⟨_, rfl, hS, ?_⟩
          try simp only [Act.put, List.getElem_toArray, List.getElem_cons_succ, List.getElem_cons_zero, List.setIfInBounds_toArray, List.set_cons_succ, List.set_cons_zero]
          refine D_take 10 (v := ?_) rfl (by kernel_rfl) (by kernel_rfl) (by kernel_rfl) (fun _ _ _ h => h) rfl (by rfl) (fun W hS => ?_) hS ?_
          rotate_left; (focus (first | (go_simp; done) | (go_simp; with_reducible rfl) | (go_simp; rfl))); all_goals skip; (try simp only [List.set_cons_succ, List.set_cons_zero])
          refine D_take 11 (v := ?_) rfl (by kernel_rfl) (by kernel_rfl) (by kernel_rfl) (fun _ _ _ h => h) rfl (by rfl) (fun W hS => ?_) hS ?_
          rotate_left; (focus (first | (go_simp; done) | (go_simp; with_reducible rfl) | (go_simp; rfl))); all_goals skip; (try simp only [List.set_cons_succ, List.set_cons_zero])
          refine D_take 12 (v := ?_) rfl (by kernel_rfl) (by kernel_rfl) (by kernel_rfl) (fun _ _ _ h => h) rfl (by rfl) (fun W hS => ?_) hS ?_
          rotate_left; (focus (first | (go_simp; done) | (go_simp; with_reducible rfl) | (go_simp; rfl))); all_goals skip; (try simp only [List.set_cons_succ, List.set_cons_zero])
          refine D_take 13 (v := ?_) rfl (by kernel_rfl) (by kernel_rfl) (by kernel_rfl) (fun _ _ _ h => h) rfl (by rfl) (fun W hS => ?_) hS ?_
          rotate_left; (focus (first | (go_simp; done) | (go_simp; with_reducible rfl) | (go_simp; rfl))); all_goals skip; (try simp only [List.set_cons_succ, List.set_cons_zero])
          refine D_take 15 (v := ?_) rfl (by kernel_rfl) (by kernel_rfl) (by kernel_rfl) (fun _ _ _ h => h) rfl (by rfl) (fun W hS => ?_) hS ?_
          rotate_left; (focus (first | (go_simp; done) | (go_simp; with_reducible rfl) | (go_simp; rfl))); all_goals skip; (try simp only [List.set_cons_succ, List.set_cons_zero])
          refine D_take 16 (v := ?_) rfl (by kernel_rfl) (by kernel_rfl) (by kernel_rfl) (fun _ _ _ h => h) rfl (by rfl) (fun W hS => ?_) hS ?_
          rotate_left; (focus (first | (go_simp; done) | (go_simp; with_reducible rfl) | (go_simp; rfl))); all_goals skip; (try simp only [List.set_cons_succ, List.set_cons_zero])
          refine D_take 17 (v := ?_) rfl (by kernel_rfl) (by kernel_rfl) (by kernel_rfl) (fun _ _ _ h => h) rfl (by rfl) (fun W hS => ?_) hS ?_
          rotate_left; (focus (first | (go_simp; done) | (go_simp; with_reducible rfl) | (go_simp; rfl))); all_goals skip; (try simp only [List.set_cons_succ, List.set_cons_zero])
          refine D_take 18 (v := (.int .i64 sq)) rfl (by kernel_rfl) (by kernel_rfl) (by kernel_rfl) (fun _ _ _ h => h) rfl (by rfl) (fun W hS => R_loadCellW (ty := 3) (x := .tmp 201) rfl rfl (hc4 hS.ext) Tryz.isAgg3) hS ?_; (try simp only [List.set_cons_succ, List.set_cons_zero])
          refine D_one 14 rfl (by kernel_rfl) (by rfl) ?_
          refine R_call (f := 23) (args := #[.pointer (some ⟨jb, 0, none⟩)]) (by first | (go_simp; done) | (go_simp; rfl)) (hse hS.ext) ?_
          rintro e w8 ⟨rfl, hE⟩
          have hS2 := hS.calls hE
          clear hS hE
          have hS := hS2
          clear hS2
          refine ⟨_, rfl, hS, ?_⟩
          try simp only [Act.put, List.getElem_toArray, List.getElem_cons_succ, List.getElem_cons_zero, List.setIfInBounds_toArray, List.set_cons_succ, List.set_cons_zero]
          refine D_take 19 (v := ?_) rfl (by kernel_rfl) (by kernel_rfl) (by kernel_rfl) (fun _ _ _ h => h) rfl (by rfl) (fun W hS => ?_) hS ?_
          rotate_left; (focus (first | (go_simp; done) | (go_simp; with_reducible rfl) | (go_simp; rfl))); all_goals skip; (try simp only [List.set_cons_succ, List.set_cons_zero])
          refine D_take 20 (v := ?_) rfl (by kernel_rfl) (by kernel_rfl) (by kernel_rfl) (fun _ _ _ h => h) rfl (by rfl) (fun W hS => ?_) hS ?_
          rotate_left; (focus (first | (go_simp; done) | (go_simp; with_reducible rfl) | (go_simp; rfl))); all_goals skip; (try simp only [List.set_cons_succ, List.set_cons_zero])
          refine D_take 21 (v := ?_) rfl (by kernel_rfl) (by kernel_rfl) (by kernel_rfl) (fun _ _ _ h => h) rfl (by rfl) (fun W hS => ?_) hS ?_
          rotate_left; (focus (first | (go_simp; done) | (go_simp; with_reducible rfl) | (go_simp; rfl))); all_goals skip; (try simp only [List.set_cons_succ, List.set_cons_zero])
          refine D_take 22 (v := ?_) rfl (by kernel_rfl) (by kernel_rfl) (by kernel_rfl) (fun _ _ _ h => h) rfl (by rfl) (fun W hS => ?_) hS ?_
          rotate_left; (focus (first | (go_simp; done) | (go_simp; with_reducible rfl) | (go_simp; rfl))); all_goals skip; (try simp only [List.set_cons_succ, List.set_cons_zero])
          refine D_take 24 (v := ?_) rfl (by kernel_rfl) (by kernel_rfl) (by kernel_rfl) (fun _ _ _ h => h) rfl (by rfl) (fun W hS => ?_) hS ?_
          rotate_left; (focus (first | (go_simp; done) | (go_simp; with_reducible rfl) | (go_simp; rfl))); all_goals skip; (try simp only [List.set_cons_succ, List.set_cons_zero])
          refine D_take 25 (v := ?_) rfl (by kernel_rfl) (by kernel_rfl) (by kernel_rfl) (fun _ _ _ h => h) rfl (by rfl) (fun W hS => ?_) hS ?_
          rotate_left; (focus (first | (go_simp; done) | (go_simp; with_reducible rfl) | (go_simp; rfl))); all_goals skip; (try simp only [List.set_cons_succ, List.set_cons_zero])
          refine D_take 26 (v := ?_) rfl (by kernel_rfl) (by kernel_rfl) (by kernel_rfl) (fun _ _ _ h => h) rfl (by rfl) (fun W hS => ?_) hS ?_
          rotate_left; (focus (first | (go_simp; done) | (go_simp; with_reducible rfl) | (go_simp; rfl))); all_goals skip; (try simp only [List.set_cons_succ, List.set_cons_zero])
          refine D_take 27 (v := (.int .i64 lg)) rfl (by kernel_rfl) (by kernel_rfl) (by kernel_rfl) (fun _ _ _ h => h) rfl (by rfl) (fun W hS => R_loadCellW (ty := 3) (x := .tmp 210) rfl rfl (hc2 hS.ext) Tryz.isAgg3) hS ?_; (try simp only [List.set_cons_succ, List.set_cons_zero])
          refine D_take 28 (v := ?_) rfl (by kernel_rfl) (by kernel_rfl) (by kernel_rfl) (fun _ _ _ h => h) rfl (by rfl) (fun W hS => ?_) hS ?_
          rotate_left; (focus (first | (go_simp; done) | (go_simp; with_reducible rfl) | (go_simp; rfl))); all_goals skip; (try simp only [List.set_cons_succ, List.set_cons_zero])
          refine D_take 29 (v := ?_) rfl (by kernel_rfl) (by kernel_rfl) (by kernel_rfl) (fun _ _ _ h => h) rfl (by rfl) (fun W hS => ?_) hS ?_
          rotate_left; (focus (first | (go_simp; done) | (go_simp; with_reducible rfl) | (go_simp; rfl))); all_goals skip; (try simp only [List.set_cons_succ, List.set_cons_zero])
          refine D_take 30 (v := ?_) rfl (by kernel_rfl) (by kernel_rfl) (by kernel_rfl) (fun _ _ _ h => h) rfl (by rfl) (fun W hS => ?_) hS ?_
          rotate_left; (focus (first | (go_simp; done) | (go_simp; with_reducible rfl) | (go_simp; rfl))); all_goals skip; (try simp only [List.set_cons_succ, List.set_cons_zero])
          refine D_take 31 (v := (.int .i64 us)) rfl (by kernel_rfl) (by kernel_rfl) (by kernel_rfl) (fun _ _ _ h => h) rfl (by rfl) (fun W hS => R_loadCellW (ty := 3) (x := .tmp 214) rfl rfl (hc6 hS.ext) Tryz.isAgg3) hS ?_; (try simp only [List.set_cons_succ, List.set_cons_zero])
          refine D_take 32 (v := ?_) rfl (by kernel_rfl) (by kernel_rfl) (by kernel_rfl) (fun _ _ _ h => h) rfl (by rfl) (fun W hS => ?_) hS ?_
          rotate_left; (focus (first | (go_simp; done) | (go_simp; with_reducible rfl) | (go_simp; rfl))); all_goals skip; (try simp only [List.set_cons_succ, List.set_cons_zero])
          refine D_one 23 rfl (by kernel_rfl) (by rfl) ?_
          refine R_call (f := 24) (args := #[.pointer (some ⟨jb, 0, none⟩)]) (by first | (go_simp; done) | (go_simp; rfl)) (hro hS.ext) ?_
          rintro e w8 ⟨rfl, hE⟩
          have hS2 := hS.calls hE
          clear hS hE
          have hS := hS2
          clear hS2
          refine ⟨_, rfl, hS, ?_⟩
          try simp only [Act.put, List.getElem_toArray, List.getElem_cons_succ, List.getElem_cons_zero, List.setIfInBounds_toArray, List.set_cons_succ, List.set_cons_zero]
          refine D_take 33 (v := ?_) rfl (by kernel_rfl) (by kernel_rfl) (by kernel_rfl) (fun _ _ _ h => h) rfl (by rfl) (fun W hS => ?_) hS ?_
          rotate_left; (focus (first | (go_simp; done) | (go_simp; with_reducible rfl) | (go_simp; rfl))); all_goals skip; (try simp only [List.set_cons_succ, List.set_cons_zero])
          refine D_take 34 (v := ?_) rfl (by kernel_rfl) (by kernel_rfl) (by kernel_rfl) (fun _ _ _ h => h) rfl (by rfl) (fun W hS => ?_) hS ?_
          rotate_left; (focus (first | (go_simp; done) | (go_simp; with_reducible rfl) | (go_simp; rfl))); all_goals skip; (try simp only [List.set_cons_succ, List.set_cons_zero])
          refine D_take 35 (v := ?_) rfl (by kernel_rfl) (by kernel_rfl) (by kernel_rfl) (fun _ _ _ h => h) rfl (by rfl) (fun W hS => ?_) hS ?_
          rotate_left; (focus (first | (go_simp; done) | (go_simp; with_reducible rfl) | (go_simp; rfl))); all_goals skip; (try simp only [List.set_cons_succ, List.set_cons_zero])
          refine D_take 36 (v := ?_) rfl (by kernel_rfl) (by kernel_rfl) (by kernel_rfl) (fun _ _ _ h => h) rfl (by rfl) (fun W hS => ?_) hS ?_
          rotate_left; (focus (first | (go_simp; done) | (go_simp; with_reducible rfl) | (go_simp; rfl))); all_goals skip; (try simp only [List.set_cons_succ, List.set_cons_zero])
          refine D_take 38 (v := ?_) rfl (by kernel_rfl) (by kernel_rfl) (by kernel_rfl) (fun _ _ _ h => h) rfl (by rfl) (fun W hS => ?_) hS ?_
          rotate_left; (focus (first | (go_simp; done) | (go_simp; with_reducible rfl) | (go_simp; rfl))); all_goals skip; (try simp only [List.set_cons_succ, List.set_cons_zero])
          refine D_take 39 (v := ?_) rfl (by kernel_rfl) (by kernel_rfl) (by kernel_rfl) (fun _ _ _ h => h) rfl (by rfl) (fun W hS => ?_) hS ?_
          rotate_left; (focus (first | (go_simp; done) | (go_simp; with_reducible rfl) | (go_simp; rfl))); all_goals skip; (try simp only [List.set_cons_succ, List.set_cons_zero])
          refine D_take 40 (v := ?_) rfl (by kernel_rfl) (by kernel_rfl) (by kernel_rfl) (fun _ _ _ h => h) rfl (by rfl) (fun W hS => ?_) hS ?_
          rotate_left; (focus (first | (go_simp; done) | (go_simp; with_reducible rfl) | (go_simp; rfl))); all_goals skip; (try simp only [List.set_cons_succ, List.set_cons_zero])
          refine D_take 41 (v := (.int .i64 pl)) rfl (by kernel_rfl) (by kernel_rfl) (by kernel_rfl) (fun _ _ _ h => h) rfl (by rfl) (fun W hS => R_loadCellW (ty := 3) (x := .tmp 224) rfl rfl (hc5 hS.ext) Tryz.isAgg3) hS ?_; (try simp only [List.set_cons_succ, List.set_cons_zero])
          refine D_one 37 rfl (by kernel_rfl) (by rfl) ?_
          refine R_call (f := 25) (args := #[.pointer (some ⟨jb, 0, none⟩)]) (by first | (go_simp; done) | (go_simp; rfl)) (hpl hS.ext) ?_
          rintro e w8 ⟨rfl, hE⟩
          have hS2 := hS.calls hE
          clear hS hE
          have hS := hS2
          clear hS2
          refine ⟨_, rfl, hS, ?_⟩
          try simp only [Act.put, List.getElem_toArray, List.getElem_cons_succ, List.getElem_cons_zero, List.setIfInBounds_toArray, List.set_cons_succ, List.set_cons_zero]
          refine D_take 42 (v := ?_) rfl (by kernel_rfl) (by kernel_rfl) (by kernel_rfl) (fun _ _ _ h => h) rfl (by rfl) (fun W hS => ?_) hS ?_
          rotate_left; (focus (first | (go_simp; done) | (go_simp; with_reducible rfl) | (go_simp; rfl))); all_goals skip; (try simp only [List.set_cons_succ, List.set_cons_zero])
          refine D_take 43 (v := ?_) rfl (by kernel_rfl) (by kernel_rfl) (by kernel_rfl) (fun _ _ _ h => h) rfl (by rfl) (fun W hS => ?_) hS ?_
          rotate_left; (focus (first | (go_simp; done) | (go_simp; with_reducible rfl) | (go_simp; rfl))); all_goals skip; (try simp only [List.set_cons_succ, List.set_cons_zero])
          refine wpAnyH_done (by kernel_rfl) ?_ _
          replace H := H.calls hS.ext
          clear hS hD hep hse hpl hro hc2 hc3 hc4 hc5 hc6 hwr
          go_wp2_with fail
          go_roundw
          case rel =>
            refine ⟨i1, d2, W2, rfl, by have := HP.out.2.1; omega, HK.out.1, HK.out.2.1, HK.out.2.2.1.trans HP.out.2.2.2.2.2.1, .inr ⟨S2, j2, st, jb, kb, qs, rs, vs, vt, vl, vm, rfl, rfl, rfl, rfl, rfl, rfl, rfl, rfl, by have h9 := HK.out.2.2.2; rw [HK.out.2.2.1]; exact h9, HP.out.2.2.2.2.2.2.2.1, HP.out.2.2.2.2.2.2.2.2.1, HP.out.2.2.2.2.2.2.2.2.2, H.drop (.cons _ (List.Sublist.refl _))⟩⟩
          case measure => simp [intOf]; have := HP.out.2.1; omega
    · obtain ⟨S, H⟩ := hdo.disks
      clear hdo
      go_upto_region 7 with fail
      go_cut [74] from 67 to 73 (fun s74 wc => s74 = .bool false ∧ wr = wc)
      case first =>
        by_cases h1 : i < ps.length
        · have h1i : (i : Int) < (ps.length : Int) := by omega
          have h2i : ¬ (i : Int) < 40 := by omega
          go_wp2
          go_meet
          case rel => exact ⟨rfl, rfl⟩
        · have h1i : ¬ (i : Int) < (ps.length : Int) := by omega
          go_wp2
          go_meet
          case rel => exact ⟨rfl, rfl⟩
      case rest =>
        obtain ⟨rfl, hw⟩ := hcut
        rw [hw] at H
        obtain ⟨A1, c1, hc0, hgs⟩ := RefA.goods (H.get 1 rfl)
        rw [hdl] at hc0 hgs
        have hrd : ∀ {w : World} (k : Nat), k < N → (DiskA b bs bm d).says w → Calls Tryz.prog 26 #[.pointer (some ⟨b, 0, none⟩), .int .i64 (k : Int)] w fun e w' => ∃ v, e = .returned (.tuple #[v, .int .i64 0]) ∧ w'.ownsRow w.heap.size 5 1 v (d.is (k : Int)).bytes.length (cellsOf (encInt .u8) (d.is (k : Int)).bytes) ∧ Ext0 w w' := fun {w} k hk h => by
          have := dread h hf (k : Int)
          rw [show d.readR (k : Int) = ((d.is (k : Int)).bytes, 0) by unfold DS.readR; rw [if_pos ⟨by omega, by omega⟩]] at this
          exact this
        have HG := Lib.hid (And.intro hgs trivial)
        clear hf hW hdl hgs hw hlt HX
        go_wp2_with fail
        go_loopw [25] (DoesZ N wc) (fun vi _ => N - (intOf vi).toNat)
        case atStart => exact ⟨0, rfl, Nat.zero_le _, Ext.refl _ _⟩
        case round =>
          obtain ⟨k, rfl, hk, hE⟩ := hrel
          have HC := H.calls hE
          have hcc := hE.cell hc0 (fun h => h)
          by_cases hkn : k < N
          · have hki : (k : Int) < (N : Int) := by omega
            have hwk : IntKind.i64.wrap ((k : Int) + 1) = ((k + 1 : Nat) : Int) := by rw [IntKind.wrap_i64]; omega
            obtain ⟨g, Ak, nk, ck, rfl, hcg, hrk⟩ := HG.out.1 k hkn
            have hrd2 := hrd k hkn (HC.get 0 rfl)
            obtain ⟨xs, hxs⟩ : ∃ xs, (d.is (k : Int)).bytes = xs := ⟨_, rfl⟩
            rw [hxs] at hrk hrd2
            obtain ⟨st, hst⟩ : ∃ st, strOfNums xs = st := ⟨_, rfl⟩
            clear hxs
            go_upto_region 37 with (first
              | (go_at_call 26; refine hrd2.mono ?_; rintro e1 w2 ⟨v10, rfl, h1, h2⟩))
            clear hrd2 hcc
            have hE2 := hE.trans0 h2
            have hq5 := fun {W : World} (e : Ext0 w2 W) => (hE2.trans0 e).cell hc0 (fun h => h)
            have hq8 := fun {W : World} (e : Ext0 w2 W) => (hE2.trans0 e).cell hcg (fun h => h)
            have hq1 := fun {W : World} (e : Ext0 w2 W) => run_string ((RdS.own (encInt_len .u8) rfl h1).keep e) Tryz.underlying22 Tryz.underlying5 Tryz.underlying9
            have hq9 := fun {W : World} (e : Ext0 w2 W) => run_string (hrk.keep (hE2.trans0 e)) Tryz.underlying22 Tryz.underlying5 Tryz.underlying9
            rw [hst] at hq1 hq9
            clear hst hrk hcg h1
            have hD := SH.nil (fun _ => False) w2
            refine D_start hD (by kernel_rfl) (fun hS => ?_)
            try simp only [Act.put, List.setIfInBounds_toArray, List.set_cons_succ, List.set_cons_zero]
            refine D_take 0 (v := ?_) rfl (by kernel_rfl) (by kernel_rfl) (by kernel_rfl) (fun _ _ _ h => h) rfl (by rfl) (fun W hS => ?_) hS ?_
            rotate_left; (focus (first | (go_simp; done) | (go_simp; with_reducible rfl) | (go_simp; rfl))); all_goals skip; (try simp only [List.set_cons_succ, List.set_cons_zero])
            refine D_take 1 (v := (.string st)) rfl (by kernel_rfl) (by kernel_rfl) (by kernel_rfl) (fun _ _ _ h => h) rfl (by rfl) (fun W hS => R_convertW (src := 22) (dst := 9) (x := .tmp 243) rfl rfl (hq1 hS.ext)) hS ?_; (try simp only [List.set_cons_succ, List.set_cons_zero])
            refine D_take 2 (v := ?_) rfl (by kernel_rfl) (by kernel_rfl) (by kernel_rfl) (fun _ _ _ h => h) rfl (by rfl) (fun W hS => ?_) hS ?_
            rotate_left; (focus (first | (go_simp; done) | (go_simp; with_reducible rfl) | (go_simp; rfl))); all_goals skip; (try simp only [List.set_cons_succ, List.set_cons_zero])
            refine D_take 3 (v := ?_) rfl (by kernel_rfl) (by kernel_rfl) (by kernel_rfl) (fun _ _ _ h => h) rfl (by rfl) (fun W hS => ?_) hS ?_
            rotate_left; (focus (first | (go_simp; done) | (go_simp; with_reducible rfl) | (go_simp; rfl))); all_goals skip; (try simp only [List.set_cons_succ, List.set_cons_zero])
            refine D_take 4 (v := ?_) rfl (by kernel_rfl) (by kernel_rfl) (by kernel_rfl) (fun _ _ _ h => h) rfl (by rfl) (fun W hS => ?_) hS ?_
            rotate_left; (focus (first | (go_simp; done) | (go_simp; with_reducible rfl) | (go_simp; rfl))); all_goals skip; (try simp only [List.set_cons_succ, List.set_cons_zero])
            refine D_take 5 (v := (.slice (some ⟨g, 0, none⟩) N c1)) rfl (by kernel_rfl) (by kernel_rfl) (by kernel_rfl) (fun _ _ _ h => h) rfl (by rfl) (fun W hS => R_loadCellW (ty := 33) (x := .tmp 247) rfl rfl (hq5 hS.ext) Tryz.isAgg33) hS ?_; (try simp only [List.set_cons_succ, List.set_cons_zero])
            refine D_take 6 (v := ?_) rfl (by kernel_rfl) (by kernel_rfl) (by kernel_rfl) (fun _ _ _ h => h) rfl (by rfl) (fun W hS => ?_) hS ?_
            rotate_left; (focus (first | (go_simp; done) | (go_simp; with_reducible rfl) | (go_simp; rfl))); all_goals skip; (try simp only [List.set_cons_succ, List.set_cons_zero])
            refine D_take 7 (v := ?_) rfl (by kernel_rfl) (by kernel_rfl) (by kernel_rfl) (fun _ _ _ h => h) rfl (by rfl) (fun W hS => ?_) hS ?_
            rotate_left; (focus (first | (go_simp; done) | (go_simp; with_reducible rfl) | (go_simp; rfl))); all_goals skip; (try simp only [List.set_cons_succ, List.set_cons_zero])
            refine D_take 8 (v := (.slice Ak nk ck)) rfl (by kernel_rfl) (by kernel_rfl) (by kernel_rfl) (fun _ _ _ h => h) rfl (by rfl) (fun W hS => R_loadCellW (ty := 22) (x := .tmp 250) rfl rfl (hq8 hS.ext) Tryz.isAgg22) hS ?_; (try simp only [List.set_cons_succ, List.set_cons_zero])
            refine D_take 9 (v := (.string st)) rfl (by kernel_rfl) (by kernel_rfl) (by kernel_rfl) (fun _ _ _ h => h) rfl (by rfl) (fun W hS => R_convertW (src := 22) (dst := 9) (x := .tmp 251) rfl rfl (hq9 hS.ext)) hS ?_; (try simp only [List.set_cons_succ, List.set_cons_zero])
            refine D_take 10 (v := (.bool false)) rfl (by kernel_rfl) (by kernel_rfl) (by kernel_rfl) (fun _ _ _ h => h) rfl (by rfl) (fun W hS => by first | (go_simp; done) | (go_simp; rfl)) hS ?_; (try simp only [List.set_cons_succ, List.set_cons_zero])
            refine wpAnyH_done (by kernel_rfl) ?_ _
            have hE3 := hE2.trans0 hS.ext
            clear hS hD hq1 hq5 hq8 hq9
            go_wp2_with fail
            go_roundw
            case rel => exact ⟨k + 1, rfl, by omega, hE3⟩
            case measure => simp [intOf]; omega
          · have hki : ¬ (k : Int) < (N : Int) := by omega
            go_wp2_with (first
              | (go_at_call 12; refine (awake_any _).mono ?_; rintro e1 w2 ⟨rfl, hE5⟩; replace HC := HC.calls hE5; clear hE5))
            go_ret
            exact ⟨rfl, HC.ext⟩
end Go.Proofs.YtgmeahogdjhejaaGreatDoor
