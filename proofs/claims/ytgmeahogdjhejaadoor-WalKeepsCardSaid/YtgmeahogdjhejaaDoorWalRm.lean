/- WalRoom: the walk. -/
import Derived.Test.YtgmeahogdjhejaaDoorWalAwx
import Derived.Test.YtgmeahogdjhejaaDoorWalK
namespace Go.Proofs.YtgmeahogdjhejaaDoor
set_option linter.unusedVariables false
set_option linter.unusedSimpArgs false
open Go.RowKit Go.Shelf

set_option maxHeartbeats 1000000 in
theorem few_b (v : Value) (xs : List Int) (k : Nat) (hk : k ≤ 1000) (w : World) (hr : RdS (encInt .u8) 1 w v xs) : Calls Tryd.prog 15 #[v, .int .i64 (k : Int)] w fun e w' => (∃ u, e = .returned u ∧ RdS (encInt .u8) 1 w u (xs.take k)) ∧ w' = w := by
  obtain ⟨A, cap, rfl, hc⟩ := hr.len
  by_cases hl : k < xs.length
  · have hl' : (k : Int) < (xs.length : Int) := by omega
    obtain ⟨b, off, _, _, _, rfl, _, _⟩ := hr.cell (j := 0) (by omega)
    have hcc : k ≤ cap := by omega
    have hc0 : ¬ cap = 0 := by omega
    have h2 := sub_rd hr 0 k cap (by omega) hcc
    rw [List.drop_zero, Nat.add_zero] at h2
    have HR := Lib.hid h2
    clear hr h2
    go_enter Tryd.func15, Tryd.ntmps15
    go_wp2
    go_ret
    exact ⟨⟨_, rfl, by simpa using HR.out⟩, rfl⟩
  · have hl' : ¬ (k : Int) < (xs.length : Int) := by omega
    have HR := Lib.hid hr
    clear hr
    go_enter Tryd.func15, Tryd.ntmps15
    go_wp2
    go_ret
    exact ⟨⟨_, rfl, by rw [List.take_of_length_le (by omega)]; exact HR.out⟩, rfl⟩
def RoomR (b bs bm jb n : Nat) (w0 : World) (v13 : Value) (wr : World) : Prop :=
  ∃ (i : Nat) (d : DS) (j : JS) (W : Int), v13 = .int .i64 (i : Int) ∧ i ≤ 40 ∧ Rm n d j W ∧ j.Ok d.sure.length ∧ d.sure.length = 6 + n ∧ W ≤ 2 + 30 * i ∧ j.seq ≤ i ∧ SH (fun _ => False) w0 wr [JD b bs bm jb d j]
theorem zeros_bytes (k : Nat) : ∀ x ∈ List.replicate k (0 : Int), 0 ≤ x ∧ x ≤ 255 := fun x hx => by rw [(List.mem_replicate.1 hx).2]; omega
set_option maxRecDepth 100000 in
set_option maxHeartbeats 8000000 in
theorem room_walk (lg : Int) (hlg : 0 ≤ lg ∧ lg ≤ 255) (v u : Value) (xs bs0 : List Int) (w0 : World) (hr : RdS (encInt .u16) 1 w0 v xs) (hx : ∀ x ∈ xs, 0 ≤ x ∧ x ≤ 65535) (hb : RdS (encInt .u8) 1 w0 u bs0) (hbb : ∀ x ∈ bs0, 0 ≤ x ∧ x ≤ 255) :
    Calls Tryd.prog 3 #[.int .u8 lg, v, u] w0 fun e w' => e = .returned (.bool true) ∧ Ext0 w0 w' := by
  obtain ⟨A, cap, rfl, hcap⟩ := hr.len
  have H : SH (fun _ => False) w0 w0 [] := SH.nil _ _
  obtain ⟨i0, hi, hz, hsz, hby⟩ := info_parts info5
  obtain ⟨m, hm⟩ : ∃ m : Nat, lg.tmod 60 = (m : Int) := ⟨(lg.tmod 60).toNat, by rw [Int.tmod_eq_emod_of_nonneg hlg.1]; omega⟩
  have hm60 : m < 60 := by have h := hm; rw [Int.tmod_eq_emod_of_nonneg hlg.1] at h; omega
  obtain ⟨n, hn⟩ : ∃ n, 1 + m = n := ⟨_, rfl⟩
  have hw0 : IntKind.i64.wrap (m : Int) = (m : Int) := by rw [IntKind.wrap_i64]; omega
  have hw1 : IntKind.i64.wrap (1 + (m : Int)) = (n : Int) := by rw [IntKind.wrap_i64]; omega
  have hw2 : IntKind.i64.wrap (6 + (n : Int)) = ((6 + n : Nat) : Int) := by rw [IntKind.wrap_i64]; omega
  obtain ⟨N, hN⟩ : ∃ N : Nat, 6 + n = N := ⟨_, rfl⟩
  rw [hN] at hw2
  obtain ⟨d1, j1, st1, d2, j2, hfo, hf1, hop, hck, hRm, hu2, hq2⟩ := room_start (n := n) (by omega)
  rw [hN] at hfo
  have hl0 : (DS.new N).sure.length = N := by simp [DS.new]
  have hf0 : (DS.new N).Fine 0 := DS.Fine.new N (by omega)
  have hl1 : d1.sure.length = N := by have h := (format_fine hf0 2 (n : Int) (st := []) (by simp [Bytes])).2; rw [hfo, hl0] at h; exact h
  have hmay : mayP d1.sure.length (2 : Nat) n := by rw [hl1]; exact ⟨by decide, by omega, by omega, by omega, by omega⟩
  have hok1 := open_ok hf1 hmay hop
  have hok2 := checkpoint_ok hf1 hl1 (hl1 ▸ hok1.1) (st := []) (by simp [Bytes])
  rw [hck] at hok2
  have hnew := fun {w : World} => new_any (N : Int) w
  rw [show min (N : Int).toNat 4096 = N by rw [Int.toNat_natCast]; omega] at hnew
  have hfmt := fun {b bs bm : Nat} {w : World} (hD : (DiskA b bs bm (DS.new N)).says w) => format_any w hD hf0 (by omega) 2 (n : Int) (v := .slice none 0 0) (xs := []) (RdS.nil _ _ _) (by simp) (fun j hj => by cases hj)
  unfold FormatE at hfmt
  rw [hfo] at hfmt
  have hopn := fun {b bs bm : Nat} {w : World} (hD : (DiskA b bs bm d1).says w) => (open_any w hD hf1 2 n hmay).mono (fun e w' h => opened_some (by rw [hop] at h; exact h))
  have hckp := fun {b bs bm jb : Nat} {w : World} (h : (JD b bs bm jb d1 j1).says w) => checkpoint_any w h hf1 (by omega) hok1.1 (v := .slice none 0 0) (xs := []) (RdS.nil _ _ _) (by simp)
  unfold JE at hckp
  rw [hck] at hckp
  have hroom2 := fun {b jb : Nat} {w : World} (h : w.heap[jb]? = some (.cells (jCells b j2) 67 (0, 0))) => room_any w h (by rw [hRm.log]; omega) (by rw [hRm.log, hu2]; omega)
  rw [hRm.log, hu2, Nat.sub_zero] at hroom2
  have HX := Lib.hid (And.intro hr (And.intro hx (And.intro hb hbb)))
  have HN := Lib.hid (And.intro hn (And.intro hN hm60))
  have HR := Lib.hid (And.intro hRm (And.intro hok2 hq2))
  clear hlg hr hx hb hbb hn hN hm60 hRm hok2 hq2 hu2 hfo hf1 hop hck hl0 hf0 hl1 hmay hok1
  go_enter Tryd.func3, Tryd.ntmps3
  go_upto_region 5 with (first
    | (go_at_call 7; refine hnew.mono ?_; rintro e w ⟨b, bs, bm, rfl, h⟩; replace H := H.cat h; clear h; simp only [List.cons_append, List.nil_append] at H)
    | (go_at_call 8; refine (hfmt (H.get 0 rfl)).mono ?_; rintro e1 w2 ⟨rfl, hE, hsay⟩; replace H := H.disk 0 rfl hE hsay; simp only [List.set_cons_zero, List.set_cons_succ] at H; clear hE hsay))
  clear hnew hfmt
  go_upto_region 6 with (first
    | (go_at_call 9; refine (hopn (H.get 0 rfl)).mono ?_; rintro e1 w3 ⟨jb, vs, vl, ps, rfl, hps, hS⟩; replace H := H.opened hS; clear hS))
  clear hps hopn
  replace H := H.drop (L' := [_]) (.cons_cons _ (.cons _ (.cons _ (.cons _ .slnil))))
  go_upto_region 8 with (first
    | (go_at_call 10; refine (hckp (H.get 0 rfl)).mono ?_; rintro e1 w2 ⟨rfl, hE, hsay⟩; replace H := H.jd 0 rfl hE hsay; simp only [List.set_cons_zero, List.set_cons_succ] at H; clear hE hsay)
    | (go_at_call 11; refine (hroom2 (H.get 0 rfl).2.1).mono ?_; rintro e1 w2 ⟨rfl, hE⟩; replace H := H.calls hE; clear hE))
  clear hckp hroom2
  have hst : RoomR b bs bm jb n w0 (.int .i64 0) w2 := ⟨0, d2, j2, 2, rfl, by omega, HR.out.1, by rw [HR.out.2.1.2.1]; exact HR.out.2.1.2.2, by rw [HR.out.2.1.2.1, HN.out.2.1], by omega, by rw [HR.out.2.2]; omega, H⟩
  clear H HR
  go_wp2_with fail
  go_loopw [13] (RoomR b bs bm jb n w0) (fun vi _ => 40 - (intOf vi).toNat)
  case atStart => exact hst
  case round =>
    clear hst
    obtain ⟨i, d, j, W, rfl, hi40, hRm, hok, hdl, hW, hjs, H⟩ := hrel
    obtain ⟨rm, hrm⟩ : ∃ rm, n - j.used = rm := ⟨_, rfl⟩
    have hroom := fun {w : World} (h : w.heap[jb]? = some (.cells (jCells b j) 67 (0, 0))) => room_any w h (by rw [hRm.log]; have := HN.out; omega) hok.used
    rw [hRm.log, hrm] at hroom
    have hseq := fun {w : World} (h : w.heap[jb]? = some (.cells (jCells b j) 67 (0, 0))) => seq_any w h
    have hfine : d.Fine W := by obtain ⟨V, hd, _⟩ := hRm.disk; exact hd.fine
    by_cases hlt : i < xs.length ∧ i < 40
    · obtain ⟨hlx, hl40⟩ := hlt
      have hlxi : (i : Int) < (xs.length : Int) := by omega
      have hl40i : (i : Int) < 40 := by omega
      have hwi : IntKind.i64.wrap ((i : Int) + 1) = ((i + 1 : Nat) : Int) := by rw [IntKind.wrap_i64]; omega
      obtain ⟨i1, hi1⟩ : ∃ i1, i + 1 = i1 := ⟨_, rfl⟩
      rw [hi1] at hwi
      obtain ⟨bb, off, cs, T, fr, he, hbk, hcs⟩ := HX.out.1.cell hlx
      cases he
      have hxx := HX.out.2.1 xs[i] (List.getElem_mem hlx)
      obtain ⟨k, hk⟩ : ∃ k : Nat, (xs[i]).tmod 600 = (k : Int) := ⟨((xs[i]).tmod 600).toNat, by rw [Int.tmod_eq_emod_of_nonneg hxx.1]; omega⟩
      have hk6 : k < 600 := by have h := hk; rw [Int.tmod_eq_emod_of_nonneg hxx.1] at h; omega
      have hcell := fun {w : World} (e : Ext0 w0 w) => e.cell (by rw [cell_of_row w0 bb (off + i) cs T fr hbk]; have := hcs 0 (by omega); simpa [encInt] using this : w0.cell? ⟨bb, off + i, none⟩ = some (.int .u16 xs[i])) (fun h => h)
      obtain ⟨x, hxe⟩ : ∃ x, xs[i] = x := ⟨_, rfl⟩
      rw [hxe] at hk hcell hxx
      obtain ⟨c, hc⟩ : ∃ c, countP k = c := ⟨_, rfl⟩
      have hk0 : IntKind.i64.wrap (k : Int) = (k : Int) := by rw [IntKind.wrap_i64]; omega
      have hk1 : IntKind.i64.wrap ((k : Int) + 29) = (k : Int) + 29 := by rw [IntKind.wrap_i64]; omega
      have hk2 : ((k : Int) + 29).tdiv 24 = (c : Int) := by rw [Int.tdiv_eq_ediv_of_nonneg (by omega), ← hc]; unfold countP; omega
      have hc30 : 1 ≤ c ∧ c ≤ 30 := by rw [← hc]; unfold countP; omega
      have hk3 : IntKind.i64.wrap (c : Int) = (c : Int) := by rw [IntKind.wrap_i64]; omega
      have happ := fun {w : World} {va : Value} (h : (JD b bs bm jb d j).says w) (hr : RdS (encInt .u8) 1 w va (List.replicate k 0)) => append_any w h hfine (by omega) hok hr (zeros_bytes k) (by rw [List.length_replicate]; omega)
      unfold JE at happ
      have hjq : 0 ≤ j.seq := hRm.seq
      have hlaw := hRm.append (zeros_bytes k) (by rw [List.length_replicate]; omega) (by omega)
      have hokk := append_ok hfine hdl (hdl ▸ hok) (zeros_bytes k)
      rw [List.length_replicate, hc, hrm] at hlaw
      obtain ⟨q, hq⟩ : ∃ q, j.seq = q := ⟨_, rfl⟩
      rw [hq] at hseq
      rcases hlaw with ⟨hlt, hap⟩ | ⟨hle, d', j', hap, hRm', hu', hs'⟩
      · rw [hap] at happ
        have hci : (rm : Int) < (c : Int) := by omega
        have hci2 : ¬ (c : Int) ≤ (rm : Int) := by omega
        have HK := Lib.hid (And.intro hRm (And.intro hok (And.intro hdl (And.intro hW (And.intro hjs hi1)))))
        clear hRm hok hdl hW hjs hi1 hxx hc30 hokk hap hc hfine hjq hq hbk hcs hxe
        have hc1 := hcell H.ext
        go_upto_region 12 with fail
        clear hc1
        go_upto_region 14 with (first
          | (go_at_call 11; refine (hroom (H.get 0 rfl).2.1).mono ?_; rintro e1 w2 ⟨rfl, hE⟩; replace H := H.calls hE; clear hE)
          | (go_at_call 12; refine (hseq (H.get 0 rfl).2.1).mono ?_; rintro e1 w2 ⟨rfl, hE⟩; replace H := H.calls hE; clear hE)
          | (refine L_make (n := k) rfl rfl H Tryd.underlying23 hi hz rfl rfl (by rw [hby]; omega) (by simp only [maxLen]; omega) ?_; clear H; intro g w H; rw [hsz, made_bytes] at H; (try simp only [Act.put, List.setIfInBounds_toArray, List.set_cons_succ, List.set_cons_zero, List.getElem_toArray, List.getElem_cons_succ, List.getElem_cons_zero]))
          | (go_at_call 13; refine (happ (H.get 1 rfl) (by have h9 := bytesRd (H.at_ 0 rfl); rw [List.length_replicate] at h9; exact h9)).mono ?_; rintro e1 w2 ⟨rfl, hE, hsay⟩; replace H := H.jd 1 rfl hE hsay; simp only [List.set_cons_zero, List.set_cons_succ] at H; clear hE hsay; replace H := H.drop (L' := [_]) (.cons _ (List.Sublist.refl _))))
        go_wp2_with (first
          | (go_at_call 11; refine (hroom (H.get 0 rfl).2.1).mono ?_; rintro e1 w2 ⟨rfl, hE⟩; replace H := H.calls hE; clear hE)
          | (go_at_call 12; refine (hseq (H.get 0 rfl).2.1).mono ?_; rintro e1 w2 ⟨rfl, hE⟩; replace H := H.calls hE; clear hE))
        go_roundw
        case rel => exact ⟨i1, d, j, W, rfl, by have := HK.out.2.2.2.2.2; omega, HK.out.1, HK.out.2.1, HK.out.2.2.1, by have := HK.out.2.2.2.1; have := HK.out.2.2.2.2.2; omega, by have := HK.out.2.2.2.2.1; have := HK.out.2.2.2.2.2; omega, H⟩
        case measure => simp [intOf]; have := HK.out.2.2.2.2.2; omega
      · rw [hap] at happ hokk
        have hci : ¬ (rm : Int) < (c : Int) := by omega
        have hci2 : (c : Int) ≤ (rm : Int) := by omega
        have hroom' := fun {w : World} (h : w.heap[jb]? = some (.cells (jCells b j') 67 (0, 0))) => room_any w h (by rw [hRm'.log]; have := HN.out; omega) (by rw [hRm'.log]; exact hRm'.used)
        have hseq' := fun {w : World} (h : w.heap[jb]? = some (.cells (jCells b j') 67 (0, 0))) => seq_any w h
        rw [hRm'.log, show n - j'.used = rm - c by rw [hu']; omega] at hroom'
        rw [hs', hq] at hseq'
        have hwr : IntKind.i64.wrap ((rm : Int) - (c : Int)) = ((rm - c : Nat) : Int) := by have := HN.out; rw [IntKind.wrap_i64]; omega
        obtain ⟨rc, hrc⟩ : ∃ rc, rm - c = rc := ⟨_, rfl⟩
        rw [hrc] at hroom' hwr
        have hwq : IntKind.i64.wrap (q + 1) = q + 1 := by rw [IntKind.wrap_i64]; omega
        have HK := Lib.hid (And.intro hRm' (And.intro hokk (And.intro hW (And.intro hjs (And.intro hi1 (And.intro hs' (And.intro hc30 hq)))))))
        clear hRm hRm' hok hdl hW hjs hi1 hxx hc30 hokk hap hc hfine hjq hq hbk hcs hxe hu' hs' hrc
        have hc1 := hcell H.ext
        go_upto_region 12 with fail
        clear hc1
        go_upto_region 14 with (first
          | (go_at_call 11; refine (hroom (H.get 0 rfl).2.1).mono ?_; rintro e1 w2 ⟨rfl, hE⟩; replace H := H.calls hE; clear hE)
          | (go_at_call 12; refine (hseq (H.get 0 rfl).2.1).mono ?_; rintro e1 w2 ⟨rfl, hE⟩; replace H := H.calls hE; clear hE)
          | (refine L_make (n := k) rfl rfl H Tryd.underlying23 hi hz rfl rfl (by rw [hby]; omega) (by simp only [maxLen]; omega) ?_; clear H; intro g w H; rw [hsz, made_bytes] at H; (try simp only [Act.put, List.setIfInBounds_toArray, List.set_cons_succ, List.set_cons_zero, List.getElem_toArray, List.getElem_cons_succ, List.getElem_cons_zero]))
          | (go_at_call 13; refine (happ (H.get 1 rfl) (by have h9 := bytesRd (H.at_ 0 rfl); rw [List.length_replicate] at h9; exact h9)).mono ?_; rintro e1 w2 ⟨rfl, hE, hsay⟩; replace H := H.jd 1 rfl hE hsay; simp only [List.set_cons_zero, List.set_cons_succ] at H; clear hE hsay; replace H := H.drop (L' := [_]) (.cons _ (List.Sublist.refl _))))
        clear hroom hseq
        go_wp2_with (first
          | (go_at_call 11; refine (hroom' (H.get 0 rfl).2.1).mono ?_; rintro e1 w2 ⟨rfl, hE⟩; replace H := H.calls hE; clear hE)
          | (go_at_call 12; refine (hseq' (H.get 0 rfl).2.1).mono ?_; rintro e1 w2 ⟨rfl, hE⟩; replace H := H.calls hE; clear hE))
        go_roundw
        case rel =>
          have h9 := HK.out
          exact ⟨i1, d', j', _, rfl, by omega, h9.1, by rw [h9.2.1.2.1]; exact h9.2.1.2.2, h9.2.1.2.1, by omega, by omega, H⟩
        case measure => simp [intOf]; have := HK.out; omega
    · clear hroom
      have hbig := hRm.big (b := List.replicate 43 0) (by simp)
      obtain ⟨d', j', hla, hf', hu', hl', hs'⟩ := hRm.last (b := bs0.take 42) (fun x hx => HX.out.2.2.2 x (List.mem_of_mem_take hx)) (by rw [List.length_take]; omega)
      have hck1 := fun {w : World} {va : Value} (h : (JD b bs bm jb d j).says w) (hr : RdS (encInt .u8) 1 w va (List.replicate 43 0)) => checkpoint_any w h hfine (by omega) hok hr (zeros_bytes 43)
      have hck2 := fun {w : World} {va : Value} (h : (JD b bs bm jb d j).says w) (hr : RdS (encInt .u8) 1 w va (bs0.take 42)) => checkpoint_any w h hfine (by omega) hok hr (fun x hx => HX.out.2.2.2 x (List.mem_of_mem_take hx))
      unfold JE at hck1 hck2
      rw [hbig] at hck1
      rw [hla] at hck2
      have hroom := fun {w : World} (h : w.heap[jb]? = some (.cells (jCells b j') 67 (0, 0))) => room_any w h (by rw [hl']; have := HN.out; omega) (by rw [hl', hu']; omega)
      have hseq' := fun {w : World} (h : w.heap[jb]? = some (.cells (jCells b j') 67 (0, 0))) => seq_any w h
      rw [hl', hu', Nat.sub_zero] at hroom
      rw [hs'] at hseq'
      obtain ⟨q, hq⟩ : ∃ q, j.seq = q := ⟨_, rfl⟩
      rw [hq] at hseq hseq'
      have hfew := fun {w : World} (e : Ext0 w0 w) => few_b u bs0 42 (by omega) w (HX.out.2.2.1.keep e)
      obtain ⟨z, hz43⟩ : ∃ z : List Int, List.replicate 43 0 = z := ⟨_, rfl⟩
      rw [hz43] at hck1
      have hzl : z.length = 43 := by rw [← hz43]; simp
      have HZ := Lib.hid (And.intro hz43 hzl)
      clear hz43 hla hbig hf' hu' hl' hs' hq hRm hok hdl hW hjs hfine hrm hzl
      by_cases h1 : i < xs.length
      · have h1i : (i : Int) < (xs.length : Int) := by omega
        have h2i : ¬ (i : Int) < 40 := by omega
        clear hlt
        go_upto_region 17 with (first
          | (go_at_call 12; refine (hseq (H.get 0 rfl).2.1).mono ?_; rintro e1 w2 ⟨rfl, hE⟩; replace H := H.calls hE; clear hE))
        go_upto_region 18 with (first
          | (refine L_make (n := 43) rfl rfl H Tryd.underlying23 hi hz rfl rfl (by rw [hby]; omega) (by simp only [maxLen]; omega) ?_; clear H; intro g w H; rw [hsz, made_bytes, HZ.out.1] at H; (try simp only [Act.put, List.setIfInBounds_toArray, List.set_cons_succ, List.set_cons_zero, List.getElem_toArray, List.getElem_cons_succ, List.getElem_cons_zero]))
          | (go_at_call 10; refine (hck1 (H.get 1 rfl) (by have h9 := bytesRd (H.at_ 0 rfl); rw [HZ.out.2] at h9; exact h9)).mono ?_; rintro e1 w2 ⟨rfl, hE, hsay⟩; replace H := H.jd 1 rfl hE hsay; simp only [List.set_cons_zero, List.set_cons_succ] at H; clear hE hsay; replace H := H.drop (L' := [_]) (.cons _ (List.Sublist.refl _))))
        clear hck1 hseq
        go_wp2_with (first
          | (go_at_call 14; refine (awake_any _).mono ?_; rintro e1 w2 ⟨rfl, hE⟩; replace H := H.calls hE; clear hE)
          | (go_at_call 15; refine (hfew H.ext).mono ?_; rintro e1 w2 ⟨⟨u2, rfl, hru⟩, rfl⟩)
          | (go_at_call 10; refine (hck2 (H.get 0 rfl) hru).mono ?_; rintro e1 w2 ⟨rfl, hE, hsay⟩; replace H := H.jd 0 rfl hE hsay; simp only [List.set_cons_zero, List.set_cons_succ] at H; clear hE hsay hru)
          | (go_at_call 11; refine (hroom (H.get 0 rfl).2.1).mono ?_; rintro e1 w2 ⟨rfl, hE⟩; replace H := H.calls hE; clear hE)
          | (go_at_call 12; refine (hseq' (H.get 0 rfl).2.1).mono ?_; rintro e1 w2 ⟨rfl, hE⟩; replace H := H.calls hE; clear hE))
        go_ret
        exact ⟨rfl, H.ext⟩
      · have h1i : ¬ (i : Int) < (xs.length : Int) := by omega
        clear hlt
        go_upto_region 17 with (first
          | (go_at_call 12; refine (hseq (H.get 0 rfl).2.1).mono ?_; rintro e1 w2 ⟨rfl, hE⟩; replace H := H.calls hE; clear hE))
        go_upto_region 18 with (first
          | (refine L_make (n := 43) rfl rfl H Tryd.underlying23 hi hz rfl rfl (by rw [hby]; omega) (by simp only [maxLen]; omega) ?_; clear H; intro g w H; rw [hsz, made_bytes, HZ.out.1] at H; (try simp only [Act.put, List.setIfInBounds_toArray, List.set_cons_succ, List.set_cons_zero, List.getElem_toArray, List.getElem_cons_succ, List.getElem_cons_zero]))
          | (go_at_call 10; refine (hck1 (H.get 1 rfl) (by have h9 := bytesRd (H.at_ 0 rfl); rw [HZ.out.2] at h9; exact h9)).mono ?_; rintro e1 w2 ⟨rfl, hE, hsay⟩; replace H := H.jd 1 rfl hE hsay; simp only [List.set_cons_zero, List.set_cons_succ] at H; clear hE hsay; replace H := H.drop (L' := [_]) (.cons _ (List.Sublist.refl _))))
        clear hck1 hseq
        go_wp2_with (first
          | (go_at_call 14; refine (awake_any _).mono ?_; rintro e1 w2 ⟨rfl, hE⟩; replace H := H.calls hE; clear hE)
          | (go_at_call 15; refine (hfew H.ext).mono ?_; rintro e1 w2 ⟨⟨u2, rfl, hru⟩, rfl⟩)
          | (go_at_call 10; refine (hck2 (H.get 0 rfl) hru).mono ?_; rintro e1 w2 ⟨rfl, hE, hsay⟩; replace H := H.jd 0 rfl hE hsay; simp only [List.set_cons_zero, List.set_cons_succ] at H; clear hE hsay hru)
          | (go_at_call 11; refine (hroom (H.get 0 rfl).2.1).mono ?_; rintro e1 w2 ⟨rfl, hE⟩; replace H := H.calls hE; clear hE)
          | (go_at_call 12; refine (hseq' (H.get 0 rfl).2.1).mono ?_; rintro e1 w2 ⟨rfl, hE⟩; replace H := H.calls hE; clear hE))
        go_ret
        exact ⟨rfl, H.ext⟩
end Go.Proofs.YtgmeahogdjhejaaDoor
