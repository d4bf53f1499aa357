/- Tables in memory; table.Encode walked. -/
import Derived.Test.YtoaieodcdbbndaaTabB
import Derived.Deep.CutRange
import Derived.Deep.CutBlock
namespace Go.Proofs.Ytoaieodcdbbndaa
set_option linter.unusedVariables false
set_option linter.unusedSimpArgs false
open Go.RowKit

/-- A block, and where its wrapped keys lie. -/
abbrev BV := (Option Addr × Nat) × Blk
def BV.wv (p : BV) : Value := .slice p.1.1 p.2.wrap.length p.1.2
def bvCells (p : BV) : List Value := [.int .i64 p.2.id, .int .i64 p.2.gen, .int .i64 p.2.at_, .int .i64 p.2.size, .int .i64 p.2.epoch, p.wv]
theorem bvLen (p : BV) : (bvCells p).length = 6 := rfl
theorem bvOne (p : BV) : ∀ u ∈ bvCells p, u.oneCell' = true := by
  intro u hu
  simp only [bvCells, BV.wv, List.mem_cons, List.not_mem_nil, or_false] at hu
  rcases hu with rfl | rfl | rfl | rfl | rfl | rfl <;> rfl
/-- The slice bv holds these blocks. -/
structure BsR (w : World) (bv : Value) (ps : List BV) : Prop where
  row : RdS bvCells 6 w bv ps
  wrap : ∀ p ∈ ps, RdS (encInt .u8) 1 w p.wv p.2.wrap
theorem BsR.keep {w w' : World} {bv : Value} {ps : List BV} (h : BsR w bv ps) (e : Ext0 w w') : BsR w' bv ps := ⟨h.row.keep e, fun p hp => (h.wrap p hp).keep e⟩
def tabV (t : Tab) (bv : Value) : Value := .agg #[.int .i64 t.epoch, .int .i64 t.old, .int .i64 t.phase, .int .i64 t.mode, .int .i64 t.next, .int .i64 t.gen, bv]
def blkV (p : BV) : Value := .agg #[.int .i64 p.2.id, .int .i64 p.2.gen, .int .i64 p.2.at_, .int .i64 p.2.size, .int .i64 p.2.epoch, p.wv]
/-- Wrapped keys that are not too long. -/
def Blk.Fit (b : Blk) : Prop := b.wrap.length ≤ 1000 ∧ ∀ x ∈ b.wrap, 0 ≤ x ∧ x ≤ 255
def icells (hs : List Int) : Array Value := (hs.map (Value.int .i64)).toArray
theorem icells_at (hs : List Int) (k : Nat) (h : k < hs.length) : (icells hs)[k]? = some (.int .i64 hs[k]) := by simp [icells, h]
theorem info45 : (Try.prog.info? 45).map (·.size) = some 6 := by kernel_rfl
theorem info24 : (Try.prog.info? 24).map (·.size) = some 7 := by kernel_rfl
/-- A load of a whole block of a slice of blocks. -/
theorem L_loadBV {P : Program} {ops : Array Oper} {Q : Exit → Act → World → Prop} {a : Act} {w : World} {rest : List Oper} {o : Oper} (hgd : o.guard = none) {ty : TypeId} {x : Operand} (ho : o.op = .load ty x) {b off n cap : Nat} {xs : List BV} (hr : RdS bvCells 6 w (.slice (some ⟨b, off, none⟩) n cap) xs) {j : Nat} (hj : j < xs.length)
    (hx : a.eval x = .pointer (some ⟨b, off + j * 6, none⟩)) {s : BV} (hs : xs[j] = s) {d : TypeDesc} (hu : P.underlying ty = some d) (hd : d.isRow = true) (hi : (P.info? ty).map (·.size) = some 6)
    (k : wpList P ops Q rest (a.put o.dst (.agg #[.int .i64 s.2.id, .int .i64 s.2.gen, .int .i64 s.2.at_, .int .i64 s.2.size, .int .i64 s.2.epoch, s.wv])) w) : wpList P ops Q (o :: rest) a w := by
  obtain ⟨b', off', cs, T, fr, he, hb, hcs⟩ := hr.cell hj
  cases he
  rw [hs] at hcs
  refine wpList_plain hgd fun K hK => ?_
  have hrun := R_loadmid (P := P) (a := a) ho hx hb hu hd hi (bvCells s) rfl hcs
  unfold Oper.wp
  rw [hrun]
  exact hK _ _ k
theorem L_litE {P : Program} {ops : Array Oper} {Q : Exit → Act → World → Prop} {a : Act} {w w0 : World} {M : Nat → Prop} {L : List Asr} {rest : List Oper} {o : Oper} (hgd : o.guard = none) {t e : TypeId} {n : Nat} {parts : Array (Nat × Operand)} (ho : o.op = .buildSlice t n parts) (H : SH M w0 w L) {cs : Array Value}
    (hr : ∀ w, (Instr.buildSlice t n (parts.map fun (i, x) => (i, a.eval x))).run P w = .ok (.slice (some ⟨w.heap.size, 0, none⟩) n n) (w.alloc (.cells cs e)))
    (k : ∀ b w', SH M w0 w' (pt b (.cells cs e) :: L) → Ext0 w w' → wpList P ops Q rest (a.put o.dst (.slice (some ⟨b, 0, none⟩) n n)) w') : wpList P ops Q (o :: rest) a w := by
  refine wpList_plain hgd fun K hK => ?_
  unfold Oper.wp execOp
  simp only [ho, Sem.run_bind, Sem.run_pure, Result.andThen_ok, hr]
  exact hK _ _ (k _ _ (H.alloc _) (Ext.alloc _ _ _))
theorem flat8_len (l : List Int) : (l.flatMap be8).length = l.length * 8 := by
  induction l with
  | nil => rfl
  | cons x l ih => rw [List.flatMap_cons, List.length_append, ih, be8_len, List.length_cons]; omega
theorem flat8_snoc (hs : List Int) (k : Nat) (h : k < hs.length) : (hs.take (k + 1)).flatMap be8 = (hs.take k).flatMap be8 ++ be8 hs[k] := by
  rw [List.take_add_one, List.getElem?_eq_getElem h, Option.toList_some, List.flatMap_append, List.flatMap_cons, List.flatMap_nil, List.append_nil]
theorem encHead_flat (t : Tab) : encHead t = [t.epoch, t.old, t.phase, t.mode, t.next, t.gen, (t.bs.length : Int)].flatMap be8 := by
  simp [encHead, List.flatMap_cons]
theorem encBlk_flat (b : Blk) : encBlk b = [b.id, b.gen, b.at_, b.size, b.epoch].flatMap be8 ++ (be2 b.wrap.length ++ b.wrap) := by
  simp [encBlk, List.flatMap_cons, List.append_assoc]
theorem encBlk_len (b : Blk) : (encBlk b).length = 42 + b.wrap.length := by
  simp [encBlk, be8_len, be2]; omega
theorem encTo_len (bs : List Blk) (h : ∀ b ∈ bs, b.Fit) : ((bs.map encBlk).flatten).length ≤ bs.length * 1042 := by
  induction bs with
  | nil => simp
  | cons b bs ih =>
    have h1 := (h b (by simp)).1
    have h2 := ih (fun c hc => h c (by simp [hc]))
    rw [List.map_cons, List.flatten_cons, List.length_append, encBlk_len, List.length_cons]
    omega
theorem encTo_snoc (bs : List Blk) (k : Nat) (h : k < bs.length) : ((bs.take (k + 1)).map encBlk).flatten = ((bs.take k).map encBlk).flatten ++ encBlk bs[k] := by
  rw [List.take_add_one, List.getElem?_eq_getElem h, Option.toList_some, List.map_append, List.flatten_append, List.map_cons, List.map_nil, List.flatten_cons, List.flatten_nil, List.append_nil]

theorem octInt_b (v : Value) (xs : List Int) (n : Int) (w0 : World) (hr : RdS (encInt .u8) 1 w0 v xs) (hl : xs.length ≤ 1000000000) : Calls Try.prog 34 #[v, .int .i64 n] w0 (GivesB w0 (xs ++ be8 n)) :=
  (octInt_any v xs n w0 hr hl).mono fun e w ⟨g, he, h⟩ => ⟨_, he, bytesRd (h.at_ 0 rfl), h.ext⟩
theorem clipB_any (v : Value) (xs : List Int) (w : World) (hr : RdS (encInt .u8) 1 w v xs) : Calls Try.prog 36 #[v] w (GivesB w xs) := by
  obtain ⟨A, cap, rfl, hcap, h⟩ := hr
  have hci : (xs.length : Int) ≤ (cap : Int) := by omega
  obtain ⟨n, hn⟩ : ∃ n, xs.length = n := ⟨_, rfl⟩
  rw [hn] at hci ⊢
  have HH := Lib.hid (And.intro h hn)
  clear h hn hcap
  go_enter Try.func36, Try.ntmps36
  go_wp2
  go_ret
  exact ⟨_, rfl, ⟨_, _, by rw [HH.out.2]; rfl, by rw [HH.out.2]; exact Nat.le_refl _, HH.out.1⟩, Ext.refl _ _⟩
/-- A loop that puts numbers down. -/
def PutRel (hs pre : List Int) (L : List Asr) (w0 : World) (v3 vi : Value) (wr : World) : Prop :=
  ∃ k : Nat, vi = .int .i64 (k : Int) ∧ k ≤ hs.length ∧ RdS (encInt .u8) 1 wr v3 (pre ++ (hs.take k).flatMap be8) ∧ SH (fun _ => False) w0 wr L
def EncRel (bs : List Blk) (pre : List Int) (L : List Asr) (w0 : World) (v3 vi : Value) (wr : World) : Prop :=
  ∃ k : Nat, vi = .int .i64 (k : Int) ∧ k ≤ bs.length ∧ RdS (encInt .u8) 1 wr v3 (pre ++ ((bs.take k).map encBlk).flatten) ∧ SH (fun _ => False) w0 wr L
set_option maxRecDepth 100000 in
set_option maxHeartbeats 1000000 in
theorem encode_any (t : Tab) (bv : Value) (ps : List BV) (w0 : World) (hps : ps.map (·.2) = t.bs) (hb : BsR w0 bv ps) (hn : ps.length ≤ 1000) (hf : ∀ b ∈ t.bs, b.Fit) :
    Calls Try.prog 17 #[tabV t bv] w0 (GivesB w0 (encTab t)) := by
  have H : SH (fun _ => False) w0 w0 [] := SH.nil _ _
  obtain ⟨A, cap, rfl, hcap⟩ := hb.row.len
  have hpl : ps.length = t.bs.length := by rw [← hps, List.length_map]
  have hlen : (encHead t).length = 56 := by rw [encHead_flat, flat8_len]; rfl
  have hhd := encHead_flat t
  obtain ⟨epoch, old, phase, mode, next, gen, bs⟩ := t
  simp only [tabV] at hps hf hpl hlen hhd ⊢
  rw [← hpl] at hhd
  unfold encTab
  dsimp only
  generalize encHead ⟨epoch, old, phase, mode, next, gen, bs⟩ = hd at *
  obtain ⟨hs, hhs⟩ : ∃ hs, [epoch, old, phase, mode, next, gen, (ps.length : Int)] = hs := ⟨_, rfl⟩
  rw [hhs] at hhd
  have hsl : hs.length = 7 := by rw [← hhs]; rfl
  have HB := Lib.hid hb
  have HP := Lib.hid (And.intro hps (And.intro hf (And.intro hlen (And.intro hhd hpl))))
  have HHS := Lib.hid hhs
  clear hps hf hlen hhd hb hhs hpl
  go_enter Try.func17, Try.ntmps17
  go_wp2_with (first
    | (refine L_load1 rfl rfl H 0 rfl rfl rfl Try.isAgg3 ?_; (try simp only [Act.put, List.setIfInBounds_toArray, List.set_cons_succ, List.set_cons_zero, List.getElem_toArray, List.getElem_cons_succ, List.getElem_cons_zero])) | (refine L_load1 rfl rfl H 0 rfl rfl rfl Try.isAgg22 ?_; (try simp only [Act.put, List.setIfInBounds_toArray, List.set_cons_succ, List.set_cons_zero, List.getElem_toArray, List.getElem_cons_succ, List.getElem_cons_zero])) | (refine L_box rfl rfl H rfl rfl ?_; clear H; intro g w H; (try simp only [Act.eval, Array.getD_eq_getD_getElem?, List.getElem?_toArray, List.getElem?_cons_succ, List.getElem?_cons_zero, Option.getD_some, Value.cells] at H); (try simp only [Act.put, List.setIfInBounds_toArray, List.set_cons_succ, List.set_cons_zero, List.getElem_toArray, List.getElem_cons_succ, List.getElem_cons_zero]))
    | (refine L_lit (e := 3) (cs := ?_) rfl rfl H ?_ ?_; rotate_left; (focus (intro _; first | (go_simp; done) | (go_simp; rfl))); all_goals skip; clear H; intro g2 w H))
  have h0 : SH (fun _ => False) w0 w [pt g2 (.cells (icells hs) 3 (0, 0)), pt g (.cells #[.int .i64 epoch, .int .i64 old, .int .i64 phase, .int .i64 mode, .int .i64 next, .int .i64 gen, .slice A ps.length cap] 24 (0, 0))] := by
    rw [← HHS.out]; exact H
  clear H
  go_loopw [3, 27] (fun v3 vi wr => PutRel hs [] _ w0 v3 vi wr) (fun _ vi _ => 7 - (intOf vi).toNat)
  case atStart => exact ⟨0, rfl, Nat.zero_le _, RdS.nil _ _ _, h0⟩
  case round =>
    clear h0
    obtain ⟨k, rfl, hk, hrd, H⟩ := hrel
    rw [hsl] at hk
    by_cases hkn : k < 7
    · have hki : (k : Int) < 7 := by omega
      have hks : k < hs.length := by omega
      have hat := icells_at hs k hks
      have hnext := flat8_snoc hs k hks
      have hpre : ([] ++ (hs.take k).flatMap be8).length ≤ 1000000000 := by
        rw [List.nil_append, flat8_len, List.length_take]; omega
      obtain ⟨x, hx⟩ : ∃ x, hs[k] = x := ⟨_, rfl⟩
      rw [hx] at hat hnext
      have HN := Lib.hid hnext
      have hcall := fun {W : World} {u : Value} (h : RdS (encInt .u8) 1 W u ([] ++ (hs.take k).flatMap be8)) => octInt_b u _ x W h hpre
      clear hnext hx hks hpre
      obtain ⟨pre, hpr⟩ : ∃ pre, ([] : List Int) ++ (hs.take k).flatMap be8 = pre := ⟨_, rfl⟩
      rw [hpr] at hcall hrd
      have HPR := Lib.hid hpr
      clear hpr
      go_wp2_with (first
        | (refine L_load1 (off := k) rfl rfl H 0 rfl rfl hat Try.isAgg3 ?_)
        | (go_at_call 34; refine (hcall hrd).mono ?_; clear hrd; rintro e w ⟨v4, rfl, hrd, hE⟩; replace H := H.calls hE; clear hE))
      go_roundw
      case rel => exact ⟨k + 1, by go_num, by omega, by rw [HN.out, ← List.append_assoc, HPR.out]; exact hrd, H⟩
      case measure => simp [intOf]; omega
    · obtain rfl : k = 7 := by omega
      have h7 : ¬ ((7 : Nat) : Int) < 7 := by omega
      have hhd : RdS (encInt .u8) 1 wr u3 hd := by
        rw [HP.out.2.2.2.1, ← List.take_of_length_le (Nat.le_of_eq hsl)]; exact hrd
      clear hrd
      replace H := H.drop (L' := [_]) (List.sublist_cons_self _ _)
      go_wp2_with (first
        | (refine L_load1 rfl rfl H 0 rfl rfl rfl Try.isAgg22 ?_; (try simp only [Act.put, List.setIfInBounds_toArray, List.set_cons_succ, List.set_cons_zero, List.getElem_toArray, List.getElem_cons_succ, List.getElem_cons_zero])))
      go_loopw [3, 38] (fun v3 vi wr => EncRel bs hd _ w0 v3 vi wr) (fun _ vi _ => ps.length - (intOf vi).toNat)
      case atStart => exact ⟨0, rfl, Nat.zero_le _, by simpa using hhd, H⟩
      case round =>
        clear H hhd
        obtain ⟨j, rfl, hj, hrd, H⟩ := hrel
        by_cases hjn : j < ps.length
        · have hji : (j : Int) < (ps.length : Int) := by omega
          have hjb : j < bs.length := by rw [← HP.out.2.2.2.2]; exact hjn
          obtain ⟨p, hp⟩ : ∃ p, ps[j] = p := ⟨_, rfl⟩
          have hpm : p ∈ ps := by rw [← hp]; exact List.getElem_mem _
          have hbj : bs[j] = p.2 := by
            have := HP.out.1
            simp only [← this, List.getElem_map, hp]
          have hfit : p.2.Fit := HP.out.2.1 _ (by rw [← hbj]; exact List.getElem_mem _)
          have hsn := encTo_snoc bs j hjb
          rw [hbj, encBlk_flat] at hsn
          have hlenj : (hd ++ ((bs.take j).map encBlk).flatten).length ≤ 10000000 := by
            have h1 := encTo_len (bs.take j) (fun b hb => HP.out.2.1 b (List.mem_of_mem_take hb))
            rw [List.length_append, HP.out.2.2.1]
            rw [List.length_take] at h1
            have := HP.out.2.2.2.2
            omega
          obtain ⟨bb, off, cs, T, fr, rfl, hbb, hcs⟩ := HB.out.row.cell hjn
          have hwr := HB.out.wrap p hpm
          rw [hp] at hcs
          have HSN := Lib.hid hsn
          clear hsn hbj hpm hp
          obtain ⟨⟨WA, wc⟩, id, bgen, at_, size, ep, wrap⟩ := p
          simp only [BV.wv] at hwr hfit HSN
          have hcs6 : ∀ i, i < 6 → cs[off + j * 6 + i]? = [Value.int .i64 id, .int .i64 bgen, .int .i64 at_, .int .i64 size, .int .i64 ep, .slice WA wrap.length wc][i]? := fun i hi => hcs i hi
          clear hcs
          have hwl : wrap.length ≤ 1000 := hfit.1
          have hwc : wrap.length ≤ wc := by obtain ⟨_, c, he, hc⟩ := hwr.len; cases he; exact hc
          go_upto_region 10 with (first
            | (refine L_loadmidr rfl rfl H rfl hbb (fun e => e) Try.underlying45 rfl info45 [Value.int .i64 id, .int .i64 bgen, .int .i64 at_, .int .i64 size, .int .i64 ep, .slice WA wrap.length wc] rfl hcs6 ?_; (try simp only [Act.put, List.setIfInBounds_toArray, List.set_cons_succ, List.set_cons_zero, List.getElem_toArray, List.getElem_cons_succ, List.getElem_cons_zero]))
            | fail)
          clear hcs6 hbb
          replace H := H.alloc (.cells #[.int .i64 id, .int .i64 bgen, .int .i64 at_, .int .i64 size, .int .i64 ep, .slice WA wrap.length wc] 45)
          replace hrd := hrd.keep (Ext.alloc (fun _ => False) wr (.cells #[.int .i64 id, .int .i64 bgen, .int .i64 at_, .int .i64 size, .int .i64 ep, .slice WA wrap.length wc] 45))
          generalize wr.heap.size = g5 at *
          generalize wr.alloc (.cells #[.int .i64 id, .int .i64 bgen, .int .i64 at_, .int .i64 size, .int .i64 ep, .slice WA wrap.length wc] 45) = wA at *
          obtain ⟨bl, hbl⟩ : ∃ bl, [id, bgen, at_, size, ep] = bl := ⟨_, rfl⟩
          have hbl5 : bl.length = 5 := by rw [← hbl]; rfl
          rw [hbl] at HSN
          obtain ⟨pre, hpr⟩ : ∃ pre, hd ++ ((bs.take j).map encBlk).flatten = pre := ⟨_, rfl⟩
          rw [hpr] at hrd hlenj
          have HBL := Lib.hid hbl
          have HPRE := Lib.hid hpr
          clear hbl hpr
          go_wp2_with (first
            | (refine L_load1 rfl rfl H 0 rfl rfl rfl Try.isAgg3 ?_; (try simp only [Act.put, List.setIfInBounds_toArray, List.set_cons_succ, List.set_cons_zero, List.getElem_toArray, List.getElem_cons_succ, List.getElem_cons_zero]))
            | (refine L_litE (e := 3) (cs := ?_) rfl rfl H ?_ ?_; rotate_left; (focus (intro _; first | (go_simp; done) | (go_simp; rfl))); all_goals skip; clear H; intro g6 w H hE; replace hrd := hrd.keep hE; clear hE))
          have H6 : SH (fun _ => False) w0 w [pt g6 (.cells (icells bl) 3 (0, 0)), pt g5 (.cells #[.int .i64 id, .int .i64 bgen, .int .i64 at_, .int .i64 size, .int .i64 ep, .slice WA wrap.length wc] 45 (0, 0)), pt g (.cells #[.int .i64 epoch, .int .i64 old, .int .i64 phase, .int .i64 mode, .int .i64 next, .int .i64 gen, .slice (some ⟨bb, off, none⟩) ps.length cap] 24 (0, 0))] := by
            rw [← HBL.out]; exact H
          clear H
          go_loopw [3, 54] (fun v3 vi wr => PutRel bl pre _ w0 v3 vi wr) (fun _ vi _ => 5 - (intOf vi).toNat)
          case atStart => exact ⟨0, rfl, Nat.zero_le _, by simpa using hrd, H6⟩
          case round =>
            clear H6 hrd
            obtain ⟨i, rfl, hi, hrd, H⟩ := hrel
            rw [hbl5] at hi
            by_cases hin : i < 5
            · have hii : (i : Int) < 5 := by omega
              have his : i < bl.length := by omega
              have hat := icells_at bl i his
              have hnext := flat8_snoc bl i his
              have hpre : (pre ++ (bl.take i).flatMap be8).length ≤ 1000000000 := by
                rw [List.length_append, flat8_len, List.length_take]; omega
              obtain ⟨x, hx⟩ : ∃ x, bl[i] = x := ⟨_, rfl⟩
              rw [hx] at hat hnext
              have HN := Lib.hid hnext
              have hcall := fun {W : World} {u : Value} (h : RdS (encInt .u8) 1 W u (pre ++ (bl.take i).flatMap be8)) => octInt_b u _ x W h hpre
              clear hnext hx his hpre
              obtain ⟨pr2, hpr⟩ : ∃ pr2, pre ++ (bl.take i).flatMap be8 = pr2 := ⟨_, rfl⟩
              rw [hpr] at hcall hrd
              have HPR := Lib.hid hpr
              clear hpr
              go_wp2_with (first
                | (refine L_load1 (off := i) rfl rfl H 0 rfl rfl hat Try.isAgg3 ?_)
                | (go_at_call 34; refine (hcall hrd).mono ?_; clear hrd; rintro e w ⟨v4, rfl, hrd, hE⟩; replace H := H.calls hE; clear hE))
              go_roundw
              case rel => exact ⟨i + 1, by go_num, by omega, by rw [HN.out, ← List.append_assoc, HPR.out]; exact hrd, H⟩
              case measure => simp [intOf]; omega
            · obtain rfl : i = 5 := by omega
              have h5 : ¬ ((5 : Nat) : Int) < 5 := by omega
              rw [List.take_of_length_le (Nat.le_of_eq hbl5)] at hrd
              have hlen6 : (pre ++ bl.flatMap be8).length ≤ 1000000000 := by
                rw [List.length_append, flat8_len]; omega
              obtain ⟨pr2, hpr⟩ : ∃ pr2, pre ++ bl.flatMap be8 = pr2 := ⟨_, rfl⟩
              rw [hpr] at hrd hlen6
              have HPR := Lib.hid hpr
              clear hpr
              have hcall := fun {W : World} {u : Value} (h : RdS (encInt .u8) 1 W u pr2) => octText_any u pr2 wrap W h hlen6 (by omega) hfit.2
              have hcv := run_string (src := 34) (dst := 9) (hwr.keep H.ext) Try.underlying34 Try.underlying5 Try.underlying9
              generalize strOfNums wrap = st at hcall hcv
              have hmin : min (wrap.length : Int) 65535 = (wrap.length : Int) := by omega
              clear hlen6
              go_wp2_with (first
                | (refine L_load1 rfl rfl H 0 rfl rfl rfl Try.isAgg34 ?_; (try simp only [Act.put, List.setIfInBounds_toArray, List.set_cons_succ, List.set_cons_zero, List.getElem_toArray, List.getElem_cons_succ, List.getElem_cons_zero])) | (refine L_load1 rfl rfl H 1 rfl rfl rfl Try.isAgg34 ?_; (try simp only [Act.put, List.setIfInBounds_toArray, List.set_cons_succ, List.set_cons_zero, List.getElem_toArray, List.getElem_cons_succ, List.getElem_cons_zero]))
                | (go_at_call 35; refine (hcall hrd).mono ?_; clear hrd; rintro e w ⟨⟨v5, rfl, hrd⟩, hE⟩; replace H := H.calls hE; clear hE))
              go_roundw
              case rel => exact ⟨j + 1, by go_num, by omega, by rw [HSN.out, ← List.append_assoc, HPRE.out, ← List.append_assoc, HPR.out]; exact hrd, H.drop (List.Sublist.cons _ (List.Sublist.cons _ (List.Sublist.refl _)))⟩
              case measure => simp [intOf]; omega
        · have hje : j = bs.length := by have := HP.out.2.2.2.2; omega
          have hjp : ¬ ((j : Int) < (ps.length : Int)) := by omega
          rw [List.take_of_length_le (Nat.le_of_eq hje.symm)] at hrd
          clear hje hj
          generalize hd ++ (bs.map encBlk).flatten = out at *
          have hcl := clipB_any u3 out wr hrd
          go_wp2_with (go_at_call 36; refine hcl.mono ?_; rintro e w ⟨v6, rfl, hrd6, hE⟩)
          go_ret
          exact ⟨_, rfl, hrd6, H.ext.trans0 hE⟩
end Go.Proofs.Ytoaieodcdbbndaa
