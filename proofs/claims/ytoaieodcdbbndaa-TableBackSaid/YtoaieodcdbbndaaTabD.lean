/- The document's Encode. (Printed by gentabd.py.) -/
import Derived.Test.YtoaieodcdbbndaaTabC
namespace Go.Proofs.Ytoaieodcdbbndaa
set_option linter.unusedVariables false
set_option linter.unusedSimpArgs false
open Go.RowKit

theorem W_litE {P : Program} {Q : Exit → Act → World → Prop} {K : Act → World → Prop} {a : Act} {w w0 : World} {M : Nat → Prop} {L : List Asr} {o : Oper} {t e : TypeId} {n : Nat} {parts : Array (Nat × Operand)} (ho : o.op = .buildSlice t n parts) (H : SH M w0 w L) {cs : Array Value}
    (hr : ∀ w, (Instr.buildSlice t n (parts.map fun (i, x) => (i, a.eval x))).run P w = .ok (.slice (some ⟨w.heap.size, 0, none⟩) n n) (w.alloc (.cells cs e)))
    (k : ∀ b w', SH M w0 w' (pt b (.cells cs e) :: L) → Ext0 w w' → K (a.put o.dst (.slice (some ⟨b, 0, none⟩) n n)) w') : o.wp P a w K Q := by
  unfold Oper.wp execOp
  simp only [ho, Sem.run_bind, Sem.run_pure, Result.andThen_ok, hr]
  exact k _ _ (H.alloc _) (Ext.alloc _ _ _)
theorem R_call {P : Program} {a : Act} {w : World} {o : Oper} {f : FuncId} {args : Array Value} {K : Act → World → Prop} {Q : Exit → Act → World → Prop} {R : Ending → World → Prop} (hr : (execOp a.eval o).run P w = .ok (.enter f args) w) (hc : Calls P f args w R)
    (hk : ∀ e w', R e w' → ∃ v, e = .returned v ∧ K (a.put o.dst v) w') : o.wp P a w K Q := by
  unfold Oper.wp
  rw [hr, Oper.upon_enter]
  refine hc.mono fun e w' h => ?_
  obtain ⟨v, rfl, hK⟩ := hk e w' h
  exact hK
theorem RdS.nil' {α : Type} (enc : α → List Value) (k : Nat) (w : World) (A : Option Addr) : RdS enc k w (.slice A 0 0) ([] : List α) := ⟨A, 0, rfl, Nat.le_refl _, .inl rfl⟩
theorem R_loadBV {P : Program} {a : Act} {w : World} {o : Oper} {ty : TypeId} {x : Operand} (ho : o.op = .load ty x) {b off n cap : Nat} {xs : List BV} (hr : RdS bvCells 6 w (.slice (some ⟨b, off, none⟩) n cap) xs) {j : Nat} (hj : j < xs.length)
    (hx : a.eval x = .pointer (some ⟨b, off + j * 6, none⟩)) {s : BV} (hs : xs[j] = s) {d : TypeDesc} (hu : P.underlying ty = some d) (hd : d.isRow = true) (hi : (P.info? ty).map (·.size) = some 6) : (execOp a.eval o).run P w = .ok (.value (.agg #[.int .i64 s.2.id, .int .i64 s.2.gen, .int .i64 s.2.at_, .int .i64 s.2.size, .int .i64 s.2.epoch, s.wv])) w := by
  obtain ⟨b', off', cs, T, fr, he, hb, hcs⟩ := hr.cell hj
  cases he
  rw [hs] at hcs
  exact R_loadmid ho hx hb hu hd hi (bvCells s) rfl hcs

set_option maxRecDepth 100000 in
set_option maxHeartbeats 1000000 in
theorem refEncode_any (t : Tab) (bv : Value) (ps : List BV) (w0 : World) (hps : ps.map (·.2) = t.bs) (hb : BsR w0 bv ps) (hn : ps.length ≤ 1000) (hf : ∀ b ∈ t.bs, b.Fit) :
    Calls Try.prog 18 #[tabV t bv] w0 (GivesB w0 (encTab t)) := by
  have H : SH (fun _ => False) w0 w0 [] := SH.nil _ _
  obtain ⟨A, cap, rfl, hcap⟩ := hb.row.len
  have hpl : ps.length = t.bs.length := by rw [← hps, List.length_map]
  have hlen : (encHead t).length = 56 := by rw [encHead_flat, flat8_len]; rfl
  obtain ⟨epoch, old, phase, mode, next, gen, bs⟩ := t
  simp only [tabV] at hps hf hpl hlen ⊢
  have hhd : encHead ⟨epoch, old, phase, mode, next, gen, bs⟩ = (((((([] ++ be8 epoch) ++ be8 old) ++ be8 phase) ++ be8 mode) ++ be8 next) ++ be8 gen) ++ be8 (ps.length : Int) := by
    rw [hpl]; simp [encHead]
  unfold encTab
  dsimp only
  generalize encHead ⟨epoch, old, phase, mode, next, gen, bs⟩ = hd at *
  have HB := Lib.hid hb
  have HP := Lib.hid (And.intro hps (And.intro hf (And.intro hlen (And.intro hhd hpl))))
  clear hps hf hlen hhd hb hpl
  go_enter Try.func18, Try.ntmps18
  go_wp2_with (first | (refine L_box rfl rfl H rfl rfl ?_; clear H; intro g w H; (try simp only [Act.eval, Array.getD_eq_getD_getElem?, List.getElem?_toArray, List.getElem?_cons_succ, List.getElem?_cons_zero, Option.getD_some, Value.cells] at H); (try simp only [Act.put, List.setIfInBounds_toArray, List.set_cons_succ, List.set_cons_zero, List.getElem_toArray, List.getElem_cons_succ, List.getElem_cons_zero])))
  refine D_start H (by kernel_rfl) (fun hS => ?_)
  try simp only [Act.put, List.setIfInBounds_toArray, List.set_cons_succ, List.set_cons_zero]
  refine D_take 1 (v := ?_) rfl (by kernel_rfl) (by kernel_rfl) (by kernel_rfl) (fun _ _ _ h => h) rfl (by rfl) (fun W hS => ?_) hS ?_
  rotate_left; (focus (first | (go_simp; done) | (go_simp; with_reducible rfl) | (go_simp; rfl))); all_goals skip; (try simp only [List.set_cons_succ, List.set_cons_zero])
  refine D_take 2 (v := ?_) rfl (by kernel_rfl) (by kernel_rfl) (by kernel_rfl) (fun _ _ _ h => h) rfl (by rfl) (fun W hS => ?_) hS ?_
  rotate_left; (focus (first | (refine R_load1 (ty := 3) (x := Operand.tmp 8) rfl hS 0 rfl rfl ?_ Try.isAgg3; rfl))); all_goals skip; (try simp only [List.set_cons_succ, List.set_cons_zero, List.getElem_toArray, List.getElem_cons_succ, List.getElem_cons_zero])
  refine D_take 4 (v := ?_) rfl (by kernel_rfl) (by kernel_rfl) (by kernel_rfl) (fun _ _ _ h => h) rfl (by rfl) (fun W hS => ?_) hS ?_
  rotate_left; (focus (first | (go_simp; done) | (go_simp; with_reducible rfl) | (go_simp; rfl))); all_goals skip; (try simp only [List.set_cons_succ, List.set_cons_zero])
  refine D_take 5 (v := ?_) rfl (by kernel_rfl) (by kernel_rfl) (by kernel_rfl) (fun _ _ _ h => h) rfl (by rfl) (fun W hS => ?_) hS ?_
  rotate_left; (focus (first | (refine R_load1 (ty := 3) (x := Operand.tmp 11) rfl hS 0 rfl rfl ?_ Try.isAgg3; rfl))); all_goals skip; (try simp only [List.set_cons_succ, List.set_cons_zero, List.getElem_toArray, List.getElem_cons_succ, List.getElem_cons_zero])
  refine D_take 7 (v := ?_) rfl (by kernel_rfl) (by kernel_rfl) (by kernel_rfl) (fun _ _ _ h => h) rfl (by rfl) (fun W hS => ?_) hS ?_
  rotate_left; (focus (first | (go_simp; done) | (go_simp; with_reducible rfl) | (go_simp; rfl))); all_goals skip; (try simp only [List.set_cons_succ, List.set_cons_zero])
  refine D_take 8 (v := ?_) rfl (by kernel_rfl) (by kernel_rfl) (by kernel_rfl) (fun _ _ _ h => h) rfl (by rfl) (fun W hS => ?_) hS ?_
  rotate_left; (focus (first | (refine R_load1 (ty := 3) (x := Operand.tmp 14) rfl hS 0 rfl rfl ?_ Try.isAgg3; rfl))); all_goals skip; (try simp only [List.set_cons_succ, List.set_cons_zero, List.getElem_toArray, List.getElem_cons_succ, List.getElem_cons_zero])
  refine D_one 0 rfl (by kernel_rfl) (by rfl) ?_
  refine W_litE (e := 5) (cs := #[]) rfl hS (by intro _; first | (go_simp; done) | (go_simp; rfl)) ?_
  intro g2 w2 H2 hE
  clear hS
  have hS := H2.drop (List.sublist_cons_self _ _)
  clear H2 hE
  refine ⟨hS, ?_⟩
  try simp only [Act.put, List.getElem_toArray, List.getElem_cons_succ, List.getElem_cons_zero, List.setIfInBounds_toArray, List.set_cons_succ, List.set_cons_zero]
  refine D_one 3 rfl (by kernel_rfl) (by rfl) ?_
  refine R_call (f := 37) (args := #[(.slice (some ⟨g2, 0, none⟩) 0 0), .int .i64 epoch]) (by first | (go_simp; done) | (go_simp; rfl)) (r01Int_any (.slice (some ⟨g2, 0, none⟩) 0 0) _ epoch _ (RdS.nil' _ _ _ _) (by simp only [List.length_append, be8_len, List.length_nil] ; omega)) ?_
  rintro e w ⟨v1, rfl, hv1, hE⟩
  have hS2 := hS.calls hE
  clear hS
  have hS := hS2
  clear hS2 hE
  refine ⟨_, rfl, hS, ?_⟩
  try simp only [Act.put, List.getElem_toArray, List.getElem_cons_succ, List.getElem_cons_zero, List.setIfInBounds_toArray, List.set_cons_succ, List.set_cons_zero]
  refine D_one 6 rfl (by kernel_rfl) (by rfl) ?_
  refine R_call (f := 37) (args := #[v1, .int .i64 old]) (by first | (go_simp; done) | (go_simp; rfl)) (r01Int_any v1 _ old _ hv1 (by simp only [List.length_append, be8_len, List.length_nil] ; omega)) ?_
  rintro e w ⟨v2, rfl, hv2, hE⟩
  have hS2 := hS.calls hE
  clear hS
  have hS := hS2
  clear hS2 hE
  refine ⟨_, rfl, hS, ?_⟩
  try simp only [Act.put, List.getElem_toArray, List.getElem_cons_succ, List.getElem_cons_zero, List.setIfInBounds_toArray, List.set_cons_succ, List.set_cons_zero]
  refine D_one 9 rfl (by kernel_rfl) (by rfl) ?_
  refine R_call (f := 37) (args := #[v2, .int .i64 phase]) (by first | (go_simp; done) | (go_simp; rfl)) (r01Int_any v2 _ phase _ hv2 (by simp only [List.length_append, be8_len, List.length_nil] ; omega)) ?_
  rintro e w ⟨v3, rfl, hv3, hE⟩
  have hS2 := hS.calls hE
  clear hS
  have hS := hS2
  clear hS2 hE
  refine ⟨_, rfl, hS, ?_⟩
  try simp only [Act.put, List.getElem_toArray, List.getElem_cons_succ, List.getElem_cons_zero, List.setIfInBounds_toArray, List.set_cons_succ, List.set_cons_zero]
  refine D_take 10 (v := ?_) rfl (by kernel_rfl) (by kernel_rfl) (by kernel_rfl) (fun _ _ _ h => h) rfl (by rfl) (fun W hS => ?_) hS ?_
  rotate_left; (focus (first | (go_simp; done) | (go_simp; with_reducible rfl) | (go_simp; rfl))); all_goals skip; (try simp only [List.set_cons_succ, List.set_cons_zero])
  refine wpAnyH_done (by kernel_rfl) ?_ _
  clear H hv1 hv2
  have H := hS
  clear hS
  go_wp2_with fail
  refine D_start H (by kernel_rfl) (fun hS => ?_)
  try simp only [Act.put, List.setIfInBounds_toArray, List.set_cons_succ, List.set_cons_zero]
  refine D_take 0 (v := ?_) rfl (by kernel_rfl) (by kernel_rfl) (by kernel_rfl) (fun _ _ _ h => h) rfl (by rfl) (fun W hS => ?_) hS ?_
  rotate_left; (focus (first | (go_simp; done) | (go_simp; with_reducible rfl) | (go_simp; rfl))); all_goals skip; (try simp only [List.set_cons_succ, List.set_cons_zero])
  refine D_take 1 (v := ?_) rfl (by kernel_rfl) (by kernel_rfl) (by kernel_rfl) (fun _ _ _ h => h) rfl (by rfl) (fun W hS => ?_) hS ?_
  rotate_left; (focus (first | (go_simp; done) | (go_simp; with_reducible rfl) | (go_simp; rfl))); all_goals skip; (try simp only [List.set_cons_succ, List.set_cons_zero])
  refine D_take 2 (v := ?_) rfl (by kernel_rfl) (by kernel_rfl) (by kernel_rfl) (fun _ _ _ h => h) rfl (by rfl) (fun W hS => ?_) hS ?_
  rotate_left; (focus (first | (refine R_load1 (ty := 3) (x := Operand.tmp 18) rfl hS 0 rfl rfl ?_ Try.isAgg3; rfl))); all_goals skip; (try simp only [List.set_cons_succ, List.set_cons_zero, List.getElem_toArray, List.getElem_cons_succ, List.getElem_cons_zero])
  refine D_take 4 (v := ?_) rfl (by kernel_rfl) (by kernel_rfl) (by kernel_rfl) (fun _ _ _ h => h) rfl (by rfl) (fun W hS => ?_) hS ?_
  rotate_left; (focus (first | (go_simp; done) | (go_simp; with_reducible rfl) | (go_simp; rfl))); all_goals skip; (try simp only [List.set_cons_succ, List.set_cons_zero])
  refine D_take 5 (v := ?_) rfl (by kernel_rfl) (by kernel_rfl) (by kernel_rfl) (fun _ _ _ h => h) rfl (by rfl) (fun W hS => ?_) hS ?_
  rotate_left; (focus (first | (refine R_load1 (ty := 3) (x := Operand.tmp 21) rfl hS 0 rfl rfl ?_ Try.isAgg3; rfl))); all_goals skip; (try simp only [List.set_cons_succ, List.set_cons_zero, List.getElem_toArray, List.getElem_cons_succ, List.getElem_cons_zero])
  refine D_take 7 (v := ?_) rfl (by kernel_rfl) (by kernel_rfl) (by kernel_rfl) (fun _ _ _ h => h) rfl (by rfl) (fun W hS => ?_) hS ?_
  rotate_left; (focus (first | (go_simp; done) | (go_simp; with_reducible rfl) | (go_simp; rfl))); all_goals skip; (try simp only [List.set_cons_succ, List.set_cons_zero])
  refine D_take 8 (v := ?_) rfl (by kernel_rfl) (by kernel_rfl) (by kernel_rfl) (fun _ _ _ h => h) rfl (by rfl) (fun W hS => ?_) hS ?_
  rotate_left; (focus (first | (refine R_load1 (ty := 3) (x := Operand.tmp 24) rfl hS 0 rfl rfl ?_ Try.isAgg3; rfl))); all_goals skip; (try simp only [List.set_cons_succ, List.set_cons_zero, List.getElem_toArray, List.getElem_cons_succ, List.getElem_cons_zero])
  refine D_take 10 (v := ?_) rfl (by kernel_rfl) (by kernel_rfl) (by kernel_rfl) (fun _ _ _ h => h) rfl (by rfl) (fun W hS => ?_) hS ?_
  rotate_left; (focus (first | (go_simp; done) | (go_simp; with_reducible rfl) | (go_simp; rfl))); all_goals skip; (try simp only [List.set_cons_succ, List.set_cons_zero])
  refine D_take 11 (v := ?_) rfl (by kernel_rfl) (by kernel_rfl) (by kernel_rfl) (fun _ _ _ h => h) rfl (by rfl) (fun W hS => ?_) hS ?_
  rotate_left; (focus (first | (refine R_load1 (ty := 22) (x := Operand.tmp 27) rfl hS 0 rfl rfl ?_ Try.isAgg22; rfl))); all_goals skip; (try simp only [List.set_cons_succ, List.set_cons_zero, List.getElem_toArray, List.getElem_cons_succ, List.getElem_cons_zero])
  refine D_take 12 (v := ?_) rfl (by kernel_rfl) (by kernel_rfl) (by kernel_rfl) (fun _ _ _ h => h) rfl (by rfl) (fun W hS => ?_) hS ?_
  rotate_left; (focus (first | (go_simp; done) | (go_simp; with_reducible rfl) | (go_simp; rfl))); all_goals skip; (try simp only [List.set_cons_succ, List.set_cons_zero])
  refine D_one 3 rfl (by kernel_rfl) (by rfl) ?_
  refine R_call (f := 37) (args := #[v3, .int .i64 mode]) (by first | (go_simp; done) | (go_simp; rfl)) (r01Int_any v3 _ mode _ (hv3.keep (Ext.drew _ _)) (by simp only [List.length_append, be8_len, List.length_nil] ; omega)) ?_
  rintro e w ⟨v4, rfl, hv4, hE⟩
  have hS2 := hS.calls hE
  clear hS
  have hS := hS2
  clear hS2 hE
  refine ⟨_, rfl, hS, ?_⟩
  try simp only [Act.put, List.getElem_toArray, List.getElem_cons_succ, List.getElem_cons_zero, List.setIfInBounds_toArray, List.set_cons_succ, List.set_cons_zero]
  refine D_one 6 rfl (by kernel_rfl) (by rfl) ?_
  refine R_call (f := 37) (args := #[v4, .int .i64 next]) (by first | (go_simp; done) | (go_simp; rfl)) (r01Int_any v4 _ next _ hv4 (by simp only [List.length_append, be8_len, List.length_nil] ; omega)) ?_
  rintro e w ⟨v5, rfl, hv5, hE⟩
  have hS2 := hS.calls hE
  clear hS
  have hS := hS2
  clear hS2 hE
  refine ⟨_, rfl, hS, ?_⟩
  try simp only [Act.put, List.getElem_toArray, List.getElem_cons_succ, List.getElem_cons_zero, List.setIfInBounds_toArray, List.set_cons_succ, List.set_cons_zero]
  refine D_one 9 rfl (by kernel_rfl) (by rfl) ?_
  refine R_call (f := 37) (args := #[v5, .int .i64 gen]) (by first | (go_simp; done) | (go_simp; rfl)) (r01Int_any v5 _ gen _ hv5 (by simp only [List.length_append, be8_len, List.length_nil] ; omega)) ?_
  rintro e w ⟨v6, rfl, hv6, hE⟩
  have hS2 := hS.calls hE
  clear hS
  have hS := hS2
  clear hS2 hE
  refine ⟨_, rfl, hS, ?_⟩
  try simp only [Act.put, List.getElem_toArray, List.getElem_cons_succ, List.getElem_cons_zero, List.setIfInBounds_toArray, List.set_cons_succ, List.set_cons_zero]
  refine D_one 13 rfl (by kernel_rfl) (by rfl) ?_
  refine R_call (f := 37) (args := #[v6, .int .i64 (ps.length : Int)]) (by first | (go_simp; done) | (go_simp; rfl)) (r01Int_any v6 _ (ps.length : Int) _ hv6 (by simp only [List.length_append, be8_len, List.length_nil] ; omega)) ?_
  rintro e w ⟨v7, rfl, hv7, hE⟩
  have hS2 := hS.calls hE
  clear hS
  have hS := hS2
  clear hS2 hE
  refine ⟨_, rfl, hS, ?_⟩
  try simp only [Act.put, List.getElem_toArray, List.getElem_cons_succ, List.getElem_cons_zero, List.setIfInBounds_toArray, List.set_cons_succ, List.set_cons_zero]
  refine D_take 14 (v := ?_) rfl (by kernel_rfl) (by kernel_rfl) (by kernel_rfl) (fun _ _ _ h => h) rfl (by rfl) (fun W hS => ?_) hS ?_
  rotate_left; (focus (first | (go_simp; done) | (go_simp; with_reducible rfl) | (go_simp; rfl))); all_goals skip; (try simp only [List.set_cons_succ, List.set_cons_zero])
  refine wpAnyH_done (by kernel_rfl) ?_ _
  clear H hv3 hv4 hv5 hv6
  have H := hS
  clear hS
  have hhd : RdS (encInt .u8) 1 w v7 hd := by rw [HP.out.2.2.2.1]; exact hv7
  clear hv7
  go_wp2_with fail
  go_loopw [3, 4] (fun v3 vi wr => EncRel bs hd _ w0 v3 vi wr) (fun _ vi _ => ps.length - (intOf vi).toNat)
  case atStart => exact ⟨0, rfl, Nat.zero_le _, by simpa using hhd, H⟩
  case round =>
    clear H hhd
    obtain ⟨j, rfl, hj, hrd, H⟩ := hrel
    by_cases hjn : j < ps.length
    · have hji : (j : Int) < (ps.length : Int) := by omega
      have hjb : j < bs.length := by rw [← HP.out.2.2.2.2]; exact hjn
      obtain ⟨p, hp⟩ : ∃ p, ps[j] = p := ⟨_, rfl⟩
      have hpm : p ∈ ps := by rw [← hp]; exact List.getElem_mem _
      have hbj : bs[j] = p.2 := by
        have := HP.out.1
        simp only [← this, List.getElem_map, hp]
      have hfit : p.2.Fit := HP.out.2.1 _ (by rw [← hbj]; exact List.getElem_mem _)
      have hsn := encTo_snoc bs j hjb
      rw [hbj] at hsn
      have hlenj : (hd ++ ((bs.take j).map encBlk).flatten).length ≤ 10000000 := by
        have h1 := encTo_len (bs.take j) (fun b hb => HP.out.2.1 b (List.mem_of_mem_take hb))
        rw [List.length_append, HP.out.2.2.1]
        rw [List.length_take] at h1
        have := HP.out.2.2.2.2
        omega
      obtain ⟨bb, off, cs, T, fr, rfl, hbb, hcs⟩ := HB.out.row.cell hjn
      have hwr := HB.out.wrap p hpm
      rw [hp] at hcs
      have HSN := Lib.hid hsn
      clear hsn hbj hpm hp
      obtain ⟨⟨WA, wc⟩, id, bgen, at_, size, ep, wrap⟩ := p
      simp only [BV.wv] at hwr hfit HSN
      have hcs6 : ∀ i, i < 6 → cs[off + j * 6 + i]? = [Value.int .i64 id, .int .i64 bgen, .int .i64 at_, .int .i64 size, .int .i64 ep, .slice WA wrap.length wc][i]? := fun i hi => hcs i hi
      clear hcs
      have hwl : wrap.length ≤ 1000 := hfit.1
      go_upto_region 7 with (first
        | (refine L_loadmidr rfl rfl H rfl hbb (fun e => e) Try.underlying45 rfl info45 [Value.int .i64 id, .int .i64 bgen, .int .i64 at_, .int .i64 size, .int .i64 ep, .slice WA wrap.length wc] rfl hcs6 ?_; (try simp only [Act.put, List.setIfInBounds_toArray, List.set_cons_succ, List.set_cons_zero, List.getElem_toArray, List.getElem_cons_succ, List.getElem_cons_zero]))
        | (refine L_load1 rfl rfl H 0 rfl rfl rfl Try.isAgg22 ?_; (try simp only [Act.put, List.setIfInBounds_toArray, List.set_cons_succ, List.set_cons_zero, List.getElem_toArray, List.getElem_cons_succ, List.getElem_cons_zero])))
      clear hcs6 hbb
      replace H := H.alloc (.cells #[.int .i64 id, .int .i64 bgen, .int .i64 at_, .int .i64 size, .int .i64 ep, .slice WA wrap.length wc] 45)
      replace hrd := hrd.keep (Ext.alloc (fun _ => False) wr (.cells #[.int .i64 id, .int .i64 bgen, .int .i64 at_, .int .i64 size, .int .i64 ep, .slice WA wrap.length wc] 45))
      generalize wr.heap.size = g5 at *
      generalize wr.alloc (.cells #[.int .i64 id, .int .i64 bgen, .int .i64 at_, .int .i64 size, .int .i64 ep, .slice WA wrap.length wc] 45) = wA at *
      refine D_start H (by kernel_rfl) (fun hS => ?_)
      try simp only [Act.put, List.setIfInBounds_toArray, List.set_cons_succ, List.set_cons_zero]
      refine D_take 0 (v := ?_) rfl (by kernel_rfl) (by kernel_rfl) (by kernel_rfl) (fun _ _ _ h => h) rfl (by rfl) (fun W hS => ?_) hS ?_
      rotate_left; (focus (first | (go_simp; done) | (go_simp; with_reducible rfl) | (go_simp; rfl))); all_goals skip; (try simp only [List.set_cons_succ, List.set_cons_zero])
      refine D_take 1 (v := ?_) rfl (by kernel_rfl) (by kernel_rfl) (by kernel_rfl) (fun _ _ _ h => h) rfl (by rfl) (fun W hS => ?_) hS ?_
      rotate_left; (focus (first | (go_simp; done) | (go_simp; with_reducible rfl) | (go_simp; rfl))); all_goals skip; (try simp only [List.set_cons_succ, List.set_cons_zero])
      refine D_take 2 (v := ?_) rfl (by kernel_rfl) (by kernel_rfl) (by kernel_rfl) (fun _ _ _ h => h) rfl (by rfl) (fun W hS => ?_) hS ?_
      rotate_left; (focus (first | (refine R_load1 (ty := 3) (x := Operand.tmp 44) rfl hS 0 rfl rfl ?_ Try.isAgg3; rfl))); all_goals skip; (try simp only [List.set_cons_succ, List.set_cons_zero, List.getElem_toArray, List.getElem_cons_succ, List.getElem_cons_zero])
      refine D_take 4 (v := ?_) rfl (by kernel_rfl) (by kernel_rfl) (by kernel_rfl) (fun _ _ _ h => h) rfl (by rfl) (fun W hS => ?_) hS ?_
      rotate_left; (focus (first | (go_simp; done) | (go_simp; with_reducible rfl) | (go_simp; rfl))); all_goals skip; (try simp only [List.set_cons_succ, List.set_cons_zero])
      refine D_take 5 (v := ?_) rfl (by kernel_rfl) (by kernel_rfl) (by kernel_rfl) (fun _ _ _ h => h) rfl (by rfl) (fun W hS => ?_) hS ?_
      rotate_left; (focus (first | (refine R_load1 (ty := 3) (x := Operand.tmp 47) rfl hS 0 rfl rfl ?_ Try.isAgg3; rfl))); all_goals skip; (try simp only [List.set_cons_succ, List.set_cons_zero, List.getElem_toArray, List.getElem_cons_succ, List.getElem_cons_zero])
      refine D_take 7 (v := ?_) rfl (by kernel_rfl) (by kernel_rfl) (by kernel_rfl) (fun _ _ _ h => h) rfl (by rfl) (fun W hS => ?_) hS ?_
      rotate_left; (focus (first | (go_simp; done) | (go_simp; with_reducible rfl) | (go_simp; rfl))); all_goals skip; (try simp only [List.set_cons_succ, List.set_cons_zero])
      refine D_take 8 (v := ?_) rfl (by kernel_rfl) (by kernel_rfl) (by kernel_rfl) (fun _ _ _ h => h) rfl (by rfl) (fun W hS => ?_) hS ?_
      rotate_left; (focus (first | (refine R_load1 (ty := 3) (x := Operand.tmp 50) rfl hS 0 rfl rfl ?_ Try.isAgg3; rfl))); all_goals skip; (try simp only [List.set_cons_succ, List.set_cons_zero, List.getElem_toArray, List.getElem_cons_succ, List.getElem_cons_zero])
      refine D_take 10 (v := ?_) rfl (by kernel_rfl) (by kernel_rfl) (by kernel_rfl) (fun _ _ _ h => h) rfl (by rfl) (fun W hS => ?_) hS ?_
      rotate_left; (focus (first | (go_simp; done) | (go_simp; with_reducible rfl) | (go_simp; rfl))); all_goals skip; (try simp only [List.set_cons_succ, List.set_cons_zero])
      refine D_take 11 (v := ?_) rfl (by kernel_rfl) (by kernel_rfl) (by kernel_rfl) (fun _ _ _ h => h) rfl (by rfl) (fun W hS => ?_) hS ?_
      rotate_left; (focus (first | (refine R_load1 (ty := 3) (x := Operand.tmp 53) rfl hS 0 rfl rfl ?_ Try.isAgg3; rfl))); all_goals skip; (try simp only [List.set_cons_succ, List.set_cons_zero, List.getElem_toArray, List.getElem_cons_succ, List.getElem_cons_zero])
      refine D_take 13 (v := ?_) rfl (by kernel_rfl) (by kernel_rfl) (by kernel_rfl) (fun _ _ _ h => h) rfl (by rfl) (fun W hS => ?_) hS ?_
      rotate_left; (focus (first | (go_simp; done) | (go_simp; with_reducible rfl) | (go_simp; rfl))); all_goals skip; (try simp only [List.set_cons_succ, List.set_cons_zero])
      refine D_take 14 (v := ?_) rfl (by kernel_rfl) (by kernel_rfl) (by kernel_rfl) (fun _ _ _ h => h) rfl (by rfl) (fun W hS => ?_) hS ?_
      rotate_left; (focus (first | (refine R_load1 (ty := 3) (x := Operand.tmp 56) rfl hS 0 rfl rfl ?_ Try.isAgg3; rfl))); all_goals skip; (try simp only [List.set_cons_succ, List.set_cons_zero, List.getElem_toArray, List.getElem_cons_succ, List.getElem_cons_zero])
      refine D_one 3 rfl (by kernel_rfl) (by rfl) ?_
      refine R_call (f := 37) (args := #[u3, .int .i64 id]) (by first | (go_simp; done) | (go_simp; rfl)) (r01Int_any u3 _ id _ (hrd.keep (Ext.drew _ _)) (by simp only [List.length_append, be8_len, List.length_nil] at hlenj ⊢; omega)) ?_
      rintro e w ⟨y1, rfl, hy1, hE⟩
      have hS2 := hS.calls hE
      clear hS
      have hS := hS2
      clear hS2 hE
      refine ⟨_, rfl, hS, ?_⟩
      try simp only [Act.put, List.getElem_toArray, List.getElem_cons_succ, List.getElem_cons_zero, List.setIfInBounds_toArray, List.set_cons_succ, List.set_cons_zero]
      refine D_one 6 rfl (by kernel_rfl) (by rfl) ?_
      refine R_call (f := 37) (args := #[y1, .int .i64 bgen]) (by first | (go_simp; done) | (go_simp; rfl)) (r01Int_any y1 _ bgen _ hy1 (by simp only [List.length_append, be8_len, List.length_nil] at hlenj ⊢; omega)) ?_
      rintro e w ⟨y2, rfl, hy2, hE⟩
      have hS2 := hS.calls hE
      clear hS
      have hS := hS2
      clear hS2 hE
      refine ⟨_, rfl, hS, ?_⟩
      try simp only [Act.put, List.getElem_toArray, List.getElem_cons_succ, List.getElem_cons_zero, List.setIfInBounds_toArray, List.set_cons_succ, List.set_cons_zero]
      refine D_one 9 rfl (by kernel_rfl) (by rfl) ?_
      refine R_call (f := 37) (args := #[y2, .int .i64 at_]) (by first | (go_simp; done) | (go_simp; rfl)) (r01Int_any y2 _ at_ _ hy2 (by simp only [List.length_append, be8_len, List.length_nil] at hlenj ⊢; omega)) ?_
      rintro e w ⟨y3, rfl, hy3, hE⟩
      have hS2 := hS.calls hE
      clear hS
      have hS := hS2
      clear hS2 hE
      refine ⟨_, rfl, hS, ?_⟩
      try simp only [Act.put, List.getElem_toArray, List.getElem_cons_succ, List.getElem_cons_zero, List.setIfInBounds_toArray, List.set_cons_succ, List.set_cons_zero]
      refine D_one 12 rfl (by kernel_rfl) (by rfl) ?_
      refine R_call (f := 37) (args := #[y3, .int .i64 size]) (by first | (go_simp; done) | (go_simp; rfl)) (r01Int_any y3 _ size _ hy3 (by simp only [List.length_append, be8_len, List.length_nil] at hlenj ⊢; omega)) ?_
      rintro e w ⟨y4, rfl, hy4, hE⟩
      have hS2 := hS.calls hE
      clear hS
      have hS := hS2
      clear hS2 hE
      refine ⟨_, rfl, hS, ?_⟩
      try simp only [Act.put, List.getElem_toArray, List.getElem_cons_succ, List.getElem_cons_zero, List.setIfInBounds_toArray, List.set_cons_succ, List.set_cons_zero]
      refine D_one 15 rfl (by kernel_rfl) (by rfl) ?_
      refine R_call (f := 37) (args := #[y4, .int .i64 ep]) (by first | (go_simp; done) | (go_simp; rfl)) (r01Int_any y4 _ ep _ hy4 (by simp only [List.length_append, be8_len, List.length_nil] at hlenj ⊢; omega)) ?_
      rintro e w ⟨y5, rfl, hy5, hE⟩
      have hS2 := hS.calls hE
      clear hS
      have hS := hS2
      clear hS2 hE
      refine ⟨_, rfl, hS, ?_⟩
      try simp only [Act.put, List.getElem_toArray, List.getElem_cons_succ, List.getElem_cons_zero, List.setIfInBounds_toArray, List.set_cons_succ, List.set_cons_zero]
      refine D_take 16 (v := ?_) rfl (by kernel_rfl) (by kernel_rfl) (by kernel_rfl) (fun _ _ _ h => h) rfl (by rfl) (fun W hS => ?_) hS ?_
      rotate_left; (focus (first | (go_simp; done) | (go_simp; with_reducible rfl) | (go_simp; rfl))); all_goals skip; (try simp only [List.set_cons_succ, List.set_cons_zero])
      refine wpAnyH_done (by kernel_rfl) ?_ _
      clear H hy1 hy2 hy3 hy4 hrd
      have H := hS
      clear hS
      have hrd := hy5
      clear hy5
      have hlen6 : (((((hd ++ ((bs.take j).map encBlk).flatten ++ be8 id) ++ be8 bgen) ++ be8 at_) ++ be8 size) ++ be8 ep).length ≤ 1000000000 := by
        simp only [List.length_append, be8_len] at hlenj ⊢; omega
      have hall : (((((hd ++ ((bs.take j).map encBlk).flatten ++ be8 id) ++ be8 bgen) ++ be8 at_) ++ be8 size) ++ be8 ep) ++ (be2 wrap.length ++ wrap) = hd ++ ((bs.take (j + 1)).map encBlk).flatten := by
        rw [HSN.out]; simp [encBlk]
      generalize ((((hd ++ ((bs.take j).map encBlk).flatten ++ be8 id) ++ be8 bgen) ++ be8 at_) ++ be8 size) ++ be8 ep = pr2 at *
      have HALL := Lib.hid hall
      have hcall := fun {W : World} {u : Value} (h : RdS (encInt .u8) 1 W u pr2) => r01Text_any u pr2 wrap W h hlen6 (by omega) hfit.2
      have hcv := run_string (src := 34) (dst := 9) (hwr.keep H.ext) Try.underlying34 Try.underlying5 Try.underlying9
      generalize strOfNums wrap = st at hcall hcv
      have hnl : ¬ (65535 < (wrap.length : Int)) := by omega
      clear hlen6 hall hlenj
      go_wp2_with (first
        | (refine L_load1 rfl rfl H 0 rfl rfl rfl Try.isAgg34 ?_; (try simp only [Act.put, List.setIfInBounds_toArray, List.set_cons_succ, List.set_cons_zero, List.getElem_toArray, List.getElem_cons_succ, List.getElem_cons_zero]))
        | (go_at_call 38; refine (hcall hrd).mono ?_; clear hrd; rintro e w ⟨y6, rfl, hrd, hE⟩; replace H := H.calls hE; clear hE))
      go_roundw
      case rel => exact ⟨j + 1, by go_num, by omega, by rw [← HALL.out]; exact hrd, H.drop (List.sublist_cons_self _ _)⟩
      case measure => simp [intOf]; omega
    · have hje : j = bs.length := by have := HP.out.2.2.2.2; omega
      have hjp : ¬ ((j : Int) < (ps.length : Int)) := by omega
      rw [List.take_of_length_le (Nat.le_of_eq hje.symm)] at hrd
      clear hje hj
      go_wp2_with (first | (refine L_load1 rfl rfl H 0 rfl rfl rfl Try.isAgg22 ?_; (try simp only [Act.put, List.setIfInBounds_toArray, List.set_cons_succ, List.set_cons_zero, List.getElem_toArray, List.getElem_cons_succ, List.getElem_cons_zero])))
      go_ret
      exact ⟨_, rfl, hrd, H.ext⟩
end Go.Proofs.Ytoaieodcdbbndaa
