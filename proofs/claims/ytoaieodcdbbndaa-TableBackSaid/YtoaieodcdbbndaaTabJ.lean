/- Tables: IndexFunc, Find. -/
import Derived.Test.YtoaieodcdbbndaaTabI
import Derived.Shelf.Abstract
namespace Go.Proofs.Ytoaieodcdbbndaa
set_option linter.unusedVariables false
set_option linter.unusedSimpArgs false
open Go.RowKit

def idxF (pr : Blk → Bool) (bs : List Blk) : Int := match bs.findIdx? pr with | some i => (i : Int) | none => -1
theorem idxF_hit {pr : Blk → Bool} {bs : List Blk} {k : Nat} (hk : k < bs.length) (h : pr bs[k] = true) (hb : ∀ j (hj : j < k), pr (bs[j]'(by omega)) = false) : idxF pr bs = (k : Int) := by
  have : bs.findIdx? pr = some k := by
    rw [List.findIdx?_eq_some_iff_getElem]
    exact ⟨hk, h, fun j hj => by simp [hb j hj]⟩
  unfold idxF
  rw [this]
theorem idxF_none {pr : Blk → Bool} {bs : List Blk} (hb : ∀ j (hj : j < bs.length), pr bs[j] = false) : idxF pr bs = -1 := by
  have : bs.findIdx? pr = none := by
    rw [List.findIdx?_eq_none_iff]
    intro x hx
    obtain ⟨j, hj, rfl⟩ := List.mem_iff_getElem.1 hx
    exact hb j hj
  unfold idxF
  rw [this]
def FnGives' (g : Nat) (lb : Array Value) (pr : Blk → Bool) (w : World) : Prop :=
  ∀ (W : World) (p : BV), Ext0 w W → Calls Try.prog g (#[blkV p] ++ lb) W fun e w' => e = .returned (.bool (pr p.2)) ∧ Ext0 W w'
def IxRel (pr : Blk → Bool) (bs : List Blk) (w : World) (vi : Value) (wr : World) : Prop :=
  ∃ k : Nat, vi = .int .i64 (k : Int) ∧ k ≤ bs.length ∧ Ext0 w wr ∧ Hid (∀ j (hj : j < k) (hj2 : j < bs.length), pr bs[j] = false)
set_option maxRecDepth 100000 in
set_option maxHeartbeats 1000000 in
theorem indexFunc_any (g : Nat) (lb : Array Value) (pr : Blk → Bool) (eg : ∀ args w, (callFunc g args).run Try.prog w = .ok (.enter g args) w) (bv : Value) (ps : List BV) (w : World) (hr : RdS bvCells 6 w bv ps) (hn : ps.length ≤ 1000000) (hcl : FnGives' g lb pr w) :
    Calls Try.prog 47 #[bv, .func (.func g) #[] lb] w fun e w' => e = .returned (.int .i64 (idxF pr (ps.map (·.2)))) ∧ Ext0 w w' := by
  obtain ⟨A, cap, rfl, hcap⟩ := hr.len
  obtain ⟨bs, hbs⟩ : ∃ bs, ps.map (·.2) = bs := ⟨_, rfl⟩
  have hlen : ps.length = bs.length := by rw [← hbs, List.length_map]
  rw [hbs]
  have HB := Lib.hid (And.intro hbs hlen)
  have HC := Lib.hid hcl
  have HR := Lib.hid hr
  clear hbs hlen hcl hr
  go_enter Try.func47, Try.ntmps47
  go_wp2
  go_loopw [8] (fun vi wr => IxRel pr bs w vi wr) (fun vi _ => bs.length - (intOf vi).toNat)
  case atStart => exact ⟨0, rfl, Nat.zero_le _, Ext.refl _ _, Lib.hid (fun j hj => absurd hj (Nat.not_lt_zero _))⟩
  case round =>
    obtain ⟨k, rfl, hk, hE, HA⟩ := hrel
    by_cases hkn : k < ps.length
    · have hki : (k : Int) < (ps.length : Int) := by omega
      obtain ⟨p, hp⟩ : ∃ p, ps[k] = p := ⟨_, rfl⟩
      have hpb : bs[k]'(by have := HB.out.2; omega) = p.2 := by simp only [← HB.out.1, List.getElem_map, hp]
      obtain ⟨bb, off, cs, T, fr, rfl, hbb, hcs⟩ := HR.out.cell hkn
      have hcall := HC.out wr p hE
      have HP := Lib.hid (And.intro hp hpb)
      clear hp hpb hcs hbb
      obtain ⟨⟨WA, wc⟩, b1, b2, b3, b4, b5, f⟩ := p
      simp only [blkV, BV.wv] at hcall
      cases hq : pr ⟨b1, b2, b3, b4, b5, f⟩
      · rw [hq] at hcall
        have HQ := Lib.hid hq
        clear hq
        go_wp2_with (first
          | (refine L_loadBV rfl rfl (HR.out.keep hE) hkn rfl HP.out.1 Try.underlying45 rfl info45 ?_; (try simp only [Act.put, List.setIfInBounds_toArray, List.set_cons_succ, List.set_cons_zero, List.getElem_toArray, List.getElem_cons_succ, List.getElem_cons_zero]))
          | (go_at_fn g; refine hcall.mono ?_; rintro e w' ⟨rfl, hE2⟩))
        go_roundw
        case rel => exact ⟨k + 1, by go_num, by have := HB.out.2; omega, hE.trans0 hE2, Lib.hid (fun j hj hj2 => by
          by_cases hjk : j < k
          · exact HA.out j hjk hj2
          · obtain rfl : j = k := by omega
            rw [HP.out.2]
            exact HQ.out)⟩
        case measure => have := HB.out.2; simp [intOf]; omega
      · rw [hq] at hcall
        have HQ := Lib.hid hq
        clear hq
        go_wp2_with (first
          | (refine L_loadBV rfl rfl (HR.out.keep hE) hkn rfl HP.out.1 Try.underlying45 rfl info45 ?_; (try simp only [Act.put, List.setIfInBounds_toArray, List.set_cons_succ, List.set_cons_zero, List.getElem_toArray, List.getElem_cons_succ, List.getElem_cons_zero]))
          | (go_at_fn g; refine hcall.mono ?_; rintro e w' ⟨rfl, hE2⟩))
        go_ret
        have hkb : k < bs.length := by have := HB.out.2; omega
        exact ⟨by rw [idxF_hit hkb (by rw [HP.out.2]; exact HQ.out) (fun j hj => HA.out j hj (by omega))]; rfl, hE.trans0 hE2⟩
    · obtain rfl : k = ps.length := by have := HB.out.2; omega
      have hjn2 : ¬ ((ps.length : Int) < (ps.length : Int)) := by omega
      go_wp2
      go_ret
      exact ⟨by rw [idxF_none (fun j hj => HA.out j (by have := HB.out.2; omega) hj)]; rfl, hE⟩

theorem L_loadC {P : Program} {ops : Array Oper} {Q : Exit → Act → World → Prop} {a : Act} {w : World} {rest : List Oper} {o : Oper} (hgd : o.guard = none) {ty : TypeId} {x : Operand} (ho : o.op = .load ty x) {q : Addr} {v : Value} (hx : a.eval x = .pointer (some q)) (hc : w.cell? q = some v) (hag : ∀ w, (isAgg ty).run P w = .ok false w)
    (k : wpList P ops Q rest (a.put o.dst v) w) : wpList P ops Q (o :: rest) a w := by
  refine wpList_plain hgd fun K hK => ?_
  have hr : (execOp a.eval o).run P w = .ok (.value v) w := by
    unfold execOp
    simp only [ho, hx, Instr.loadAt, Instr.sureAddr, loadVar, Sem.run_bind, Sem.run_pure, Result.andThen_ok, hag]
    simp [hc]
  unfold Oper.wp
  rw [hr]
  exact hK _ _ k
theorem find_closure (id : Int) (B : Nat) (w : World) (hB : w.cell? ⟨B, 0, none⟩ = some (.int .i64 id)) : FnGives' 48 #[.pointer (some ⟨B, 0, none⟩)] (fun b => b.id == id) w := fun W p hE => by
  have hc := hE.cell hB (fun e => e)
  obtain ⟨⟨WA, wc⟩, b1, b2, b3, b4, b5, f⟩ := p
  simp only [blkV, BV.wv]
  have H : SH (fun _ => False) W W [] := SH.nil _ _
  show Calls Try.prog 48 #[.agg #[.int .i64 b1, .int .i64 b2, .int .i64 b3, .int .i64 b4, .int .i64 b5, .slice WA f.length wc], .pointer (some ⟨B, 0, none⟩)] W _
  go_enter Try.func48, Try.ntmps48
  go_wp2_with (first
    | (refine L_load1 rfl rfl H 0 rfl rfl rfl Try.isAgg3 ?_; (try simp only [Act.put, List.setIfInBounds_toArray, List.set_cons_succ, List.set_cons_zero, List.getElem_toArray, List.getElem_cons_succ, List.getElem_cons_zero])) | (refine L_box rfl rfl H rfl rfl ?_; clear H; intro g w H; (try simp only [Act.eval, Array.getD_eq_getD_getElem?, List.getElem?_toArray, List.getElem?_cons_succ, List.getElem?_cons_zero, Option.getD_some, Value.cells] at H); (try simp only [Act.put, List.setIfInBounds_toArray, List.set_cons_succ, List.set_cons_zero, List.getElem_toArray, List.getElem_cons_succ, List.getElem_cons_zero]))
    | (refine L_loadC rfl rfl rfl (H.ext.cell hc (fun e => e)) Try.isAgg3 ?_; (try simp only [Act.put, List.setIfInBounds_toArray, List.set_cons_succ, List.set_cons_zero, List.getElem_toArray, List.getElem_cons_succ, List.getElem_cons_zero])))
  go_ret
  exact ⟨rfl, H.ext⟩
def findP (id : Int) (bs : List Blk) : Int := idxF (fun b => b.id == id) bs
set_option maxRecDepth 100000 in
set_option maxHeartbeats 1000000 in
theorem find_any (t : Tab) (bv : Value) (ps : List BV) (id : Int) (w : World) (hps : ps.map (·.2) = t.bs) (hr : RdS bvCells 6 w bv ps) (hn : ps.length ≤ 1000000) :
    Calls Try.prog 22 #[tabV t bv, .int .i64 id] w fun e w' => e = .returned (.int .i64 (findP id t.bs)) ∧ Ext0 w w' := by
  have eg : ∀ args w, (callFunc 48 args).run Try.prog w = .ok (.enter 48 args) w := enters_of Try.func48 (by kernel_rfl) rfl
  have hcon := fun {W : World} {B : Nat} (hE : Ext0 w W) (hB : W.cell? ⟨B, 0, none⟩ = some (.int .i64 id)) => indexFunc_any 48 #[.pointer (some ⟨B, 0, none⟩)] (fun b => b.id == id) eg bv ps W (hr.keep hE) hn (find_closure id B W hB)
  rw [hps] at hcon
  unfold findP
  have H : SH (fun _ => False) w w [] := SH.nil _ _
  obtain ⟨epoch, old, phase, mode, next, gen, bs⟩ := t
  simp only [tabV] at hcon ⊢
  generalize idxF (fun b => b.id == id) bs = q at *
  clear hps hr
  go_enter Try.func22, Try.ntmps22
  go_upto_region 1 with (first
    | (refine L_box rfl rfl H rfl rfl ?_; clear H; intro g w H; (try simp only [Act.eval, Array.getD_eq_getD_getElem?, List.getElem?_toArray, List.getElem?_cons_succ, List.getElem?_cons_zero, Option.getD_some, Value.cells] at H); (try simp only [Act.put, List.setIfInBounds_toArray, List.set_cons_succ, List.set_cons_zero, List.getElem_toArray, List.getElem_cons_succ, List.getElem_cons_zero])))
  have hcB := cell_of_row _ g 0 _ _ _ (H.at_ 0 rfl)
  replace hcon := hcon (B := g) H.ext hcB
  clear hcB

  go_wp2_with (first
    | (refine L_load1 rfl rfl H 0 rfl rfl rfl Try.isAgg22 ?_; (try simp only [Act.put, List.setIfInBounds_toArray, List.set_cons_succ, List.set_cons_zero, List.getElem_toArray, List.getElem_cons_succ, List.getElem_cons_zero])) | (refine L_load1 rfl rfl H 1 rfl rfl rfl Try.isAgg22 ?_; (try simp only [Act.put, List.setIfInBounds_toArray, List.set_cons_succ, List.set_cons_zero, List.getElem_toArray, List.getElem_cons_succ, List.getElem_cons_zero]))
    | (go_at_call 47; refine hcon.mono ?_; rintro e w' ⟨rfl, hE⟩))
  go_ret
  exact ⟨rfl, H.ext.trans0 hE⟩
end Go.Proofs.Ytoaieodcdbbndaa
