/- Good walked. (Printed by gentabo.py.) -/
import Derived.Test.YtoaieodcdbbndaaTabN
namespace Go.Proofs.Ytoaieodcdbbndaa
set_option linter.unusedVariables false
set_option linter.unusedSimpArgs false
open Go.RowKit

def blkP (t : Tab) (k : Nat) (b : Blk) : Prop := (∀ c, 0 < k → t.bs[k - 1]? = some c → c.id < b.id) ∧ b.id < t.next ∧ (1 ≤ b.gen ∧ b.gen ≤ t.gen) ∧ sizedP b.size ∧ b.wrap.length = 72 ∧ (b.epoch = t.epoch ∨ (t.phase = 1 ∧ b.epoch = t.old))
def headP (t : Tab) : Prop := epochsP t ∧ (1 ≤ t.epoch ∧ t.epoch ≤ 1048576) ∧ (1 ≤ t.next ∧ t.next ≤ 1099511627776) ∧ (1 ≤ t.gen ∧ t.gen ≤ 1099511627776) ∧ (1 ≤ t.bs.length ∧ t.bs.length ≤ 12) ∧ ∀ b, t.bs[0]? = some b → b.id = 0
def goodP (t : Tab) (n : Int) : Prop := headP t ∧ (∀ k b, t.bs[k]? = some b → blkP t k b) ∧ goodB (spansP t.bs) n = true
def HeadRel (g : Nat) (cells : Array Value) (w0 : World) (q : Bool) (v : Value) (wr : World) : Prop := v = .bool (!q) ∧ SH (fun _ => False) w0 wr [pt g (.cells cells 24 (0, 0))]
def GoodRel (g : Nat) (cells : Array Value) (t : Tab) (N : Nat) (w0 : World) (gk : Nat) (vi : Value) (wr : World) : Prop :=
  ∃ k : Nat, vi = .int .i64 (k : Int) ∧ k + gk = N ∧ SH (fun _ => False) w0 wr [pt g (.cells cells 24 (0, 0))] ∧ Hid (∀ j b, j < k → t.bs[j]? = some b → blkP t j b)
open Classical in
set_option maxRecDepth 100000 in
set_option maxHeartbeats 8000000 in
theorem good_table (t : Tab) (bv : Value) (ps : List BV) (n : Int) (w0 : World) (hps : ps.map (·.2) = t.bs) (hb : RdS bvCells 6 w0 bv ps) (hn : ps.length ≤ 1000) (hnum : ∀ b ∈ t.bs, b.Num) (hn0 : 0 ≤ n) (hn1 : n ≤ 4096) :
    Calls Try.prog 10 #[tabV t bv, .int .i64 n] w0 fun e w' => e = .returned (.bool (decide (goodP t n))) ∧ Ext0 w0 w' := by
  have H : SH (fun _ => False) w0 w0 [] := SH.nil _ _
  obtain ⟨A, cap, rfl, hcap⟩ := hb.len
  have hep := fun {W : World} => epochs_any t (.slice A ps.length cap) W
  have hw1 := fun {W : World} => within_any t.epoch 1 1048576 W
  have hw2 := fun {W : World} => within_any t.next 1 1099511627776 W
  have hw3 := fun {W : World} => within_any t.gen 1 1099511627776 W
  have hw4 := fun {W : World} => within_any (ps.length : Int) 1 12 W
  obtain ⟨res, hres⟩ : ∃ q, decide (goodP t n) = q := ⟨_, rfl⟩
  rw [hres]
  have HRES := Lib.hid hres
  obtain ⟨q1, hq1⟩ : ∃ q, decide (epochsP t) = q := ⟨_, rfl⟩
  obtain ⟨q2, hq2⟩ : ∃ q, decide (1 ≤ t.epoch ∧ t.epoch ≤ 1048576) = q := ⟨_, rfl⟩
  obtain ⟨q3, hq3⟩ : ∃ q, decide (1 ≤ t.next ∧ t.next ≤ 1099511627776) = q := ⟨_, rfl⟩
  obtain ⟨q4, hq4⟩ : ∃ q, decide (1 ≤ t.gen ∧ t.gen ≤ 1099511627776) = q := ⟨_, rfl⟩
  obtain ⟨q5, hq5⟩ : ∃ q, decide (1 ≤ (ps.length : Int) ∧ (ps.length : Int) ≤ 12) = q := ⟨_, rfl⟩
  obtain ⟨q6, hq6⟩ : ∃ q : Bool, ∀ h : 0 < ps.length, q = ((ps[0]'h).2.id == 0) := by
    by_cases h : 0 < ps.length
    · exact ⟨(ps[0]'h).2.id == 0, fun _ => rfl⟩
    · exact ⟨true, fun h2 => absurd h2 h⟩
  have hhead : headP t ↔ (q1 && q2 && q3 && q4 && q5 && q6) = true := by
    unfold headP
    have hpl : t.bs.length = ps.length := by rw [← hps, List.length_map]
    have h5 : (1 ≤ t.bs.length ∧ t.bs.length ≤ 12) ↔ q5 = true := by rw [← hq5, hpl]; simp only [decide_eq_true_eq]; omega
    have h6 : 0 < ps.length → ((∀ b, t.bs[0]? = some b → b.id = 0) ↔ q6 = true) := fun h => by
      rw [hq6 h, ← hps, List.getElem?_map, List.getElem?_eq_getElem h]
      simp
    rw [← hq1, ← hq2, ← hq3, ← hq4]
    simp only [Bool.and_eq_true, decide_eq_true_eq]
    constructor
    · rintro ⟨a, b, c, d, e, f⟩
      exact ⟨⟨⟨⟨⟨a, b⟩, c⟩, d⟩, h5.1 e⟩, (h6 (by omega)).1 f⟩
    · rintro ⟨⟨⟨⟨⟨a, b⟩, c⟩, d⟩, e⟩, f⟩
      have := h5.2 e
      exact ⟨a, b, c, d, this, (h6 (by omega)).2 f⟩
  have hP : goodP t n ↔ headP t ∧ (∀ k b, t.bs[k]? = some b → blkP t k b) ∧ goodB (spansP t.bs) n = true := Iff.rfl
  obtain ⟨q0, hq0⟩ : ∃ q0, (q1 && q2 && q3 && q4 && q5 && q6) = q0 := ⟨_, rfl⟩
  rw [hq0] at hhead
  rw [hq1] at hep
  rw [hq2] at hw1
  rw [hq3] at hw2
  rw [hq4] at hw3
  rw [hq5] at hw4
  have hsp := fun {W : World} (h : Ext0 w0 W) => spans_any t (.slice A ps.length cap) ps W hps (hb.keep h) hn hnum
  have HQ0 := Lib.hid hq0.symm
  have HQ5 := Lib.hid hq5
  have HQ6 := Lib.hid hq6
  have HHEAD := Lib.hid hhead
  have HB := Lib.hid hb
  have HP := Lib.hid (And.intro hps hnum)
  clear hres hq1 hq2 hq3 hq4 hq5 hq6 hhead hq0 hb hps hnum hP
  obtain ⟨epoch, old, phase, mode, next, gen, bs⟩ := t
  simp only [tabV] at hep hw1 hw2 hw3 hsp ⊢
  go_enter Try.func10, Try.ntmps10
  go_upto_region 1 with (first | (refine L_box rfl rfl H rfl rfl ?_; clear H; intro g w H; (try simp only [Act.eval, Array.getD_eq_getD_getElem?, List.getElem?_toArray, List.getElem?_cons_succ, List.getElem?_cons_zero, Option.getD_some, Value.cells] at H); (try simp only [Act.put, List.setIfInBounds_toArray, List.set_cons_succ, List.set_cons_zero, List.getElem_toArray, List.getElem_cons_succ, List.getElem_cons_zero])))
  go_cut [42] from 7 to 41 (fun s42 wc => HeadRel g #[.int .i64 epoch, .int .i64 old, .int .i64 phase, .int .i64 mode, .int .i64 next, .int .i64 gen, .slice A ps.length cap] w0 q0 s42 wc)
  case first =>
    clear hsp HRES HHEAD HP
    have hid0 : ∀ W : World, Ext0 w0 W → True := fun _ _ => trivial
    cases q1
    · go_wp2_with (first
      | (refine L_loadrow rfl rfl H 0 rfl rfl Try.underlying24 rfl info24 rfl ?_; (try simp only [Act.put, List.setIfInBounds_toArray, List.set_cons_succ, List.set_cons_zero, List.getElem_toArray, List.getElem_cons_succ, List.getElem_cons_zero]))
      | (go_at_call 28; refine hep.mono ?_; rintro e w2 ⟨rfl, hE⟩; replace H := H.calls hE; clear hE; have hbk := H.at_ 0 rfl; have hk0 : w2.cell? ⟨g, 0, none⟩ = some (.int .i64 epoch) := cell_of_row _ g 0 _ _ _ hbk; have hk1 : w2.cell? ⟨g, 1, none⟩ = some (.int .i64 old) := cell_of_row _ g 1 _ _ _ hbk; have hk2 : w2.cell? ⟨g, 2, none⟩ = some (.int .i64 phase) := cell_of_row _ g 2 _ _ _ hbk; have hk3 : w2.cell? ⟨g, 3, none⟩ = some (.int .i64 mode) := cell_of_row _ g 3 _ _ _ hbk; have hk4 : w2.cell? ⟨g, 4, none⟩ = some (.int .i64 next) := cell_of_row _ g 4 _ _ _ hbk; have hk5 : w2.cell? ⟨g, 5, none⟩ = some (.int .i64 gen) := cell_of_row _ g 5 _ _ _ hbk; have hk6 : w2.cell? ⟨g, 6, none⟩ = some (.slice A ps.length cap) := cell_of_row _ g 6 _ _ _ hbk; clear hbk; have hid := hid0 w2 H.ext)
      | (go_at_call_of 29 (Value.int IntKind.i64 epoch); refine hw1.mono ?_; rintro e w3 ⟨rfl, rfl⟩)
      | (go_at_call_of 29 (Value.int IntKind.i64 next); refine hw2.mono ?_; rintro e w3 ⟨rfl, rfl⟩)
      | (go_at_call_of 29 (Value.int IntKind.i64 gen); refine hw3.mono ?_; rintro e w3 ⟨rfl, rfl⟩)
      | (go_at_call_of 29 (Value.int IntKind.i64 (ps.length : Int)); refine hw4.mono ?_; rintro e w3 ⟨rfl, rfl⟩))
      go_meet
      case rel => exact ⟨by rw [HQ0.out]; rfl, H⟩
    · skip
      cases q2
      · go_wp2_with (first
      | (refine L_loadrow rfl rfl H 0 rfl rfl Try.underlying24 rfl info24 rfl ?_; (try simp only [Act.put, List.setIfInBounds_toArray, List.set_cons_succ, List.set_cons_zero, List.getElem_toArray, List.getElem_cons_succ, List.getElem_cons_zero]))
      | (go_at_call 28; refine hep.mono ?_; rintro e w2 ⟨rfl, hE⟩; replace H := H.calls hE; clear hE; have hbk := H.at_ 0 rfl; have hk0 : w2.cell? ⟨g, 0, none⟩ = some (.int .i64 epoch) := cell_of_row _ g 0 _ _ _ hbk; have hk1 : w2.cell? ⟨g, 1, none⟩ = some (.int .i64 old) := cell_of_row _ g 1 _ _ _ hbk; have hk2 : w2.cell? ⟨g, 2, none⟩ = some (.int .i64 phase) := cell_of_row _ g 2 _ _ _ hbk; have hk3 : w2.cell? ⟨g, 3, none⟩ = some (.int .i64 mode) := cell_of_row _ g 3 _ _ _ hbk; have hk4 : w2.cell? ⟨g, 4, none⟩ = some (.int .i64 next) := cell_of_row _ g 4 _ _ _ hbk; have hk5 : w2.cell? ⟨g, 5, none⟩ = some (.int .i64 gen) := cell_of_row _ g 5 _ _ _ hbk; have hk6 : w2.cell? ⟨g, 6, none⟩ = some (.slice A ps.length cap) := cell_of_row _ g 6 _ _ _ hbk; clear hbk; have hid := hid0 w2 H.ext)
      | (go_at_call_of 29 (Value.int IntKind.i64 epoch); refine hw1.mono ?_; rintro e w3 ⟨rfl, rfl⟩)
      | (go_at_call_of 29 (Value.int IntKind.i64 next); refine hw2.mono ?_; rintro e w3 ⟨rfl, rfl⟩)
      | (go_at_call_of 29 (Value.int IntKind.i64 gen); refine hw3.mono ?_; rintro e w3 ⟨rfl, rfl⟩)
      | (go_at_call_of 29 (Value.int IntKind.i64 (ps.length : Int)); refine hw4.mono ?_; rintro e w3 ⟨rfl, rfl⟩))
        go_meet
        case rel => exact ⟨by rw [HQ0.out]; rfl, H⟩
      · skip
        cases q3
        · go_wp2_with (first
      | (refine L_loadrow rfl rfl H 0 rfl rfl Try.underlying24 rfl info24 rfl ?_; (try simp only [Act.put, List.setIfInBounds_toArray, List.set_cons_succ, List.set_cons_zero, List.getElem_toArray, List.getElem_cons_succ, List.getElem_cons_zero]))
      | (go_at_call 28; refine hep.mono ?_; rintro e w2 ⟨rfl, hE⟩; replace H := H.calls hE; clear hE; have hbk := H.at_ 0 rfl; have hk0 : w2.cell? ⟨g, 0, none⟩ = some (.int .i64 epoch) := cell_of_row _ g 0 _ _ _ hbk; have hk1 : w2.cell? ⟨g, 1, none⟩ = some (.int .i64 old) := cell_of_row _ g 1 _ _ _ hbk; have hk2 : w2.cell? ⟨g, 2, none⟩ = some (.int .i64 phase) := cell_of_row _ g 2 _ _ _ hbk; have hk3 : w2.cell? ⟨g, 3, none⟩ = some (.int .i64 mode) := cell_of_row _ g 3 _ _ _ hbk; have hk4 : w2.cell? ⟨g, 4, none⟩ = some (.int .i64 next) := cell_of_row _ g 4 _ _ _ hbk; have hk5 : w2.cell? ⟨g, 5, none⟩ = some (.int .i64 gen) := cell_of_row _ g 5 _ _ _ hbk; have hk6 : w2.cell? ⟨g, 6, none⟩ = some (.slice A ps.length cap) := cell_of_row _ g 6 _ _ _ hbk; clear hbk; have hid := hid0 w2 H.ext)
      | (go_at_call_of 29 (Value.int IntKind.i64 epoch); refine hw1.mono ?_; rintro e w3 ⟨rfl, rfl⟩)
      | (go_at_call_of 29 (Value.int IntKind.i64 next); refine hw2.mono ?_; rintro e w3 ⟨rfl, rfl⟩)
      | (go_at_call_of 29 (Value.int IntKind.i64 gen); refine hw3.mono ?_; rintro e w3 ⟨rfl, rfl⟩)
      | (go_at_call_of 29 (Value.int IntKind.i64 (ps.length : Int)); refine hw4.mono ?_; rintro e w3 ⟨rfl, rfl⟩))
          go_meet
          case rel => exact ⟨by rw [HQ0.out]; rfl, H⟩
        · skip
          cases q4
          · go_wp2_with (first
      | (refine L_loadrow rfl rfl H 0 rfl rfl Try.underlying24 rfl info24 rfl ?_; (try simp only [Act.put, List.setIfInBounds_toArray, List.set_cons_succ, List.set_cons_zero, List.getElem_toArray, List.getElem_cons_succ, List.getElem_cons_zero]))
      | (go_at_call 28; refine hep.mono ?_; rintro e w2 ⟨rfl, hE⟩; replace H := H.calls hE; clear hE; have hbk := H.at_ 0 rfl; have hk0 : w2.cell? ⟨g, 0, none⟩ = some (.int .i64 epoch) := cell_of_row _ g 0 _ _ _ hbk; have hk1 : w2.cell? ⟨g, 1, none⟩ = some (.int .i64 old) := cell_of_row _ g 1 _ _ _ hbk; have hk2 : w2.cell? ⟨g, 2, none⟩ = some (.int .i64 phase) := cell_of_row _ g 2 _ _ _ hbk; have hk3 : w2.cell? ⟨g, 3, none⟩ = some (.int .i64 mode) := cell_of_row _ g 3 _ _ _ hbk; have hk4 : w2.cell? ⟨g, 4, none⟩ = some (.int .i64 next) := cell_of_row _ g 4 _ _ _ hbk; have hk5 : w2.cell? ⟨g, 5, none⟩ = some (.int .i64 gen) := cell_of_row _ g 5 _ _ _ hbk; have hk6 : w2.cell? ⟨g, 6, none⟩ = some (.slice A ps.length cap) := cell_of_row _ g 6 _ _ _ hbk; clear hbk; have hid := hid0 w2 H.ext)
      | (go_at_call_of 29 (Value.int IntKind.i64 epoch); refine hw1.mono ?_; rintro e w3 ⟨rfl, rfl⟩)
      | (go_at_call_of 29 (Value.int IntKind.i64 next); refine hw2.mono ?_; rintro e w3 ⟨rfl, rfl⟩)
      | (go_at_call_of 29 (Value.int IntKind.i64 gen); refine hw3.mono ?_; rintro e w3 ⟨rfl, rfl⟩)
      | (go_at_call_of 29 (Value.int IntKind.i64 (ps.length : Int)); refine hw4.mono ?_; rintro e w3 ⟨rfl, rfl⟩))
            go_meet
            case rel => exact ⟨by rw [HQ0.out]; rfl, H⟩
          · skip
            cases q5
            · go_wp2_with (first
      | (refine L_loadrow rfl rfl H 0 rfl rfl Try.underlying24 rfl info24 rfl ?_; (try simp only [Act.put, List.setIfInBounds_toArray, List.set_cons_succ, List.set_cons_zero, List.getElem_toArray, List.getElem_cons_succ, List.getElem_cons_zero]))
      | (go_at_call 28; refine hep.mono ?_; rintro e w2 ⟨rfl, hE⟩; replace H := H.calls hE; clear hE; have hbk := H.at_ 0 rfl; have hk0 : w2.cell? ⟨g, 0, none⟩ = some (.int .i64 epoch) := cell_of_row _ g 0 _ _ _ hbk; have hk1 : w2.cell? ⟨g, 1, none⟩ = some (.int .i64 old) := cell_of_row _ g 1 _ _ _ hbk; have hk2 : w2.cell? ⟨g, 2, none⟩ = some (.int .i64 phase) := cell_of_row _ g 2 _ _ _ hbk; have hk3 : w2.cell? ⟨g, 3, none⟩ = some (.int .i64 mode) := cell_of_row _ g 3 _ _ _ hbk; have hk4 : w2.cell? ⟨g, 4, none⟩ = some (.int .i64 next) := cell_of_row _ g 4 _ _ _ hbk; have hk5 : w2.cell? ⟨g, 5, none⟩ = some (.int .i64 gen) := cell_of_row _ g 5 _ _ _ hbk; have hk6 : w2.cell? ⟨g, 6, none⟩ = some (.slice A ps.length cap) := cell_of_row _ g 6 _ _ _ hbk; clear hbk; have hid := hid0 w2 H.ext)
      | (go_at_call_of 29 (Value.int IntKind.i64 epoch); refine hw1.mono ?_; rintro e w3 ⟨rfl, rfl⟩)
      | (go_at_call_of 29 (Value.int IntKind.i64 next); refine hw2.mono ?_; rintro e w3 ⟨rfl, rfl⟩)
      | (go_at_call_of 29 (Value.int IntKind.i64 gen); refine hw3.mono ?_; rintro e w3 ⟨rfl, rfl⟩)
      | (go_at_call_of 29 (Value.int IntKind.i64 (ps.length : Int)); refine hw4.mono ?_; rintro e w3 ⟨rfl, rfl⟩))
              go_meet
              case rel => exact ⟨by rw [HQ0.out]; rfl, H⟩
            · skip
              have hne : 0 < ps.length := by have := HQ5.out; simp only [decide_eq_true_eq] at this; omega
              obtain ⟨bb, off, cs, T, fr, hAA, hbb, hcs⟩ := HB.out.cell hne
              subst hAA
              have hni : (0 : Int) < (ps.length : Int) := by omega
              have hid0 : ∀ W, Ext0 w0 W → W.cell? ⟨bb, off, none⟩ = some (.int .i64 (ps[0]'hne).2.id) := fun W hE => by
                rw [cell_of_row W bb _ cs T fr (hE.keep hbb (fun e => e))]
                have := hcs 0 (by omega)
                simp only [Nat.zero_mul, Nat.add_zero] at this
                rw [this]; rfl
              have hq6 : q6 = ((ps[0]'hne).2.id == 0) := HQ6.out hne
              generalize (ps[0]'hne).2.id = i0 at *
              clear hbb hcs
              subst hq6
              by_cases hi0 : i0 = 0
              · have hib : (i0 == 0) = true := by simp [hi0]
                go_wp2_with (first
      | (refine L_loadrow rfl rfl H 0 rfl rfl Try.underlying24 rfl info24 rfl ?_; (try simp only [Act.put, List.setIfInBounds_toArray, List.set_cons_succ, List.set_cons_zero, List.getElem_toArray, List.getElem_cons_succ, List.getElem_cons_zero]))
      | (go_at_call 28; refine hep.mono ?_; rintro e w2 ⟨rfl, hE⟩; replace H := H.calls hE; clear hE; have hbk := H.at_ 0 rfl; have hk0 : w2.cell? ⟨g, 0, none⟩ = some (.int .i64 epoch) := cell_of_row _ g 0 _ _ _ hbk; have hk1 : w2.cell? ⟨g, 1, none⟩ = some (.int .i64 old) := cell_of_row _ g 1 _ _ _ hbk; have hk2 : w2.cell? ⟨g, 2, none⟩ = some (.int .i64 phase) := cell_of_row _ g 2 _ _ _ hbk; have hk3 : w2.cell? ⟨g, 3, none⟩ = some (.int .i64 mode) := cell_of_row _ g 3 _ _ _ hbk; have hk4 : w2.cell? ⟨g, 4, none⟩ = some (.int .i64 next) := cell_of_row _ g 4 _ _ _ hbk; have hk5 : w2.cell? ⟨g, 5, none⟩ = some (.int .i64 gen) := cell_of_row _ g 5 _ _ _ hbk; have hk6 : w2.cell? ⟨g, 6, none⟩ = some (.slice (some ⟨bb, off, none⟩) ps.length cap) := cell_of_row _ g 6 _ _ _ hbk; clear hbk; have hid := hid0 w2 H.ext)
      | (go_at_call_of 29 (Value.int IntKind.i64 epoch); refine hw1.mono ?_; rintro e w3 ⟨rfl, rfl⟩)
      | (go_at_call_of 29 (Value.int IntKind.i64 next); refine hw2.mono ?_; rintro e w3 ⟨rfl, rfl⟩)
      | (go_at_call_of 29 (Value.int IntKind.i64 gen); refine hw3.mono ?_; rintro e w3 ⟨rfl, rfl⟩)
      | (go_at_call_of 29 (Value.int IntKind.i64 (ps.length : Int)); refine hw4.mono ?_; rintro e w3 ⟨rfl, rfl⟩))
                go_meet
                case rel => exact ⟨by rw [HQ0.out, hib]; rfl, H⟩
              · have hib : (i0 == 0) = false := by simp [hi0]
                go_wp2_with (first
      | (refine L_loadrow rfl rfl H 0 rfl rfl Try.underlying24 rfl info24 rfl ?_; (try simp only [Act.put, List.setIfInBounds_toArray, List.set_cons_succ, List.set_cons_zero, List.getElem_toArray, List.getElem_cons_succ, List.getElem_cons_zero]))
      | (go_at_call 28; refine hep.mono ?_; rintro e w2 ⟨rfl, hE⟩; replace H := H.calls hE; clear hE; have hbk := H.at_ 0 rfl; have hk0 : w2.cell? ⟨g, 0, none⟩ = some (.int .i64 epoch) := cell_of_row _ g 0 _ _ _ hbk; have hk1 : w2.cell? ⟨g, 1, none⟩ = some (.int .i64 old) := cell_of_row _ g 1 _ _ _ hbk; have hk2 : w2.cell? ⟨g, 2, none⟩ = some (.int .i64 phase) := cell_of_row _ g 2 _ _ _ hbk; have hk3 : w2.cell? ⟨g, 3, none⟩ = some (.int .i64 mode) := cell_of_row _ g 3 _ _ _ hbk; have hk4 : w2.cell? ⟨g, 4, none⟩ = some (.int .i64 next) := cell_of_row _ g 4 _ _ _ hbk; have hk5 : w2.cell? ⟨g, 5, none⟩ = some (.int .i64 gen) := cell_of_row _ g 5 _ _ _ hbk; have hk6 : w2.cell? ⟨g, 6, none⟩ = some (.slice (some ⟨bb, off, none⟩) ps.length cap) := cell_of_row _ g 6 _ _ _ hbk; clear hbk; have hid := hid0 w2 H.ext)
      | (go_at_call_of 29 (Value.int IntKind.i64 epoch); refine hw1.mono ?_; rintro e w3 ⟨rfl, rfl⟩)
      | (go_at_call_of 29 (Value.int IntKind.i64 next); refine hw2.mono ?_; rintro e w3 ⟨rfl, rfl⟩)
      | (go_at_call_of 29 (Value.int IntKind.i64 gen); refine hw3.mono ?_; rintro e w3 ⟨rfl, rfl⟩)
      | (go_at_call_of 29 (Value.int IntKind.i64 (ps.length : Int)); refine hw4.mono ?_; rintro e w3 ⟨rfl, rfl⟩))
                go_meet
                case rel => exact ⟨by rw [HQ0.out, hib]; simp [hi0], H⟩
  case rest =>
  obtain ⟨rfl, H⟩ := hcut
  cases q0
  · have hr : res = false := by rw [← HRES.out, decide_eq_false_iff_not]; intro h; exact absurd (HHEAD.out.1 h.1) (by simp)
    subst hr
    go_wp2_with fail
    go_ret
    exact ⟨rfl, H.ext⟩
  · have hhd : headP ⟨epoch, old, phase, mode, next, gen, bs⟩ := HHEAD.out.2 rfl
    have HHD := Lib.hid hhd
    clear hhd HHEAD
    go_wp2_with (first
      | (refine L_load1 rfl rfl H 0 rfl rfl rfl Try.isAgg22 ?_; (try simp only [Act.put, List.setIfInBounds_toArray, List.set_cons_succ, List.set_cons_zero, List.getElem_toArray, List.getElem_cons_succ, List.getElem_cons_zero])))
    go_loopg [46] (ps.length) (fun gk vi wr => GoodRel g #[.int .i64 epoch, .int .i64 old, .int .i64 phase, .int .i64 mode, .int .i64 next, .int .i64 gen, .slice A ps.length cap] ⟨epoch, old, phase, mode, next, gen, bs⟩ ps.length w0 gk vi wr)
    case atStart => exact ⟨0, rfl, by omega, H, Lib.hid (fun j b hj => absurd hj (Nat.not_lt_zero _))⟩
    case round =>
      clear H
      obtain ⟨k, rfl, hk, H, HA⟩ := hrel
      by_cases hkn : k < ps.length
      · have hki : (k : Int) < (ps.length : Int) := by omega
        obtain ⟨p, hp⟩ : ∃ p, ps[k] = p := ⟨_, rfl⟩
        obtain ⟨bb, off, cs, T, fr, hAA, hbb, hcs⟩ := HB.out.cell hkn
        have hbs : bs[k]? = some p.2 := by rw [← HP.out.1, List.getElem?_map, List.getElem?_eq_getElem hkn, hp]; rfl
        have hpid0 : ∀ (m : Nat) (hm : k = m + 1), ∃ c, bs[m]? = some c ∧ cs[off + m * 6]? = some (.int .i64 c.id) := fun m hm => by
          have hmn : m < ps.length := by omega
          refine ⟨ps[m].2, by rw [← HP.out.1, List.getElem?_map, List.getElem?_eq_getElem hmn]; rfl, ?_⟩
          obtain ⟨bb2, off2, cs2, T2, fr2, hA2, hbb2, hcs2⟩ := HB.out.cell hmn
          rw [hAA] at hA2
          simp only [Option.some.injEq, Addr.mk.injEq] at hA2
          obtain ⟨rfl, rfl, _⟩ := hA2
          rw [hbb] at hbb2
          cases hbb2
          have := hcs2 0 (by omega)
          rw [Nat.add_zero] at this
          rw [this]; rfl
        subst hAA
        rw [hp] at hcs
        clear hp
        obtain ⟨⟨WA, wc9⟩, id, bgen, at_, size, ep, wrap⟩ := p
        simp only at hbs
        have hcs6 : ∀ i, i < 6 → cs[off + k * 6 + i]? = [Value.int .i64 id, .int .i64 bgen, .int .i64 at_, .int .i64 size, .int .i64 ep, .slice WA wrap.length wc9][i]? := fun i hi => hcs i hi
        clear hcs
        go_upto_region 6 with (first
          | (refine L_loadmidr rfl rfl H rfl hbb (fun e => e) Try.underlying45 rfl info45 [Value.int .i64 id, .int .i64 bgen, .int .i64 at_, .int .i64 size, .int .i64 ep, .slice WA wrap.length wc9] rfl hcs6 ?_; (try simp only [Act.put, List.setIfInBounds_toArray, List.set_cons_succ, List.set_cons_zero, List.getElem_toArray, List.getElem_cons_succ, List.getElem_cons_zero]))
          | fail)
        clear hcs6
        replace H := H.alloc (.cells #[.int .i64 id, .int .i64 bgen, .int .i64 at_, .int .i64 size, .int .i64 ep, .slice WA wrap.length wc9] 45)
        generalize wr.heap.size = g6 at *
        generalize wr.alloc (.cells #[.int .i64 id, .int .i64 bgen, .int .i64 at_, .int .i64 size, .int .i64 ep, .slice WA wrap.length wc9] 45) = wA at *
        obtain ⟨cC, hcC⟩ : ∃ q, decide (1 ≤ bgen ∧ bgen ≤ gen) = q := ⟨_, rfl⟩
        obtain ⟨cD, hcD⟩ : ∃ q, decide (sizedP size) = q := ⟨_, rfl⟩
        obtain ⟨cA, hcA⟩ : ∃ q : Bool, ∀ m, k = m + 1 → ∀ c, bs[m]? = some c → q = decide (c.id < id) := by
          cases k with
          | zero => exact ⟨true, fun m h => by omega⟩
          | succ m =>
            obtain ⟨c, hc, _⟩ := hpid0 m rfl
            exact ⟨decide (c.id < id), fun m' h c' hc' => by
              obtain rfl : m = m' := by omega
              rw [hc] at hc'
              cases hc'
              rfl⟩
        have hcA0 : k = 0 → cA = true ∨ True := fun _ => .inr trivial
        have hwC := fun {W : World} => within_any bgen 1 gen W
        have hsD := fun {W : World} => sized_any size W
        rw [hcC] at hwC
        rw [hcD] at hsD
        obtain ⟨okB, hok⟩ : ∃ q : Bool, ((decide (k = 0) || cA) && (decide (id < next) && (cC && (cD && decide ((wrap.length : Int) = 72))))) = q := ⟨_, rfl⟩
        have hblk : blkP ⟨epoch, old, phase, mode, next, gen, bs⟩ k ⟨id, bgen, at_, size, ep, wrap⟩ ↔ okB = true ∧ (ep = epoch ∨ (phase = 1 ∧ ep = old)) := by
          rw [← hok, ← hcC, ← hcD]
          unfold blkP
          simp only [Bool.and_eq_true, Bool.or_eq_true, decide_eq_true_eq]
          have hA : (∀ c, 0 < k → bs[k - 1]? = some c → c.id < id) ↔ (k = 0 ∨ cA = true) := by
            cases k with
            | zero => simp
            | succ m =>
              obtain ⟨c, hc, _⟩ := hpid0 m rfl
              rw [hcA m rfl c hc]
              simp [hc]
          constructor
          · rintro ⟨a, b, c, d, e, f⟩; exact ⟨⟨hA.1 a, b, c, d, by omega⟩, f⟩
          · rintro ⟨⟨a, b, c, d, e⟩, f⟩; exact ⟨hA.2 a, b, c, d, by omega, f⟩
        have HOK := Lib.hid hok.symm
        have HBLK := Lib.hid (And.intro hblk hbs)
        have HCA := Lib.hid hcA
        have HPID := Lib.hid hpid0
        clear hok hblk hbs hcA hcA0 hcC hcD hpid0
        go_cut [91] from 51 to 90 (fun s91 wc => s91 = .bool (!okB) ∧ SH (fun _ => False) w0 wc [pt g6 (.cells #[.int .i64 id, .int .i64 bgen, .int .i64 at_, .int .i64 size, .int .i64 ep, .slice WA wrap.length wc9] 45 (0, 0)), pt g (.cells #[.int .i64 epoch, .int .i64 old, .int .i64 phase, .int .i64 mode, .int .i64 next, .int .i64 gen, .slice (some ⟨bb, off, none⟩) ps.length cap] 24 (0, 0))])
        case first =>
          clear HBLK HA hsp HRES HHD
          by_cases hk0 : k = 0
          · have hkn0 : ¬ (0 : Int) < (k : Int) := by omega
            clear HCA HPID
            subst hk0
            by_cases hB : id < next
            · have hBn : ¬ next ≤ id := by omega
              cases cC
              · skip
                refine D_start H (by kernel_rfl) (fun hS => ?_)
                try simp only [Act.put, List.setIfInBounds_toArray, List.set_cons_succ, List.set_cons_zero]
                refine D_take 0 (v := ?_) rfl (by kernel_rfl) (by kernel_rfl) (by kernel_rfl) (fun _ _ _ h => h) rfl (by rfl) (fun W hS => ?_) hS ?_
                rotate_left; (focus (first | (go_simp; done) | (go_simp; with_reducible rfl) | (go_simp; rfl))); all_goals skip; (try simp only [List.set_cons_succ, List.set_cons_zero])
                refine D_take 1 (v := ?_) rfl (by kernel_rfl) (by kernel_rfl) (by kernel_rfl) (fun _ _ _ h => h) rfl (by rfl) (fun W hS => ?_) hS ?_
                rotate_left; (focus (first | (go_simp; done) | (go_simp; with_reducible rfl) | (go_simp; rfl))); all_goals skip; (try simp only [List.set_cons_succ, List.set_cons_zero])
                refine D_take 2 (v := ?_) rfl (by kernel_rfl) (by kernel_rfl) (by kernel_rfl) (fun _ _ _ h => h) rfl (by rfl) (fun W hS => ?_) hS ?_
                rotate_left; (focus (first | (go_simp; done) | (go_simp; with_reducible rfl) | (go_simp; rfl))); all_goals skip; (try simp only [List.set_cons_succ, List.set_cons_zero])
                refine D_skip 3 rfl (by kernel_rfl) (by kernel_rfl) (by kernel_rfl) (fun _ _ _ h => h) rfl (by rfl) hS ?_; (try simp only [List.set_cons_succ, List.set_cons_zero])
                refine D_skip 4 rfl (by kernel_rfl) (by kernel_rfl) (by kernel_rfl) (fun _ _ _ h => h) rfl (by rfl) hS ?_; (try simp only [List.set_cons_succ, List.set_cons_zero])
                refine D_skip 5 rfl (by kernel_rfl) (by kernel_rfl) (by kernel_rfl) (fun _ _ _ h => h) rfl (by rfl) hS ?_; (try simp only [List.set_cons_succ, List.set_cons_zero])
                refine D_skip 6 rfl (by kernel_rfl) (by kernel_rfl) (by kernel_rfl) (fun _ _ _ h => h) rfl (by rfl) hS ?_; (try simp only [List.set_cons_succ, List.set_cons_zero])
                refine D_skip 7 rfl (by kernel_rfl) (by kernel_rfl) (by kernel_rfl) (fun _ _ _ h => h) rfl (by rfl) hS ?_; (try simp only [List.set_cons_succ, List.set_cons_zero])
                refine D_skip 8 rfl (by kernel_rfl) (by kernel_rfl) (by kernel_rfl) (fun _ _ _ h => h) rfl (by rfl) hS ?_; (try simp only [List.set_cons_succ, List.set_cons_zero])
                refine D_skip 9 rfl (by kernel_rfl) (by kernel_rfl) (by kernel_rfl) (fun _ _ _ h => h) rfl (by rfl) hS ?_; (try simp only [List.set_cons_succ, List.set_cons_zero])
                refine D_skip 10 rfl (by kernel_rfl) (by kernel_rfl) (by kernel_rfl) (fun _ _ _ h => h) rfl (by rfl) hS ?_; (try simp only [List.set_cons_succ, List.set_cons_zero])
                refine D_skip 11 rfl (by kernel_rfl) (by kernel_rfl) (by kernel_rfl) (fun _ _ _ h => h) rfl (by rfl) hS ?_; (try simp only [List.set_cons_succ, List.set_cons_zero])
                refine D_skip 12 rfl (by kernel_rfl) (by kernel_rfl) (by kernel_rfl) (fun _ _ _ h => h) rfl (by rfl) hS ?_; (try simp only [List.set_cons_succ, List.set_cons_zero])
                refine D_take 13 (v := ?_) rfl (by kernel_rfl) (by kernel_rfl) (by kernel_rfl) (fun _ _ _ h => h) rfl (by rfl) (fun W hS => ?_) hS ?_
                rotate_left; (focus (first | (go_simp; done) | (go_simp; with_reducible rfl) | (go_simp; rfl))); all_goals skip; (try simp only [List.set_cons_succ, List.set_cons_zero])
                refine D_take 14 (v := ?_) rfl (by kernel_rfl) (by kernel_rfl) (by kernel_rfl) (fun _ _ _ h => h) rfl (by rfl) (fun W hS => ?_) hS ?_
                rotate_left; (focus (first | (go_simp; done) | (go_simp; with_reducible rfl) | (go_simp; rfl))); all_goals skip; (try simp only [List.set_cons_succ, List.set_cons_zero])
                refine D_take 15 (v := ?_) rfl (by kernel_rfl) (by kernel_rfl) (by kernel_rfl) (fun _ _ _ h => h) rfl (by rfl) (fun W hS => ?_) hS ?_
                rotate_left; (focus (first | (go_simp; done) | (go_simp; with_reducible rfl) | (go_simp; rfl))); all_goals skip; (try simp only [List.set_cons_succ, List.set_cons_zero])
                refine D_take 16 (v := ?_) rfl (by kernel_rfl) (by kernel_rfl) (by kernel_rfl) (fun _ _ _ h => h) rfl (by rfl) (fun W hS => ?_) hS ?_
                rotate_left; (focus (first | (refine R_load1 (ty := 3) (x := Operand.tmp 66) rfl hS 0 rfl rfl ?_ Try.isAgg3; rfl) | (refine R_load1 (ty := 3) (x := Operand.tmp 66) rfl hS 1 rfl rfl ?_ Try.isAgg3; rfl))); all_goals skip; (try simp only [List.set_cons_succ, List.set_cons_zero, List.getElem_toArray, List.getElem_cons_succ, List.getElem_cons_zero])
                refine D_take 17 (v := ?_) rfl (by kernel_rfl) (by kernel_rfl) (by kernel_rfl) (fun _ _ _ h => h) rfl (by rfl) (fun W hS => ?_) hS ?_
                rotate_left; (focus (first | (go_simp; done) | (go_simp; with_reducible rfl) | (go_simp; rfl))); all_goals skip; (try simp only [List.set_cons_succ, List.set_cons_zero])
                refine D_take 18 (v := ?_) rfl (by kernel_rfl) (by kernel_rfl) (by kernel_rfl) (fun _ _ _ h => h) rfl (by rfl) (fun W hS => ?_) hS ?_
                rotate_left; (focus (first | (refine R_load1 (ty := 3) (x := Operand.tmp 68) rfl hS 0 rfl rfl ?_ Try.isAgg3; rfl) | (refine R_load1 (ty := 3) (x := Operand.tmp 68) rfl hS 1 rfl rfl ?_ Try.isAgg3; rfl))); all_goals skip; (try simp only [List.set_cons_succ, List.set_cons_zero, List.getElem_toArray, List.getElem_cons_succ, List.getElem_cons_zero])
                refine D_take 19 (v := ?_) rfl (by kernel_rfl) (by kernel_rfl) (by kernel_rfl) (fun _ _ _ h => h) rfl (by rfl) (fun W hS => ?_) hS ?_
                rotate_left; (focus (first | (go_simp; done) | (go_simp; with_reducible rfl) | (go_simp; rfl))); all_goals skip; (try simp only [List.set_cons_succ, List.set_cons_zero])
                refine D_take 20 (v := ?_) rfl (by kernel_rfl) (by kernel_rfl) (by kernel_rfl) (fun _ _ _ h => h) rfl (by rfl) (fun W hS => ?_) hS ?_
                rotate_left; (focus (first | (go_simp; done) | (go_simp; with_reducible rfl) | (go_simp; rfl))); all_goals skip; (try simp only [List.set_cons_succ, List.set_cons_zero])
                refine D_take 21 (v := ?_) rfl (by kernel_rfl) (by kernel_rfl) (by kernel_rfl) (fun _ _ _ h => h) rfl (by rfl) (fun W hS => ?_) hS ?_
                rotate_left; (focus (first | (go_simp; done) | (go_simp; with_reducible rfl) | (go_simp; rfl))); all_goals skip; (try simp only [List.set_cons_succ, List.set_cons_zero])
                refine D_take 22 (v := ?_) rfl (by kernel_rfl) (by kernel_rfl) (by kernel_rfl) (fun _ _ _ h => h) rfl (by rfl) (fun W hS => ?_) hS ?_
                rotate_left; (focus (first | (go_simp; done) | (go_simp; with_reducible rfl) | (go_simp; rfl))); all_goals skip; (try simp only [List.set_cons_succ, List.set_cons_zero])
                refine D_take 23 (v := ?_) rfl (by kernel_rfl) (by kernel_rfl) (by kernel_rfl) (fun _ _ _ h => h) rfl (by rfl) (fun W hS => ?_) hS ?_
                rotate_left; (focus (first | (refine R_load1 (ty := 3) (x := Operand.tmp 73) rfl hS 0 rfl rfl ?_ Try.isAgg3; rfl) | (refine R_load1 (ty := 3) (x := Operand.tmp 73) rfl hS 1 rfl rfl ?_ Try.isAgg3; rfl))); all_goals skip; (try simp only [List.set_cons_succ, List.set_cons_zero, List.getElem_toArray, List.getElem_cons_succ, List.getElem_cons_zero])
                refine D_take 24 (v := ?_) rfl (by kernel_rfl) (by kernel_rfl) (by kernel_rfl) (fun _ _ _ h => h) rfl (by rfl) (fun W hS => ?_) hS ?_
                rotate_left; (focus (first | (go_simp; done) | (go_simp; with_reducible rfl) | (go_simp; rfl))); all_goals skip; (try simp only [List.set_cons_succ, List.set_cons_zero])
                refine D_take 25 (v := ?_) rfl (by kernel_rfl) (by kernel_rfl) (by kernel_rfl) (fun _ _ _ h => h) rfl (by rfl) (fun W hS => ?_) hS ?_
                rotate_left; (focus (first | (refine R_load1 (ty := 3) (x := Operand.tmp 75) rfl hS 0 rfl rfl ?_ Try.isAgg3; rfl) | (refine R_load1 (ty := 3) (x := Operand.tmp 75) rfl hS 1 rfl rfl ?_ Try.isAgg3; rfl))); all_goals skip; (try simp only [List.set_cons_succ, List.set_cons_zero, List.getElem_toArray, List.getElem_cons_succ, List.getElem_cons_zero])
                refine D_one 26 rfl (by kernel_rfl) (by rfl) ?_
                refine R_call (f := 29) (args := #[.int .i64 bgen, .int .i64 1, .int .i64 gen]) (by first | (go_simp; done) | (go_simp; rfl)) hwC ?_
                rintro e w2 ⟨rfl, rfl⟩
                refine ⟨_, rfl, hS, ?_⟩
                try simp only [Act.put, List.getElem_toArray, List.getElem_cons_succ, List.getElem_cons_zero, List.setIfInBounds_toArray, List.set_cons_succ, List.set_cons_zero]
                refine D_take 27 (v := ?_) rfl (by kernel_rfl) (by kernel_rfl) (by kernel_rfl) (fun _ _ _ h => h) rfl (by rfl) (fun W hS => ?_) hS ?_
                rotate_left; (focus (first | (go_simp; done) | (go_simp; with_reducible rfl) | (go_simp; rfl))); all_goals skip; (try simp only [List.set_cons_succ, List.set_cons_zero])
                refine D_take 28 (v := ?_) rfl (by kernel_rfl) (by kernel_rfl) (by kernel_rfl) (fun _ _ _ h => h) rfl (by rfl) (fun W hS => ?_) hS ?_
                rotate_left; (focus (first | (go_simp; done) | (go_simp; with_reducible rfl) | (go_simp; rfl))); all_goals skip; (try simp only [List.set_cons_succ, List.set_cons_zero])
                refine D_take 29 (v := ?_) rfl (by kernel_rfl) (by kernel_rfl) (by kernel_rfl) (fun _ _ _ h => h) rfl (by rfl) (fun W hS => ?_) hS ?_
                rotate_left; (focus (first | (go_simp; done) | (go_simp; with_reducible rfl) | (go_simp; rfl))); all_goals skip; (try simp only [List.set_cons_succ, List.set_cons_zero])
                refine D_skip 30 rfl (by kernel_rfl) (by kernel_rfl) (by kernel_rfl) (fun _ _ _ h => h) rfl (by rfl) hS ?_; (try simp only [List.set_cons_succ, List.set_cons_zero])
                refine D_skip 31 rfl (by kernel_rfl) (by kernel_rfl) (by kernel_rfl) (fun _ _ _ h => h) rfl (by rfl) hS ?_; (try simp only [List.set_cons_succ, List.set_cons_zero])
                refine D_skip 32 rfl (by kernel_rfl) (by kernel_rfl) (by kernel_rfl) (fun _ _ _ h => h) rfl (by rfl) hS ?_; (try simp only [List.set_cons_succ, List.set_cons_zero])
                refine D_skip 33 rfl (by kernel_rfl) (by kernel_rfl) (by kernel_rfl) (fun _ _ _ h => h) rfl (by rfl) hS ?_; (try simp only [List.set_cons_succ, List.set_cons_zero])
                refine D_take 34 (v := ?_) rfl (by kernel_rfl) (by kernel_rfl) (by kernel_rfl) (fun _ _ _ h => h) rfl (by rfl) (fun W hS => ?_) hS ?_
                rotate_left; (focus (first | (go_simp; done) | (go_simp; with_reducible rfl) | (go_simp; rfl))); all_goals skip; (try simp only [List.set_cons_succ, List.set_cons_zero])
                refine D_take 35 (v := ?_) rfl (by kernel_rfl) (by kernel_rfl) (by kernel_rfl) (fun _ _ _ h => h) rfl (by rfl) (fun W hS => ?_) hS ?_
                rotate_left; (focus (first | (go_simp; done) | (go_simp; with_reducible rfl) | (go_simp; rfl))); all_goals skip; (try simp only [List.set_cons_succ, List.set_cons_zero])
                refine D_skip 36 rfl (by kernel_rfl) (by kernel_rfl) (by kernel_rfl) (fun _ _ _ h => h) rfl (by rfl) hS ?_; (try simp only [List.set_cons_succ, List.set_cons_zero])
                refine D_skip 37 rfl (by kernel_rfl) (by kernel_rfl) (by kernel_rfl) (fun _ _ _ h => h) rfl (by rfl) hS ?_; (try simp only [List.set_cons_succ, List.set_cons_zero])
                refine D_skip 38 rfl (by kernel_rfl) (by kernel_rfl) (by kernel_rfl) (fun _ _ _ h => h) rfl (by rfl) hS ?_; (try simp only [List.set_cons_succ, List.set_cons_zero])
                refine D_skip 39 rfl (by kernel_rfl) (by kernel_rfl) (by kernel_rfl) (fun _ _ _ h => h) rfl (by rfl) hS ?_; (try simp only [List.set_cons_succ, List.set_cons_zero])
                refine D_take 40 (v := ?_) rfl (by kernel_rfl) (by kernel_rfl) (by kernel_rfl) (fun _ _ _ h => h) rfl (by rfl) (fun W hS => ?_) hS ?_
                rotate_left; (focus (first | (go_simp; done) | (go_simp; with_reducible rfl) | (go_simp; rfl))); all_goals skip; (try simp only [List.set_cons_succ, List.set_cons_zero])
                refine wpAnyH_done (by kernel_rfl) ?_ _
                go_wp2_with fail
                go_meet
                case rel => exact ⟨by rw [HOK.out]; simp [*], hS⟩
              · cases cD
                · skip
                  refine D_start H (by kernel_rfl) (fun hS => ?_)
                  try simp only [Act.put, List.setIfInBounds_toArray, List.set_cons_succ, List.set_cons_zero]
                  refine D_take 0 (v := ?_) rfl (by kernel_rfl) (by kernel_rfl) (by kernel_rfl) (fun _ _ _ h => h) rfl (by rfl) (fun W hS => ?_) hS ?_
                  rotate_left; (focus (first | (go_simp; done) | (go_simp; with_reducible rfl) | (go_simp; rfl))); all_goals skip; (try simp only [List.set_cons_succ, List.set_cons_zero])
                  refine D_take 1 (v := ?_) rfl (by kernel_rfl) (by kernel_rfl) (by kernel_rfl) (fun _ _ _ h => h) rfl (by rfl) (fun W hS => ?_) hS ?_
                  rotate_left; (focus (first | (go_simp; done) | (go_simp; with_reducible rfl) | (go_simp; rfl))); all_goals skip; (try simp only [List.set_cons_succ, List.set_cons_zero])
                  refine D_take 2 (v := ?_) rfl (by kernel_rfl) (by kernel_rfl) (by kernel_rfl) (fun _ _ _ h => h) rfl (by rfl) (fun W hS => ?_) hS ?_
                  rotate_left; (focus (first | (go_simp; done) | (go_simp; with_reducible rfl) | (go_simp; rfl))); all_goals skip; (try simp only [List.set_cons_succ, List.set_cons_zero])
                  refine D_skip 3 rfl (by kernel_rfl) (by kernel_rfl) (by kernel_rfl) (fun _ _ _ h => h) rfl (by rfl) hS ?_; (try simp only [List.set_cons_succ, List.set_cons_zero])
                  refine D_skip 4 rfl (by kernel_rfl) (by kernel_rfl) (by kernel_rfl) (fun _ _ _ h => h) rfl (by rfl) hS ?_; (try simp only [List.set_cons_succ, List.set_cons_zero])
                  refine D_skip 5 rfl (by kernel_rfl) (by kernel_rfl) (by kernel_rfl) (fun _ _ _ h => h) rfl (by rfl) hS ?_; (try simp only [List.set_cons_succ, List.set_cons_zero])
                  refine D_skip 6 rfl (by kernel_rfl) (by kernel_rfl) (by kernel_rfl) (fun _ _ _ h => h) rfl (by rfl) hS ?_; (try simp only [List.set_cons_succ, List.set_cons_zero])
                  refine D_skip 7 rfl (by kernel_rfl) (by kernel_rfl) (by kernel_rfl) (fun _ _ _ h => h) rfl (by rfl) hS ?_; (try simp only [List.set_cons_succ, List.set_cons_zero])
                  refine D_skip 8 rfl (by kernel_rfl) (by kernel_rfl) (by kernel_rfl) (fun _ _ _ h => h) rfl (by rfl) hS ?_; (try simp only [List.set_cons_succ, List.set_cons_zero])
                  refine D_skip 9 rfl (by kernel_rfl) (by kernel_rfl) (by kernel_rfl) (fun _ _ _ h => h) rfl (by rfl) hS ?_; (try simp only [List.set_cons_succ, List.set_cons_zero])
                  refine D_skip 10 rfl (by kernel_rfl) (by kernel_rfl) (by kernel_rfl) (fun _ _ _ h => h) rfl (by rfl) hS ?_; (try simp only [List.set_cons_succ, List.set_cons_zero])
                  refine D_skip 11 rfl (by kernel_rfl) (by kernel_rfl) (by kernel_rfl) (fun _ _ _ h => h) rfl (by rfl) hS ?_; (try simp only [List.set_cons_succ, List.set_cons_zero])
                  refine D_skip 12 rfl (by kernel_rfl) (by kernel_rfl) (by kernel_rfl) (fun _ _ _ h => h) rfl (by rfl) hS ?_; (try simp only [List.set_cons_succ, List.set_cons_zero])
                  refine D_take 13 (v := ?_) rfl (by kernel_rfl) (by kernel_rfl) (by kernel_rfl) (fun _ _ _ h => h) rfl (by rfl) (fun W hS => ?_) hS ?_
                  rotate_left; (focus (first | (go_simp; done) | (go_simp; with_reducible rfl) | (go_simp; rfl))); all_goals skip; (try simp only [List.set_cons_succ, List.set_cons_zero])
                  refine D_take 14 (v := ?_) rfl (by kernel_rfl) (by kernel_rfl) (by kernel_rfl) (fun _ _ _ h => h) rfl (by rfl) (fun W hS => ?_) hS ?_
                  rotate_left; (focus (first | (go_simp; done) | (go_simp; with_reducible rfl) | (go_simp; rfl))); all_goals skip; (try simp only [List.set_cons_succ, List.set_cons_zero])
                  refine D_take 15 (v := ?_) rfl (by kernel_rfl) (by kernel_rfl) (by kernel_rfl) (fun _ _ _ h => h) rfl (by rfl) (fun W hS => ?_) hS ?_
                  rotate_left; (focus (first | (go_simp; done) | (go_simp; with_reducible rfl) | (go_simp; rfl))); all_goals skip; (try simp only [List.set_cons_succ, List.set_cons_zero])
                  refine D_take 16 (v := ?_) rfl (by kernel_rfl) (by kernel_rfl) (by kernel_rfl) (fun _ _ _ h => h) rfl (by rfl) (fun W hS => ?_) hS ?_
                  rotate_left; (focus (first | (refine R_load1 (ty := 3) (x := Operand.tmp 66) rfl hS 0 rfl rfl ?_ Try.isAgg3; rfl) | (refine R_load1 (ty := 3) (x := Operand.tmp 66) rfl hS 1 rfl rfl ?_ Try.isAgg3; rfl))); all_goals skip; (try simp only [List.set_cons_succ, List.set_cons_zero, List.getElem_toArray, List.getElem_cons_succ, List.getElem_cons_zero])
                  refine D_take 17 (v := ?_) rfl (by kernel_rfl) (by kernel_rfl) (by kernel_rfl) (fun _ _ _ h => h) rfl (by rfl) (fun W hS => ?_) hS ?_
                  rotate_left; (focus (first | (go_simp; done) | (go_simp; with_reducible rfl) | (go_simp; rfl))); all_goals skip; (try simp only [List.set_cons_succ, List.set_cons_zero])
                  refine D_take 18 (v := ?_) rfl (by kernel_rfl) (by kernel_rfl) (by kernel_rfl) (fun _ _ _ h => h) rfl (by rfl) (fun W hS => ?_) hS ?_
                  rotate_left; (focus (first | (refine R_load1 (ty := 3) (x := Operand.tmp 68) rfl hS 0 rfl rfl ?_ Try.isAgg3; rfl) | (refine R_load1 (ty := 3) (x := Operand.tmp 68) rfl hS 1 rfl rfl ?_ Try.isAgg3; rfl))); all_goals skip; (try simp only [List.set_cons_succ, List.set_cons_zero, List.getElem_toArray, List.getElem_cons_succ, List.getElem_cons_zero])
                  refine D_take 19 (v := ?_) rfl (by kernel_rfl) (by kernel_rfl) (by kernel_rfl) (fun _ _ _ h => h) rfl (by rfl) (fun W hS => ?_) hS ?_
                  rotate_left; (focus (first | (go_simp; done) | (go_simp; with_reducible rfl) | (go_simp; rfl))); all_goals skip; (try simp only [List.set_cons_succ, List.set_cons_zero])
                  refine D_take 20 (v := ?_) rfl (by kernel_rfl) (by kernel_rfl) (by kernel_rfl) (fun _ _ _ h => h) rfl (by rfl) (fun W hS => ?_) hS ?_
                  rotate_left; (focus (first | (go_simp; done) | (go_simp; with_reducible rfl) | (go_simp; rfl))); all_goals skip; (try simp only [List.set_cons_succ, List.set_cons_zero])
                  refine D_take 21 (v := ?_) rfl (by kernel_rfl) (by kernel_rfl) (by kernel_rfl) (fun _ _ _ h => h) rfl (by rfl) (fun W hS => ?_) hS ?_
                  rotate_left; (focus (first | (go_simp; done) | (go_simp; with_reducible rfl) | (go_simp; rfl))); all_goals skip; (try simp only [List.set_cons_succ, List.set_cons_zero])
                  refine D_take 22 (v := ?_) rfl (by kernel_rfl) (by kernel_rfl) (by kernel_rfl) (fun _ _ _ h => h) rfl (by rfl) (fun W hS => ?_) hS ?_
                  rotate_left; (focus (first | (go_simp; done) | (go_simp; with_reducible rfl) | (go_simp; rfl))); all_goals skip; (try simp only [List.set_cons_succ, List.set_cons_zero])
                  refine D_take 23 (v := ?_) rfl (by kernel_rfl) (by kernel_rfl) (by kernel_rfl) (fun _ _ _ h => h) rfl (by rfl) (fun W hS => ?_) hS ?_
                  rotate_left; (focus (first | (refine R_load1 (ty := 3) (x := Operand.tmp 73) rfl hS 0 rfl rfl ?_ Try.isAgg3; rfl) | (refine R_load1 (ty := 3) (x := Operand.tmp 73) rfl hS 1 rfl rfl ?_ Try.isAgg3; rfl))); all_goals skip; (try simp only [List.set_cons_succ, List.set_cons_zero, List.getElem_toArray, List.getElem_cons_succ, List.getElem_cons_zero])
                  refine D_take 24 (v := ?_) rfl (by kernel_rfl) (by kernel_rfl) (by kernel_rfl) (fun _ _ _ h => h) rfl (by rfl) (fun W hS => ?_) hS ?_
                  rotate_left; (focus (first | (go_simp; done) | (go_simp; with_reducible rfl) | (go_simp; rfl))); all_goals skip; (try simp only [List.set_cons_succ, List.set_cons_zero])
                  refine D_take 25 (v := ?_) rfl (by kernel_rfl) (by kernel_rfl) (by kernel_rfl) (fun _ _ _ h => h) rfl (by rfl) (fun W hS => ?_) hS ?_
                  rotate_left; (focus (first | (refine R_load1 (ty := 3) (x := Operand.tmp 75) rfl hS 0 rfl rfl ?_ Try.isAgg3; rfl) | (refine R_load1 (ty := 3) (x := Operand.tmp 75) rfl hS 1 rfl rfl ?_ Try.isAgg3; rfl))); all_goals skip; (try simp only [List.set_cons_succ, List.set_cons_zero, List.getElem_toArray, List.getElem_cons_succ, List.getElem_cons_zero])
                  refine D_one 26 rfl (by kernel_rfl) (by rfl) ?_
                  refine R_call (f := 29) (args := #[.int .i64 bgen, .int .i64 1, .int .i64 gen]) (by first | (go_simp; done) | (go_simp; rfl)) hwC ?_
                  rintro e w2 ⟨rfl, rfl⟩
                  refine ⟨_, rfl, hS, ?_⟩
                  try simp only [Act.put, List.getElem_toArray, List.getElem_cons_succ, List.getElem_cons_zero, List.setIfInBounds_toArray, List.set_cons_succ, List.set_cons_zero]
                  refine D_take 27 (v := ?_) rfl (by kernel_rfl) (by kernel_rfl) (by kernel_rfl) (fun _ _ _ h => h) rfl (by rfl) (fun W hS => ?_) hS ?_
                  rotate_left; (focus (first | (go_simp; done) | (go_simp; with_reducible rfl) | (go_simp; rfl))); all_goals skip; (try simp only [List.set_cons_succ, List.set_cons_zero])
                  refine D_take 28 (v := ?_) rfl (by kernel_rfl) (by kernel_rfl) (by kernel_rfl) (fun _ _ _ h => h) rfl (by rfl) (fun W hS => ?_) hS ?_
                  rotate_left; (focus (first | (go_simp; done) | (go_simp; with_reducible rfl) | (go_simp; rfl))); all_goals skip; (try simp only [List.set_cons_succ, List.set_cons_zero])
                  refine D_take 29 (v := ?_) rfl (by kernel_rfl) (by kernel_rfl) (by kernel_rfl) (fun _ _ _ h => h) rfl (by rfl) (fun W hS => ?_) hS ?_
                  rotate_left; (focus (first | (go_simp; done) | (go_simp; with_reducible rfl) | (go_simp; rfl))); all_goals skip; (try simp only [List.set_cons_succ, List.set_cons_zero])
                  refine D_take 30 (v := ?_) rfl (by kernel_rfl) (by kernel_rfl) (by kernel_rfl) (fun _ _ _ h => h) rfl (by rfl) (fun W hS => ?_) hS ?_
                  rotate_left; (focus (first | (go_simp; done) | (go_simp; with_reducible rfl) | (go_simp; rfl))); all_goals skip; (try simp only [List.set_cons_succ, List.set_cons_zero])
                  refine D_take 31 (v := ?_) rfl (by kernel_rfl) (by kernel_rfl) (by kernel_rfl) (fun _ _ _ h => h) rfl (by rfl) (fun W hS => ?_) hS ?_
                  rotate_left; (focus (first | (refine R_load1 (ty := 3) (x := Operand.tmp 81) rfl hS 0 rfl rfl ?_ Try.isAgg3; rfl) | (refine R_load1 (ty := 3) (x := Operand.tmp 81) rfl hS 1 rfl rfl ?_ Try.isAgg3; rfl))); all_goals skip; (try simp only [List.set_cons_succ, List.set_cons_zero, List.getElem_toArray, List.getElem_cons_succ, List.getElem_cons_zero])
                  refine D_one 32 rfl (by kernel_rfl) (by rfl) ?_
                  refine R_call (f := 30) (args := #[.int .i64 size]) (by first | (go_simp; done) | (go_simp; rfl)) hsD ?_
                  rintro e w2 ⟨rfl, rfl⟩
                  refine ⟨_, rfl, hS, ?_⟩
                  try simp only [Act.put, List.getElem_toArray, List.getElem_cons_succ, List.getElem_cons_zero, List.setIfInBounds_toArray, List.set_cons_succ, List.set_cons_zero]
                  refine D_take 33 (v := ?_) rfl (by kernel_rfl) (by kernel_rfl) (by kernel_rfl) (fun _ _ _ h => h) rfl (by rfl) (fun W hS => ?_) hS ?_
                  rotate_left; (focus (first | (go_simp; done) | (go_simp; with_reducible rfl) | (go_simp; rfl))); all_goals skip; (try simp only [List.set_cons_succ, List.set_cons_zero])
                  refine D_take 34 (v := ?_) rfl (by kernel_rfl) (by kernel_rfl) (by kernel_rfl) (fun _ _ _ h => h) rfl (by rfl) (fun W hS => ?_) hS ?_
                  rotate_left; (focus (first | (go_simp; done) | (go_simp; with_reducible rfl) | (go_simp; rfl))); all_goals skip; (try simp only [List.set_cons_succ, List.set_cons_zero])
                  refine D_take 35 (v := ?_) rfl (by kernel_rfl) (by kernel_rfl) (by kernel_rfl) (fun _ _ _ h => h) rfl (by rfl) (fun W hS => ?_) hS ?_
                  rotate_left; (focus (first | (go_simp; done) | (go_simp; with_reducible rfl) | (go_simp; rfl))); all_goals skip; (try simp only [List.set_cons_succ, List.set_cons_zero])
                  refine D_skip 36 rfl (by kernel_rfl) (by kernel_rfl) (by kernel_rfl) (fun _ _ _ h => h) rfl (by rfl) hS ?_; (try simp only [List.set_cons_succ, List.set_cons_zero])
                  refine D_skip 37 rfl (by kernel_rfl) (by kernel_rfl) (by kernel_rfl) (fun _ _ _ h => h) rfl (by rfl) hS ?_; (try simp only [List.set_cons_succ, List.set_cons_zero])
                  refine D_skip 38 rfl (by kernel_rfl) (by kernel_rfl) (by kernel_rfl) (fun _ _ _ h => h) rfl (by rfl) hS ?_; (try simp only [List.set_cons_succ, List.set_cons_zero])
                  refine D_skip 39 rfl (by kernel_rfl) (by kernel_rfl) (by kernel_rfl) (fun _ _ _ h => h) rfl (by rfl) hS ?_; (try simp only [List.set_cons_succ, List.set_cons_zero])
                  refine D_take 40 (v := ?_) rfl (by kernel_rfl) (by kernel_rfl) (by kernel_rfl) (fun _ _ _ h => h) rfl (by rfl) (fun W hS => ?_) hS ?_
                  rotate_left; (focus (first | (go_simp; done) | (go_simp; with_reducible rfl) | (go_simp; rfl))); all_goals skip; (try simp only [List.set_cons_succ, List.set_cons_zero])
                  refine wpAnyH_done (by kernel_rfl) ?_ _
                  go_wp2_with fail
                  go_meet
                  case rel => exact ⟨by rw [HOK.out]; simp [*], hS⟩
                · by_cases hE : (wrap.length : Int) = 72
                  · have hEb : ((wrap.length : Int) != 72) = false := by simp [hE]
                    refine D_start H (by kernel_rfl) (fun hS => ?_)
                    try simp only [Act.put, List.setIfInBounds_toArray, List.set_cons_succ, List.set_cons_zero]
                    refine D_take 0 (v := ?_) rfl (by kernel_rfl) (by kernel_rfl) (by kernel_rfl) (fun _ _ _ h => h) rfl (by rfl) (fun W hS => ?_) hS ?_
                    rotate_left; (focus (first | (go_simp; done) | (go_simp; with_reducible rfl) | (go_simp; rfl))); all_goals skip; (try simp only [List.set_cons_succ, List.set_cons_zero])
                    refine D_take 1 (v := ?_) rfl (by kernel_rfl) (by kernel_rfl) (by kernel_rfl) (fun _ _ _ h => h) rfl (by rfl) (fun W hS => ?_) hS ?_
                    rotate_left; (focus (first | (go_simp; done) | (go_simp; with_reducible rfl) | (go_simp; rfl))); all_goals skip; (try simp only [List.set_cons_succ, List.set_cons_zero])
                    refine D_take 2 (v := ?_) rfl (by kernel_rfl) (by kernel_rfl) (by kernel_rfl) (fun _ _ _ h => h) rfl (by rfl) (fun W hS => ?_) hS ?_
                    rotate_left; (focus (first | (go_simp; done) | (go_simp; with_reducible rfl) | (go_simp; rfl))); all_goals skip; (try simp only [List.set_cons_succ, List.set_cons_zero])
                    refine D_skip 3 rfl (by kernel_rfl) (by kernel_rfl) (by kernel_rfl) (fun _ _ _ h => h) rfl (by rfl) hS ?_; (try simp only [List.set_cons_succ, List.set_cons_zero])
                    refine D_skip 4 rfl (by kernel_rfl) (by kernel_rfl) (by kernel_rfl) (fun _ _ _ h => h) rfl (by rfl) hS ?_; (try simp only [List.set_cons_succ, List.set_cons_zero])
                    refine D_skip 5 rfl (by kernel_rfl) (by kernel_rfl) (by kernel_rfl) (fun _ _ _ h => h) rfl (by rfl) hS ?_; (try simp only [List.set_cons_succ, List.set_cons_zero])
                    refine D_skip 6 rfl (by kernel_rfl) (by kernel_rfl) (by kernel_rfl) (fun _ _ _ h => h) rfl (by rfl) hS ?_; (try simp only [List.set_cons_succ, List.set_cons_zero])
                    refine D_skip 7 rfl (by kernel_rfl) (by kernel_rfl) (by kernel_rfl) (fun _ _ _ h => h) rfl (by rfl) hS ?_; (try simp only [List.set_cons_succ, List.set_cons_zero])
                    refine D_skip 8 rfl (by kernel_rfl) (by kernel_rfl) (by kernel_rfl) (fun _ _ _ h => h) rfl (by rfl) hS ?_; (try simp only [List.set_cons_succ, List.set_cons_zero])
                    refine D_skip 9 rfl (by kernel_rfl) (by kernel_rfl) (by kernel_rfl) (fun _ _ _ h => h) rfl (by rfl) hS ?_; (try simp only [List.set_cons_succ, List.set_cons_zero])
                    refine D_skip 10 rfl (by kernel_rfl) (by kernel_rfl) (by kernel_rfl) (fun _ _ _ h => h) rfl (by rfl) hS ?_; (try simp only [List.set_cons_succ, List.set_cons_zero])
                    refine D_skip 11 rfl (by kernel_rfl) (by kernel_rfl) (by kernel_rfl) (fun _ _ _ h => h) rfl (by rfl) hS ?_; (try simp only [List.set_cons_succ, List.set_cons_zero])
                    refine D_skip 12 rfl (by kernel_rfl) (by kernel_rfl) (by kernel_rfl) (fun _ _ _ h => h) rfl (by rfl) hS ?_; (try simp only [List.set_cons_succ, List.set_cons_zero])
                    refine D_take 13 (v := ?_) rfl (by kernel_rfl) (by kernel_rfl) (by kernel_rfl) (fun _ _ _ h => h) rfl (by rfl) (fun W hS => ?_) hS ?_
                    rotate_left; (focus (first | (go_simp; done) | (go_simp; with_reducible rfl) | (go_simp; rfl))); all_goals skip; (try simp only [List.set_cons_succ, List.set_cons_zero])
                    refine D_take 14 (v := ?_) rfl (by kernel_rfl) (by kernel_rfl) (by kernel_rfl) (fun _ _ _ h => h) rfl (by rfl) (fun W hS => ?_) hS ?_
                    rotate_left; (focus (first | (go_simp; done) | (go_simp; with_reducible rfl) | (go_simp; rfl))); all_goals skip; (try simp only [List.set_cons_succ, List.set_cons_zero])
                    refine D_take 15 (v := ?_) rfl (by kernel_rfl) (by kernel_rfl) (by kernel_rfl) (fun _ _ _ h => h) rfl (by rfl) (fun W hS => ?_) hS ?_
                    rotate_left; (focus (first | (go_simp; done) | (go_simp; with_reducible rfl) | (go_simp; rfl))); all_goals skip; (try simp only [List.set_cons_succ, List.set_cons_zero])
                    refine D_take 16 (v := ?_) rfl (by kernel_rfl) (by kernel_rfl) (by kernel_rfl) (fun _ _ _ h => h) rfl (by rfl) (fun W hS => ?_) hS ?_
                    rotate_left; (focus (first | (refine R_load1 (ty := 3) (x := Operand.tmp 66) rfl hS 0 rfl rfl ?_ Try.isAgg3; rfl) | (refine R_load1 (ty := 3) (x := Operand.tmp 66) rfl hS 1 rfl rfl ?_ Try.isAgg3; rfl))); all_goals skip; (try simp only [List.set_cons_succ, List.set_cons_zero, List.getElem_toArray, List.getElem_cons_succ, List.getElem_cons_zero])
                    refine D_take 17 (v := ?_) rfl (by kernel_rfl) (by kernel_rfl) (by kernel_rfl) (fun _ _ _ h => h) rfl (by rfl) (fun W hS => ?_) hS ?_
                    rotate_left; (focus (first | (go_simp; done) | (go_simp; with_reducible rfl) | (go_simp; rfl))); all_goals skip; (try simp only [List.set_cons_succ, List.set_cons_zero])
                    refine D_take 18 (v := ?_) rfl (by kernel_rfl) (by kernel_rfl) (by kernel_rfl) (fun _ _ _ h => h) rfl (by rfl) (fun W hS => ?_) hS ?_
                    rotate_left; (focus (first | (refine R_load1 (ty := 3) (x := Operand.tmp 68) rfl hS 0 rfl rfl ?_ Try.isAgg3; rfl) | (refine R_load1 (ty := 3) (x := Operand.tmp 68) rfl hS 1 rfl rfl ?_ Try.isAgg3; rfl))); all_goals skip; (try simp only [List.set_cons_succ, List.set_cons_zero, List.getElem_toArray, List.getElem_cons_succ, List.getElem_cons_zero])
                    refine D_take 19 (v := ?_) rfl (by kernel_rfl) (by kernel_rfl) (by kernel_rfl) (fun _ _ _ h => h) rfl (by rfl) (fun W hS => ?_) hS ?_
                    rotate_left; (focus (first | (go_simp; done) | (go_simp; with_reducible rfl) | (go_simp; rfl))); all_goals skip; (try simp only [List.set_cons_succ, List.set_cons_zero])
                    refine D_take 20 (v := ?_) rfl (by kernel_rfl) (by kernel_rfl) (by kernel_rfl) (fun _ _ _ h => h) rfl (by rfl) (fun W hS => ?_) hS ?_
                    rotate_left; (focus (first | (go_simp; done) | (go_simp; with_reducible rfl) | (go_simp; rfl))); all_goals skip; (try simp only [List.set_cons_succ, List.set_cons_zero])
                    refine D_take 21 (v := ?_) rfl (by kernel_rfl) (by kernel_rfl) (by kernel_rfl) (fun _ _ _ h => h) rfl (by rfl) (fun W hS => ?_) hS ?_
                    rotate_left; (focus (first | (go_simp; done) | (go_simp; with_reducible rfl) | (go_simp; rfl))); all_goals skip; (try simp only [List.set_cons_succ, List.set_cons_zero])
                    refine D_take 22 (v := ?_) rfl (by kernel_rfl) (by kernel_rfl) (by kernel_rfl) (fun _ _ _ h => h) rfl (by rfl) (fun W hS => ?_) hS ?_
                    rotate_left; (focus (first | (go_simp; done) | (go_simp; with_reducible rfl) | (go_simp; rfl))); all_goals skip; (try simp only [List.set_cons_succ, List.set_cons_zero])
                    refine D_take 23 (v := ?_) rfl (by kernel_rfl) (by kernel_rfl) (by kernel_rfl) (fun _ _ _ h => h) rfl (by rfl) (fun W hS => ?_) hS ?_
                    rotate_left; (focus (first | (refine R_load1 (ty := 3) (x := Operand.tmp 73) rfl hS 0 rfl rfl ?_ Try.isAgg3; rfl) | (refine R_load1 (ty := 3) (x := Operand.tmp 73) rfl hS 1 rfl rfl ?_ Try.isAgg3; rfl))); all_goals skip; (try simp only [List.set_cons_succ, List.set_cons_zero, List.getElem_toArray, List.getElem_cons_succ, List.getElem_cons_zero])
                    refine D_take 24 (v := ?_) rfl (by kernel_rfl) (by kernel_rfl) (by kernel_rfl) (fun _ _ _ h => h) rfl (by rfl) (fun W hS => ?_) hS ?_
                    rotate_left; (focus (first | (go_simp; done) | (go_simp; with_reducible rfl) | (go_simp; rfl))); all_goals skip; (try simp only [List.set_cons_succ, List.set_cons_zero])
                    refine D_take 25 (v := ?_) rfl (by kernel_rfl) (by kernel_rfl) (by kernel_rfl) (fun _ _ _ h => h) rfl (by rfl) (fun W hS => ?_) hS ?_
                    rotate_left; (focus (first | (refine R_load1 (ty := 3) (x := Operand.tmp 75) rfl hS 0 rfl rfl ?_ Try.isAgg3; rfl) | (refine R_load1 (ty := 3) (x := Operand.tmp 75) rfl hS 1 rfl rfl ?_ Try.isAgg3; rfl))); all_goals skip; (try simp only [List.set_cons_succ, List.set_cons_zero, List.getElem_toArray, List.getElem_cons_succ, List.getElem_cons_zero])
                    refine D_one 26 rfl (by kernel_rfl) (by rfl) ?_
                    refine R_call (f := 29) (args := #[.int .i64 bgen, .int .i64 1, .int .i64 gen]) (by first | (go_simp; done) | (go_simp; rfl)) hwC ?_
                    rintro e w2 ⟨rfl, rfl⟩
                    refine ⟨_, rfl, hS, ?_⟩
                    try simp only [Act.put, List.getElem_toArray, List.getElem_cons_succ, List.getElem_cons_zero, List.setIfInBounds_toArray, List.set_cons_succ, List.set_cons_zero]
                    refine D_take 27 (v := ?_) rfl (by kernel_rfl) (by kernel_rfl) (by kernel_rfl) (fun _ _ _ h => h) rfl (by rfl) (fun W hS => ?_) hS ?_
                    rotate_left; (focus (first | (go_simp; done) | (go_simp; with_reducible rfl) | (go_simp; rfl))); all_goals skip; (try simp only [List.set_cons_succ, List.set_cons_zero])
                    refine D_take 28 (v := ?_) rfl (by kernel_rfl) (by kernel_rfl) (by kernel_rfl) (fun _ _ _ h => h) rfl (by rfl) (fun W hS => ?_) hS ?_
                    rotate_left; (focus (first | (go_simp; done) | (go_simp; with_reducible rfl) | (go_simp; rfl))); all_goals skip; (try simp only [List.set_cons_succ, List.set_cons_zero])
                    refine D_take 29 (v := ?_) rfl (by kernel_rfl) (by kernel_rfl) (by kernel_rfl) (fun _ _ _ h => h) rfl (by rfl) (fun W hS => ?_) hS ?_
                    rotate_left; (focus (first | (go_simp; done) | (go_simp; with_reducible rfl) | (go_simp; rfl))); all_goals skip; (try simp only [List.set_cons_succ, List.set_cons_zero])
                    refine D_take 30 (v := ?_) rfl (by kernel_rfl) (by kernel_rfl) (by kernel_rfl) (fun _ _ _ h => h) rfl (by rfl) (fun W hS => ?_) hS ?_
                    rotate_left; (focus (first | (go_simp; done) | (go_simp; with_reducible rfl) | (go_simp; rfl))); all_goals skip; (try simp only [List.set_cons_succ, List.set_cons_zero])
                    refine D_take 31 (v := ?_) rfl (by kernel_rfl) (by kernel_rfl) (by kernel_rfl) (fun _ _ _ h => h) rfl (by rfl) (fun W hS => ?_) hS ?_
                    rotate_left; (focus (first | (refine R_load1 (ty := 3) (x := Operand.tmp 81) rfl hS 0 rfl rfl ?_ Try.isAgg3; rfl) | (refine R_load1 (ty := 3) (x := Operand.tmp 81) rfl hS 1 rfl rfl ?_ Try.isAgg3; rfl))); all_goals skip; (try simp only [List.set_cons_succ, List.set_cons_zero, List.getElem_toArray, List.getElem_cons_succ, List.getElem_cons_zero])
                    refine D_one 32 rfl (by kernel_rfl) (by rfl) ?_
                    refine R_call (f := 30) (args := #[.int .i64 size]) (by first | (go_simp; done) | (go_simp; rfl)) hsD ?_
                    rintro e w2 ⟨rfl, rfl⟩
                    refine ⟨_, rfl, hS, ?_⟩
                    try simp only [Act.put, List.getElem_toArray, List.getElem_cons_succ, List.getElem_cons_zero, List.setIfInBounds_toArray, List.set_cons_succ, List.set_cons_zero]
                    refine D_take 33 (v := ?_) rfl (by kernel_rfl) (by kernel_rfl) (by kernel_rfl) (fun _ _ _ h => h) rfl (by rfl) (fun W hS => ?_) hS ?_
                    rotate_left; (focus (first | (go_simp; done) | (go_simp; with_reducible rfl) | (go_simp; rfl))); all_goals skip; (try simp only [List.set_cons_succ, List.set_cons_zero])
                    refine D_take 34 (v := ?_) rfl (by kernel_rfl) (by kernel_rfl) (by kernel_rfl) (fun _ _ _ h => h) rfl (by rfl) (fun W hS => ?_) hS ?_
                    rotate_left; (focus (first | (go_simp; done) | (go_simp; with_reducible rfl) | (go_simp; rfl))); all_goals skip; (try simp only [List.set_cons_succ, List.set_cons_zero])
                    refine D_take 35 (v := ?_) rfl (by kernel_rfl) (by kernel_rfl) (by kernel_rfl) (fun _ _ _ h => h) rfl (by rfl) (fun W hS => ?_) hS ?_
                    rotate_left; (focus (first | (go_simp; done) | (go_simp; with_reducible rfl) | (go_simp; rfl))); all_goals skip; (try simp only [List.set_cons_succ, List.set_cons_zero])
                    refine D_take 36 (v := ?_) rfl (by kernel_rfl) (by kernel_rfl) (by kernel_rfl) (fun _ _ _ h => h) rfl (by rfl) (fun W hS => ?_) hS ?_
                    rotate_left; (focus (first | (go_simp; done) | (go_simp; with_reducible rfl) | (go_simp; rfl))); all_goals skip; (try simp only [List.set_cons_succ, List.set_cons_zero])
                    refine D_take 37 (v := ?_) rfl (by kernel_rfl) (by kernel_rfl) (by kernel_rfl) (fun _ _ _ h => h) rfl (by rfl) (fun W hS => ?_) hS ?_
                    rotate_left; (focus (first | (refine R_load1 (ty := 34) (x := Operand.tmp 87) rfl hS 0 rfl rfl ?_ Try.isAgg34; rfl) | (refine R_load1 (ty := 34) (x := Operand.tmp 87) rfl hS 1 rfl rfl ?_ Try.isAgg34; rfl))); all_goals skip; (try simp only [List.set_cons_succ, List.set_cons_zero, List.getElem_toArray, List.getElem_cons_succ, List.getElem_cons_zero])
                    refine D_take 38 (v := ?_) rfl (by kernel_rfl) (by kernel_rfl) (by kernel_rfl) (fun _ _ _ h => h) rfl (by rfl) (fun W hS => ?_) hS ?_
                    rotate_left; (focus (first | (go_simp; done) | (go_simp; with_reducible rfl) | (go_simp; rfl))); all_goals skip; (try simp only [List.set_cons_succ, List.set_cons_zero])
                    refine D_take 39 (v := ?_) rfl (by kernel_rfl) (by kernel_rfl) (by kernel_rfl) (fun _ _ _ h => h) rfl (by rfl) (fun W hS => ?_) hS ?_
                    rotate_left; (focus (first | (go_simp; done) | (go_simp; with_reducible rfl) | (go_simp; rfl))); all_goals skip; (try simp only [List.set_cons_succ, List.set_cons_zero])
                    refine D_take 40 (v := ?_) rfl (by kernel_rfl) (by kernel_rfl) (by kernel_rfl) (fun _ _ _ h => h) rfl (by rfl) (fun W hS => ?_) hS ?_
                    rotate_left; (focus (first | (go_simp; done) | (go_simp; with_reducible rfl) | (go_simp; rfl))); all_goals skip; (try simp only [List.set_cons_succ, List.set_cons_zero])
                    refine wpAnyH_done (by kernel_rfl) ?_ _
                    go_wp2_with fail
                    go_meet
                    case rel => exact ⟨by rw [HOK.out]; simp [*], hS⟩
                  · have hEb : ((wrap.length : Int) != 72) = true := by simp [hE]
                    refine D_start H (by kernel_rfl) (fun hS => ?_)
                    try simp only [Act.put, List.setIfInBounds_toArray, List.set_cons_succ, List.set_cons_zero]
                    refine D_take 0 (v := ?_) rfl (by kernel_rfl) (by kernel_rfl) (by kernel_rfl) (fun _ _ _ h => h) rfl (by rfl) (fun W hS => ?_) hS ?_
                    rotate_left; (focus (first | (go_simp; done) | (go_simp; with_reducible rfl) | (go_simp; rfl))); all_goals skip; (try simp only [List.set_cons_succ, List.set_cons_zero])
                    refine D_take 1 (v := ?_) rfl (by kernel_rfl) (by kernel_rfl) (by kernel_rfl) (fun _ _ _ h => h) rfl (by rfl) (fun W hS => ?_) hS ?_
                    rotate_left; (focus (first | (go_simp; done) | (go_simp; with_reducible rfl) | (go_simp; rfl))); all_goals skip; (try simp only [List.set_cons_succ, List.set_cons_zero])
                    refine D_take 2 (v := ?_) rfl (by kernel_rfl) (by kernel_rfl) (by kernel_rfl) (fun _ _ _ h => h) rfl (by rfl) (fun W hS => ?_) hS ?_
                    rotate_left; (focus (first | (go_simp; done) | (go_simp; with_reducible rfl) | (go_simp; rfl))); all_goals skip; (try simp only [List.set_cons_succ, List.set_cons_zero])
                    refine D_skip 3 rfl (by kernel_rfl) (by kernel_rfl) (by kernel_rfl) (fun _ _ _ h => h) rfl (by rfl) hS ?_; (try simp only [List.set_cons_succ, List.set_cons_zero])
                    refine D_skip 4 rfl (by kernel_rfl) (by kernel_rfl) (by kernel_rfl) (fun _ _ _ h => h) rfl (by rfl) hS ?_; (try simp only [List.set_cons_succ, List.set_cons_zero])
                    refine D_skip 5 rfl (by kernel_rfl) (by kernel_rfl) (by kernel_rfl) (fun _ _ _ h => h) rfl (by rfl) hS ?_; (try simp only [List.set_cons_succ, List.set_cons_zero])
                    refine D_skip 6 rfl (by kernel_rfl) (by kernel_rfl) (by kernel_rfl) (fun _ _ _ h => h) rfl (by rfl) hS ?_; (try simp only [List.set_cons_succ, List.set_cons_zero])
                    refine D_skip 7 rfl (by kernel_rfl) (by kernel_rfl) (by kernel_rfl) (fun _ _ _ h => h) rfl (by rfl) hS ?_; (try simp only [List.set_cons_succ, List.set_cons_zero])
                    refine D_skip 8 rfl (by kernel_rfl) (by kernel_rfl) (by kernel_rfl) (fun _ _ _ h => h) rfl (by rfl) hS ?_; (try simp only [List.set_cons_succ, List.set_cons_zero])
                    refine D_skip 9 rfl (by kernel_rfl) (by kernel_rfl) (by kernel_rfl) (fun _ _ _ h => h) rfl (by rfl) hS ?_; (try simp only [List.set_cons_succ, List.set_cons_zero])
                    refine D_skip 10 rfl (by kernel_rfl) (by kernel_rfl) (by kernel_rfl) (fun _ _ _ h => h) rfl (by rfl) hS ?_; (try simp only [List.set_cons_succ, List.set_cons_zero])
                    refine D_skip 11 rfl (by kernel_rfl) (by kernel_rfl) (by kernel_rfl) (fun _ _ _ h => h) rfl (by rfl) hS ?_; (try simp only [List.set_cons_succ, List.set_cons_zero])
                    refine D_skip 12 rfl (by kernel_rfl) (by kernel_rfl) (by kernel_rfl) (fun _ _ _ h => h) rfl (by rfl) hS ?_; (try simp only [List.set_cons_succ, List.set_cons_zero])
                    refine D_take 13 (v := ?_) rfl (by kernel_rfl) (by kernel_rfl) (by kernel_rfl) (fun _ _ _ h => h) rfl (by rfl) (fun W hS => ?_) hS ?_
                    rotate_left; (focus (first | (go_simp; done) | (go_simp; with_reducible rfl) | (go_simp; rfl))); all_goals skip; (try simp only [List.set_cons_succ, List.set_cons_zero])
                    refine D_take 14 (v := ?_) rfl (by kernel_rfl) (by kernel_rfl) (by kernel_rfl) (fun _ _ _ h => h) rfl (by rfl) (fun W hS => ?_) hS ?_
                    rotate_left; (focus (first | (go_simp; done) | (go_simp; with_reducible rfl) | (go_simp; rfl))); all_goals skip; (try simp only [List.set_cons_succ, List.set_cons_zero])
                    refine D_take 15 (v := ?_) rfl (by kernel_rfl) (by kernel_rfl) (by kernel_rfl) (fun _ _ _ h => h) rfl (by rfl) (fun W hS => ?_) hS ?_
                    rotate_left; (focus (first | (go_simp; done) | (go_simp; with_reducible rfl) | (go_simp; rfl))); all_goals skip; (try simp only [List.set_cons_succ, List.set_cons_zero])
                    refine D_take 16 (v := ?_) rfl (by kernel_rfl) (by kernel_rfl) (by kernel_rfl) (fun _ _ _ h => h) rfl (by rfl) (fun W hS => ?_) hS ?_
                    rotate_left; (focus (first | (refine R_load1 (ty := 3) (x := Operand.tmp 66) rfl hS 0 rfl rfl ?_ Try.isAgg3; rfl) | (refine R_load1 (ty := 3) (x := Operand.tmp 66) rfl hS 1 rfl rfl ?_ Try.isAgg3; rfl))); all_goals skip; (try simp only [List.set_cons_succ, List.set_cons_zero, List.getElem_toArray, List.getElem_cons_succ, List.getElem_cons_zero])
                    refine D_take 17 (v := ?_) rfl (by kernel_rfl) (by kernel_rfl) (by kernel_rfl) (fun _ _ _ h => h) rfl (by rfl) (fun W hS => ?_) hS ?_
                    rotate_left; (focus (first | (go_simp; done) | (go_simp; with_reducible rfl) | (go_simp; rfl))); all_goals skip; (try simp only [List.set_cons_succ, List.set_cons_zero])
                    refine D_take 18 (v := ?_) rfl (by kernel_rfl) (by kernel_rfl) (by kernel_rfl) (fun _ _ _ h => h) rfl (by rfl) (fun W hS => ?_) hS ?_
                    rotate_left; (focus (first | (refine R_load1 (ty := 3) (x := Operand.tmp 68) rfl hS 0 rfl rfl ?_ Try.isAgg3; rfl) | (refine R_load1 (ty := 3) (x := Operand.tmp 68) rfl hS 1 rfl rfl ?_ Try.isAgg3; rfl))); all_goals skip; (try simp only [List.set_cons_succ, List.set_cons_zero, List.getElem_toArray, List.getElem_cons_succ, List.getElem_cons_zero])
                    refine D_take 19 (v := ?_) rfl (by kernel_rfl) (by kernel_rfl) (by kernel_rfl) (fun _ _ _ h => h) rfl (by rfl) (fun W hS => ?_) hS ?_
                    rotate_left; (focus (first | (go_simp; done) | (go_simp; with_reducible rfl) | (go_simp; rfl))); all_goals skip; (try simp only [List.set_cons_succ, List.set_cons_zero])
                    refine D_take 20 (v := ?_) rfl (by kernel_rfl) (by kernel_rfl) (by kernel_rfl) (fun _ _ _ h => h) rfl (by rfl) (fun W hS => ?_) hS ?_
                    rotate_left; (focus (first | (go_simp; done) | (go_simp; with_reducible rfl) | (go_simp; rfl))); all_goals skip; (try simp only [List.set_cons_succ, List.set_cons_zero])
                    refine D_take 21 (v := ?_) rfl (by kernel_rfl) (by kernel_rfl) (by kernel_rfl) (fun _ _ _ h => h) rfl (by rfl) (fun W hS => ?_) hS ?_
                    rotate_left; (focus (first | (go_simp; done) | (go_simp; with_reducible rfl) | (go_simp; rfl))); all_goals skip; (try simp only [List.set_cons_succ, List.set_cons_zero])
                    refine D_take 22 (v := ?_) rfl (by kernel_rfl) (by kernel_rfl) (by kernel_rfl) (fun _ _ _ h => h) rfl (by rfl) (fun W hS => ?_) hS ?_
                    rotate_left; (focus (first | (go_simp; done) | (go_simp; with_reducible rfl) | (go_simp; rfl))); all_goals skip; (try simp only [List.set_cons_succ, List.set_cons_zero])
                    refine D_take 23 (v := ?_) rfl (by kernel_rfl) (by kernel_rfl) (by kernel_rfl) (fun _ _ _ h => h) rfl (by rfl) (fun W hS => ?_) hS ?_
                    rotate_left; (focus (first | (refine R_load1 (ty := 3) (x := Operand.tmp 73) rfl hS 0 rfl rfl ?_ Try.isAgg3; rfl) | (refine R_load1 (ty := 3) (x := Operand.tmp 73) rfl hS 1 rfl rfl ?_ Try.isAgg3; rfl))); all_goals skip; (try simp only [List.set_cons_succ, List.set_cons_zero, List.getElem_toArray, List.getElem_cons_succ, List.getElem_cons_zero])
                    refine D_take 24 (v := ?_) rfl (by kernel_rfl) (by kernel_rfl) (by kernel_rfl) (fun _ _ _ h => h) rfl (by rfl) (fun W hS => ?_) hS ?_
                    rotate_left; (focus (first | (go_simp; done) | (go_simp; with_reducible rfl) | (go_simp; rfl))); all_goals skip; (try simp only [List.set_cons_succ, List.set_cons_zero])
                    refine D_take 25 (v := ?_) rfl (by kernel_rfl) (by kernel_rfl) (by kernel_rfl) (fun _ _ _ h => h) rfl (by rfl) (fun W hS => ?_) hS ?_
                    rotate_left; (focus (first | (refine R_load1 (ty := 3) (x := Operand.tmp 75) rfl hS 0 rfl rfl ?_ Try.isAgg3; rfl) | (refine R_load1 (ty := 3) (x := Operand.tmp 75) rfl hS 1 rfl rfl ?_ Try.isAgg3; rfl))); all_goals skip; (try simp only [List.set_cons_succ, List.set_cons_zero, List.getElem_toArray, List.getElem_cons_succ, List.getElem_cons_zero])
                    refine D_one 26 rfl (by kernel_rfl) (by rfl) ?_
                    refine R_call (f := 29) (args := #[.int .i64 bgen, .int .i64 1, .int .i64 gen]) (by first | (go_simp; done) | (go_simp; rfl)) hwC ?_
                    rintro e w2 ⟨rfl, rfl⟩
                    refine ⟨_, rfl, hS, ?_⟩
                    try simp only [Act.put, List.getElem_toArray, List.getElem_cons_succ, List.getElem_cons_zero, List.setIfInBounds_toArray, List.set_cons_succ, List.set_cons_zero]
                    refine D_take 27 (v := ?_) rfl (by kernel_rfl) (by kernel_rfl) (by kernel_rfl) (fun _ _ _ h => h) rfl (by rfl) (fun W hS => ?_) hS ?_
                    rotate_left; (focus (first | (go_simp; done) | (go_simp; with_reducible rfl) | (go_simp; rfl))); all_goals skip; (try simp only [List.set_cons_succ, List.set_cons_zero])
                    refine D_take 28 (v := ?_) rfl (by kernel_rfl) (by kernel_rfl) (by kernel_rfl) (fun _ _ _ h => h) rfl (by rfl) (fun W hS => ?_) hS ?_
                    rotate_left; (focus (first | (go_simp; done) | (go_simp; with_reducible rfl) | (go_simp; rfl))); all_goals skip; (try simp only [List.set_cons_succ, List.set_cons_zero])
                    refine D_take 29 (v := ?_) rfl (by kernel_rfl) (by kernel_rfl) (by kernel_rfl) (fun _ _ _ h => h) rfl (by rfl) (fun W hS => ?_) hS ?_
                    rotate_left; (focus (first | (go_simp; done) | (go_simp; with_reducible rfl) | (go_simp; rfl))); all_goals skip; (try simp only [List.set_cons_succ, List.set_cons_zero])
                    refine D_take 30 (v := ?_) rfl (by kernel_rfl) (by kernel_rfl) (by kernel_rfl) (fun _ _ _ h => h) rfl (by rfl) (fun W hS => ?_) hS ?_
                    rotate_left; (focus (first | (go_simp; done) | (go_simp; with_reducible rfl) | (go_simp; rfl))); all_goals skip; (try simp only [List.set_cons_succ, List.set_cons_zero])
                    refine D_take 31 (v := ?_) rfl (by kernel_rfl) (by kernel_rfl) (by kernel_rfl) (fun _ _ _ h => h) rfl (by rfl) (fun W hS => ?_) hS ?_
                    rotate_left; (focus (first | (refine R_load1 (ty := 3) (x := Operand.tmp 81) rfl hS 0 rfl rfl ?_ Try.isAgg3; rfl) | (refine R_load1 (ty := 3) (x := Operand.tmp 81) rfl hS 1 rfl rfl ?_ Try.isAgg3; rfl))); all_goals skip; (try simp only [List.set_cons_succ, List.set_cons_zero, List.getElem_toArray, List.getElem_cons_succ, List.getElem_cons_zero])
                    refine D_one 32 rfl (by kernel_rfl) (by rfl) ?_
                    refine R_call (f := 30) (args := #[.int .i64 size]) (by first | (go_simp; done) | (go_simp; rfl)) hsD ?_
                    rintro e w2 ⟨rfl, rfl⟩
                    refine ⟨_, rfl, hS, ?_⟩
                    try simp only [Act.put, List.getElem_toArray, List.getElem_cons_succ, List.getElem_cons_zero, List.setIfInBounds_toArray, List.set_cons_succ, List.set_cons_zero]
                    refine D_take 33 (v := ?_) rfl (by kernel_rfl) (by kernel_rfl) (by kernel_rfl) (fun _ _ _ h => h) rfl (by rfl) (fun W hS => ?_) hS ?_
                    rotate_left; (focus (first | (go_simp; done) | (go_simp; with_reducible rfl) | (go_simp; rfl))); all_goals skip; (try simp only [List.set_cons_succ, List.set_cons_zero])
                    refine D_take 34 (v := ?_) rfl (by kernel_rfl) (by kernel_rfl) (by kernel_rfl) (fun _ _ _ h => h) rfl (by rfl) (fun W hS => ?_) hS ?_
                    rotate_left; (focus (first | (go_simp; done) | (go_simp; with_reducible rfl) | (go_simp; rfl))); all_goals skip; (try simp only [List.set_cons_succ, List.set_cons_zero])
                    refine D_take 35 (v := ?_) rfl (by kernel_rfl) (by kernel_rfl) (by kernel_rfl) (fun _ _ _ h => h) rfl (by rfl) (fun W hS => ?_) hS ?_
                    rotate_left; (focus (first | (go_simp; done) | (go_simp; with_reducible rfl) | (go_simp; rfl))); all_goals skip; (try simp only [List.set_cons_succ, List.set_cons_zero])
                    refine D_take 36 (v := ?_) rfl (by kernel_rfl) (by kernel_rfl) (by kernel_rfl) (fun _ _ _ h => h) rfl (by rfl) (fun W hS => ?_) hS ?_
                    rotate_left; (focus (first | (go_simp; done) | (go_simp; with_reducible rfl) | (go_simp; rfl))); all_goals skip; (try simp only [List.set_cons_succ, List.set_cons_zero])
                    refine D_take 37 (v := ?_) rfl (by kernel_rfl) (by kernel_rfl) (by kernel_rfl) (fun _ _ _ h => h) rfl (by rfl) (fun W hS => ?_) hS ?_
                    rotate_left; (focus (first | (refine R_load1 (ty := 34) (x := Operand.tmp 87) rfl hS 0 rfl rfl ?_ Try.isAgg34; rfl) | (refine R_load1 (ty := 34) (x := Operand.tmp 87) rfl hS 1 rfl rfl ?_ Try.isAgg34; rfl))); all_goals skip; (try simp only [List.set_cons_succ, List.set_cons_zero, List.getElem_toArray, List.getElem_cons_succ, List.getElem_cons_zero])
                    refine D_take 38 (v := ?_) rfl (by kernel_rfl) (by kernel_rfl) (by kernel_rfl) (fun _ _ _ h => h) rfl (by rfl) (fun W hS => ?_) hS ?_
                    rotate_left; (focus (first | (go_simp; done) | (go_simp; with_reducible rfl) | (go_simp; rfl))); all_goals skip; (try simp only [List.set_cons_succ, List.set_cons_zero])
                    refine D_take 39 (v := ?_) rfl (by kernel_rfl) (by kernel_rfl) (by kernel_rfl) (fun _ _ _ h => h) rfl (by rfl) (fun W hS => ?_) hS ?_
                    rotate_left; (focus (first | (go_simp; done) | (go_simp; with_reducible rfl) | (go_simp; rfl))); all_goals skip; (try simp only [List.set_cons_succ, List.set_cons_zero])
                    refine D_take 40 (v := ?_) rfl (by kernel_rfl) (by kernel_rfl) (by kernel_rfl) (fun _ _ _ h => h) rfl (by rfl) (fun W hS => ?_) hS ?_
                    rotate_left; (focus (first | (go_simp; done) | (go_simp; with_reducible rfl) | (go_simp; rfl))); all_goals skip; (try simp only [List.set_cons_succ, List.set_cons_zero])
                    refine wpAnyH_done (by kernel_rfl) ?_ _
                    go_wp2_with fail
                    go_meet
                    case rel => exact ⟨by rw [HOK.out]; simp [*], hS⟩
            · have hBn : next ≤ id := by omega
              refine D_start H (by kernel_rfl) (fun hS => ?_)
              try simp only [Act.put, List.setIfInBounds_toArray, List.set_cons_succ, List.set_cons_zero]
              refine D_take 0 (v := ?_) rfl (by kernel_rfl) (by kernel_rfl) (by kernel_rfl) (fun _ _ _ h => h) rfl (by rfl) (fun W hS => ?_) hS ?_
              rotate_left; (focus (first | (go_simp; done) | (go_simp; with_reducible rfl) | (go_simp; rfl))); all_goals skip; (try simp only [List.set_cons_succ, List.set_cons_zero])
              refine D_take 1 (v := ?_) rfl (by kernel_rfl) (by kernel_rfl) (by kernel_rfl) (fun _ _ _ h => h) rfl (by rfl) (fun W hS => ?_) hS ?_
              rotate_left; (focus (first | (go_simp; done) | (go_simp; with_reducible rfl) | (go_simp; rfl))); all_goals skip; (try simp only [List.set_cons_succ, List.set_cons_zero])
              refine D_take 2 (v := ?_) rfl (by kernel_rfl) (by kernel_rfl) (by kernel_rfl) (fun _ _ _ h => h) rfl (by rfl) (fun W hS => ?_) hS ?_
              rotate_left; (focus (first | (go_simp; done) | (go_simp; with_reducible rfl) | (go_simp; rfl))); all_goals skip; (try simp only [List.set_cons_succ, List.set_cons_zero])
              refine D_skip 3 rfl (by kernel_rfl) (by kernel_rfl) (by kernel_rfl) (fun _ _ _ h => h) rfl (by rfl) hS ?_; (try simp only [List.set_cons_succ, List.set_cons_zero])
              refine D_skip 4 rfl (by kernel_rfl) (by kernel_rfl) (by kernel_rfl) (fun _ _ _ h => h) rfl (by rfl) hS ?_; (try simp only [List.set_cons_succ, List.set_cons_zero])
              refine D_skip 5 rfl (by kernel_rfl) (by kernel_rfl) (by kernel_rfl) (fun _ _ _ h => h) rfl (by rfl) hS ?_; (try simp only [List.set_cons_succ, List.set_cons_zero])
              refine D_skip 6 rfl (by kernel_rfl) (by kernel_rfl) (by kernel_rfl) (fun _ _ _ h => h) rfl (by rfl) hS ?_; (try simp only [List.set_cons_succ, List.set_cons_zero])
              refine D_skip 7 rfl (by kernel_rfl) (by kernel_rfl) (by kernel_rfl) (fun _ _ _ h => h) rfl (by rfl) hS ?_; (try simp only [List.set_cons_succ, List.set_cons_zero])
              refine D_skip 8 rfl (by kernel_rfl) (by kernel_rfl) (by kernel_rfl) (fun _ _ _ h => h) rfl (by rfl) hS ?_; (try simp only [List.set_cons_succ, List.set_cons_zero])
              refine D_skip 9 rfl (by kernel_rfl) (by kernel_rfl) (by kernel_rfl) (fun _ _ _ h => h) rfl (by rfl) hS ?_; (try simp only [List.set_cons_succ, List.set_cons_zero])
              refine D_skip 10 rfl (by kernel_rfl) (by kernel_rfl) (by kernel_rfl) (fun _ _ _ h => h) rfl (by rfl) hS ?_; (try simp only [List.set_cons_succ, List.set_cons_zero])
              refine D_skip 11 rfl (by kernel_rfl) (by kernel_rfl) (by kernel_rfl) (fun _ _ _ h => h) rfl (by rfl) hS ?_; (try simp only [List.set_cons_succ, List.set_cons_zero])
              refine D_skip 12 rfl (by kernel_rfl) (by kernel_rfl) (by kernel_rfl) (fun _ _ _ h => h) rfl (by rfl) hS ?_; (try simp only [List.set_cons_succ, List.set_cons_zero])
              refine D_take 13 (v := ?_) rfl (by kernel_rfl) (by kernel_rfl) (by kernel_rfl) (fun _ _ _ h => h) rfl (by rfl) (fun W hS => ?_) hS ?_
              rotate_left; (focus (first | (go_simp; done) | (go_simp; with_reducible rfl) | (go_simp; rfl))); all_goals skip; (try simp only [List.set_cons_succ, List.set_cons_zero])
              refine D_take 14 (v := ?_) rfl (by kernel_rfl) (by kernel_rfl) (by kernel_rfl) (fun _ _ _ h => h) rfl (by rfl) (fun W hS => ?_) hS ?_
              rotate_left; (focus (first | (go_simp; done) | (go_simp; with_reducible rfl) | (go_simp; rfl))); all_goals skip; (try simp only [List.set_cons_succ, List.set_cons_zero])
              refine D_take 15 (v := ?_) rfl (by kernel_rfl) (by kernel_rfl) (by kernel_rfl) (fun _ _ _ h => h) rfl (by rfl) (fun W hS => ?_) hS ?_
              rotate_left; (focus (first | (go_simp; done) | (go_simp; with_reducible rfl) | (go_simp; rfl))); all_goals skip; (try simp only [List.set_cons_succ, List.set_cons_zero])
              refine D_take 16 (v := ?_) rfl (by kernel_rfl) (by kernel_rfl) (by kernel_rfl) (fun _ _ _ h => h) rfl (by rfl) (fun W hS => ?_) hS ?_
              rotate_left; (focus (first | (refine R_load1 (ty := 3) (x := Operand.tmp 66) rfl hS 0 rfl rfl ?_ Try.isAgg3; rfl) | (refine R_load1 (ty := 3) (x := Operand.tmp 66) rfl hS 1 rfl rfl ?_ Try.isAgg3; rfl))); all_goals skip; (try simp only [List.set_cons_succ, List.set_cons_zero, List.getElem_toArray, List.getElem_cons_succ, List.getElem_cons_zero])
              refine D_take 17 (v := ?_) rfl (by kernel_rfl) (by kernel_rfl) (by kernel_rfl) (fun _ _ _ h => h) rfl (by rfl) (fun W hS => ?_) hS ?_
              rotate_left; (focus (first | (go_simp; done) | (go_simp; with_reducible rfl) | (go_simp; rfl))); all_goals skip; (try simp only [List.set_cons_succ, List.set_cons_zero])
              refine D_take 18 (v := ?_) rfl (by kernel_rfl) (by kernel_rfl) (by kernel_rfl) (fun _ _ _ h => h) rfl (by rfl) (fun W hS => ?_) hS ?_
              rotate_left; (focus (first | (refine R_load1 (ty := 3) (x := Operand.tmp 68) rfl hS 0 rfl rfl ?_ Try.isAgg3; rfl) | (refine R_load1 (ty := 3) (x := Operand.tmp 68) rfl hS 1 rfl rfl ?_ Try.isAgg3; rfl))); all_goals skip; (try simp only [List.set_cons_succ, List.set_cons_zero, List.getElem_toArray, List.getElem_cons_succ, List.getElem_cons_zero])
              refine D_take 19 (v := ?_) rfl (by kernel_rfl) (by kernel_rfl) (by kernel_rfl) (fun _ _ _ h => h) rfl (by rfl) (fun W hS => ?_) hS ?_
              rotate_left; (focus (first | (go_simp; done) | (go_simp; with_reducible rfl) | (go_simp; rfl))); all_goals skip; (try simp only [List.set_cons_succ, List.set_cons_zero])
              refine D_take 20 (v := ?_) rfl (by kernel_rfl) (by kernel_rfl) (by kernel_rfl) (fun _ _ _ h => h) rfl (by rfl) (fun W hS => ?_) hS ?_
              rotate_left; (focus (first | (go_simp; done) | (go_simp; with_reducible rfl) | (go_simp; rfl))); all_goals skip; (try simp only [List.set_cons_succ, List.set_cons_zero])
              refine D_take 21 (v := ?_) rfl (by kernel_rfl) (by kernel_rfl) (by kernel_rfl) (fun _ _ _ h => h) rfl (by rfl) (fun W hS => ?_) hS ?_
              rotate_left; (focus (first | (go_simp; done) | (go_simp; with_reducible rfl) | (go_simp; rfl))); all_goals skip; (try simp only [List.set_cons_succ, List.set_cons_zero])
              refine D_skip 22 rfl (by kernel_rfl) (by kernel_rfl) (by kernel_rfl) (fun _ _ _ h => h) rfl (by rfl) hS ?_; (try simp only [List.set_cons_succ, List.set_cons_zero])
              refine D_skip 23 rfl (by kernel_rfl) (by kernel_rfl) (by kernel_rfl) (fun _ _ _ h => h) rfl (by rfl) hS ?_; (try simp only [List.set_cons_succ, List.set_cons_zero])
              refine D_skip 24 rfl (by kernel_rfl) (by kernel_rfl) (by kernel_rfl) (fun _ _ _ h => h) rfl (by rfl) hS ?_; (try simp only [List.set_cons_succ, List.set_cons_zero])
              refine D_skip 25 rfl (by kernel_rfl) (by kernel_rfl) (by kernel_rfl) (fun _ _ _ h => h) rfl (by rfl) hS ?_; (try simp only [List.set_cons_succ, List.set_cons_zero])
              refine D_skip 26 rfl (by kernel_rfl) (by kernel_rfl) (by kernel_rfl) (fun _ _ _ h => h) rfl (by rfl) hS ?_; (try simp only [List.set_cons_succ, List.set_cons_zero])
              refine D_skip 27 rfl (by kernel_rfl) (by kernel_rfl) (by kernel_rfl) (fun _ _ _ h => h) rfl (by rfl) hS ?_; (try simp only [List.set_cons_succ, List.set_cons_zero])
              refine D_take 28 (v := ?_) rfl (by kernel_rfl) (by kernel_rfl) (by kernel_rfl) (fun _ _ _ h => h) rfl (by rfl) (fun W hS => ?_) hS ?_
              rotate_left; (focus (first | (go_simp; done) | (go_simp; with_reducible rfl) | (go_simp; rfl))); all_goals skip; (try simp only [List.set_cons_succ, List.set_cons_zero])
              refine D_take 29 (v := ?_) rfl (by kernel_rfl) (by kernel_rfl) (by kernel_rfl) (fun _ _ _ h => h) rfl (by rfl) (fun W hS => ?_) hS ?_
              rotate_left; (focus (first | (go_simp; done) | (go_simp; with_reducible rfl) | (go_simp; rfl))); all_goals skip; (try simp only [List.set_cons_succ, List.set_cons_zero])
              refine D_skip 30 rfl (by kernel_rfl) (by kernel_rfl) (by kernel_rfl) (fun _ _ _ h => h) rfl (by rfl) hS ?_; (try simp only [List.set_cons_succ, List.set_cons_zero])
              refine D_skip 31 rfl (by kernel_rfl) (by kernel_rfl) (by kernel_rfl) (fun _ _ _ h => h) rfl (by rfl) hS ?_; (try simp only [List.set_cons_succ, List.set_cons_zero])
              refine D_skip 32 rfl (by kernel_rfl) (by kernel_rfl) (by kernel_rfl) (fun _ _ _ h => h) rfl (by rfl) hS ?_; (try simp only [List.set_cons_succ, List.set_cons_zero])
              refine D_skip 33 rfl (by kernel_rfl) (by kernel_rfl) (by kernel_rfl) (fun _ _ _ h => h) rfl (by rfl) hS ?_; (try simp only [List.set_cons_succ, List.set_cons_zero])
              refine D_take 34 (v := ?_) rfl (by kernel_rfl) (by kernel_rfl) (by kernel_rfl) (fun _ _ _ h => h) rfl (by rfl) (fun W hS => ?_) hS ?_
              rotate_left; (focus (first | (go_simp; done) | (go_simp; with_reducible rfl) | (go_simp; rfl))); all_goals skip; (try simp only [List.set_cons_succ, List.set_cons_zero])
              refine D_take 35 (v := ?_) rfl (by kernel_rfl) (by kernel_rfl) (by kernel_rfl) (fun _ _ _ h => h) rfl (by rfl) (fun W hS => ?_) hS ?_
              rotate_left; (focus (first | (go_simp; done) | (go_simp; with_reducible rfl) | (go_simp; rfl))); all_goals skip; (try simp only [List.set_cons_succ, List.set_cons_zero])
              refine D_skip 36 rfl (by kernel_rfl) (by kernel_rfl) (by kernel_rfl) (fun _ _ _ h => h) rfl (by rfl) hS ?_; (try simp only [List.set_cons_succ, List.set_cons_zero])
              refine D_skip 37 rfl (by kernel_rfl) (by kernel_rfl) (by kernel_rfl) (fun _ _ _ h => h) rfl (by rfl) hS ?_; (try simp only [List.set_cons_succ, List.set_cons_zero])
              refine D_skip 38 rfl (by kernel_rfl) (by kernel_rfl) (by kernel_rfl) (fun _ _ _ h => h) rfl (by rfl) hS ?_; (try simp only [List.set_cons_succ, List.set_cons_zero])
              refine D_skip 39 rfl (by kernel_rfl) (by kernel_rfl) (by kernel_rfl) (fun _ _ _ h => h) rfl (by rfl) hS ?_; (try simp only [List.set_cons_succ, List.set_cons_zero])
              refine D_take 40 (v := ?_) rfl (by kernel_rfl) (by kernel_rfl) (by kernel_rfl) (fun _ _ _ h => h) rfl (by rfl) (fun W hS => ?_) hS ?_
              rotate_left; (focus (first | (go_simp; done) | (go_simp; with_reducible rfl) | (go_simp; rfl))); all_goals skip; (try simp only [List.set_cons_succ, List.set_cons_zero])
              refine wpAnyH_done (by kernel_rfl) ?_ _
              go_wp2_with fail
              go_meet
              case rel => exact ⟨by rw [HOK.out]; simp [*], hS⟩
          · obtain ⟨m, rfl⟩ : ∃ m, k = m + 1 := ⟨k - 1, by omega⟩
            have hkn0 : (0 : Int) < ((m + 1 : Nat) : Int) := by omega
            have hm1 : (m : Int) < (ps.length : Int) := by omega
            have hwm : IntKind.i64.wrap (m : Int) = (m : Int) := by rw [IntKind.wrap_i64]; omega
            obtain ⟨c, hc, hpid⟩ := HPID.out m rfl
            have hcAv := HCA.out m rfl c hc
            generalize c.id = pid at *
            subst hcAv
            clear HCA HPID hc
            by_cases hAid : pid < id
            · have hAn : ¬ id ≤ pid := by omega
              by_cases hB : id < next
              · have hBn : ¬ next ≤ id := by omega
                cases cC
                · skip
                  refine D_start H (by kernel_rfl) (fun hS => ?_)
                  try simp only [Act.put, List.setIfInBounds_toArray, List.set_cons_succ, List.set_cons_zero]
                  refine D_take 0 (v := ?_) rfl (by kernel_rfl) (by kernel_rfl) (by kernel_rfl) (fun _ _ _ h => h) rfl (by rfl) (fun W hS => ?_) hS ?_
                  rotate_left; (focus (first | (go_simp; done) | (go_simp; with_reducible rfl) | (go_simp; rfl))); all_goals skip; (try simp only [List.set_cons_succ, List.set_cons_zero])
                  refine D_take 1 (v := ?_) rfl (by kernel_rfl) (by kernel_rfl) (by kernel_rfl) (fun _ _ _ h => h) rfl (by rfl) (fun W hS => ?_) hS ?_
                  rotate_left; (focus (first | (go_simp; done) | (go_simp; with_reducible rfl) | (go_simp; rfl))); all_goals skip; (try simp only [List.set_cons_succ, List.set_cons_zero])
                  refine D_take 2 (v := ?_) rfl (by kernel_rfl) (by kernel_rfl) (by kernel_rfl) (fun _ _ _ h => h) rfl (by rfl) (fun W hS => ?_) hS ?_
                  rotate_left; (focus (first | (go_simp; done) | (go_simp; with_reducible rfl) | (go_simp; rfl))); all_goals skip; (try simp only [List.set_cons_succ, List.set_cons_zero])
                  refine D_take 3 (v := ?_) rfl (by kernel_rfl) (by kernel_rfl) (by kernel_rfl) (fun _ _ _ h => h) rfl (by rfl) (fun W hS => ?_) hS ?_
                  rotate_left; (focus (first | (go_simp; done) | (go_simp; with_reducible rfl) | (go_simp; rfl))); all_goals skip; (try simp only [List.set_cons_succ, List.set_cons_zero])
                  refine D_take 4 (v := ?_) rfl (by kernel_rfl) (by kernel_rfl) (by kernel_rfl) (fun _ _ _ h => h) rfl (by rfl) (fun W hS => ?_) hS ?_
                  rotate_left; (focus (first | (refine R_load1 (ty := 22) (x := Operand.tmp 54) rfl hS 0 rfl rfl ?_ Try.isAgg22; rfl) | (refine R_load1 (ty := 22) (x := Operand.tmp 54) rfl hS 1 rfl rfl ?_ Try.isAgg22; rfl))); all_goals skip; (try simp only [List.set_cons_succ, List.set_cons_zero, List.getElem_toArray, List.getElem_cons_succ, List.getElem_cons_zero])
                  refine D_take 5 (v := ?_) rfl (by kernel_rfl) (by kernel_rfl) (by kernel_rfl) (fun _ _ _ h => h) rfl (by rfl) (fun W hS => ?_) hS ?_
                  rotate_left; (focus (first | (go_simp; done) | (go_simp; with_reducible rfl) | (go_simp; rfl))); all_goals skip; (try simp only [List.set_cons_succ, List.set_cons_zero])
                  refine D_take 6 (v := ?_) rfl (by kernel_rfl) (by kernel_rfl) (by kernel_rfl) (fun _ _ _ h => h) rfl (by rfl) (fun W hS => ?_) hS ?_
                  rotate_left; (focus (first | (go_simp; done) | (go_simp; with_reducible rfl) | (go_simp; rfl))); all_goals skip; (try simp only [List.set_cons_succ, List.set_cons_zero])
                  refine D_take 7 (v := ?_) rfl (by kernel_rfl) (by kernel_rfl) (by kernel_rfl) (fun _ _ _ h => h) rfl (by rfl) (fun W hS => ?_) hS ?_
                  rotate_left; (focus (first | (go_simp; done) | (go_simp; with_reducible rfl) | (go_simp; rfl))); all_goals skip; (try simp only [List.set_cons_succ, List.set_cons_zero])
                  refine D_take 8 (v := ?_) rfl (by kernel_rfl) (by kernel_rfl) (by kernel_rfl) (fun _ _ _ h => h) rfl (by rfl) (fun W hS => ?_) hS ?_
                  rotate_left; (focus (first | (go_simp; done) | (go_simp; with_reducible rfl) | (go_simp; rfl))); all_goals skip; (try simp only [List.set_cons_succ, List.set_cons_zero])
                  refine D_take 9 (v := (.int .i64 pid)) rfl (by kernel_rfl) (by kernel_rfl) (by kernel_rfl) (fun _ _ _ h => h) rfl (by rfl) (fun W hS => R_load1r (ty := 3) (x := .tmp 59) (off := off + m * 6) rfl hS rfl hbb (fun e => e) hpid Try.isAgg3) hS ?_; (try simp only [List.set_cons_succ, List.set_cons_zero])
                  refine D_take 10 (v := ?_) rfl (by kernel_rfl) (by kernel_rfl) (by kernel_rfl) (fun _ _ _ h => h) rfl (by rfl) (fun W hS => ?_) hS ?_
                  rotate_left; (focus (first | (go_simp; done) | (go_simp; with_reducible rfl) | (go_simp; rfl))); all_goals skip; (try simp only [List.set_cons_succ, List.set_cons_zero])
                  refine D_take 11 (v := ?_) rfl (by kernel_rfl) (by kernel_rfl) (by kernel_rfl) (fun _ _ _ h => h) rfl (by rfl) (fun W hS => ?_) hS ?_
                  rotate_left; (focus (first | (refine R_load1 (ty := 3) (x := Operand.tmp 61) rfl hS 0 rfl rfl ?_ Try.isAgg3; rfl) | (refine R_load1 (ty := 3) (x := Operand.tmp 61) rfl hS 1 rfl rfl ?_ Try.isAgg3; rfl))); all_goals skip; (try simp only [List.set_cons_succ, List.set_cons_zero, List.getElem_toArray, List.getElem_cons_succ, List.getElem_cons_zero])
                  refine D_take 12 (v := ?_) rfl (by kernel_rfl) (by kernel_rfl) (by kernel_rfl) (fun _ _ _ h => h) rfl (by rfl) (fun W hS => ?_) hS ?_
                  rotate_left; (focus (first | (go_simp; done) | (go_simp; with_reducible rfl) | (go_simp; rfl))); all_goals skip; (try simp only [List.set_cons_succ, List.set_cons_zero])
                  refine D_take 13 (v := ?_) rfl (by kernel_rfl) (by kernel_rfl) (by kernel_rfl) (fun _ _ _ h => h) rfl (by rfl) (fun W hS => ?_) hS ?_
                  rotate_left; (focus (first | (go_simp; done) | (go_simp; with_reducible rfl) | (go_simp; rfl))); all_goals skip; (try simp only [List.set_cons_succ, List.set_cons_zero])
                  refine D_take 14 (v := ?_) rfl (by kernel_rfl) (by kernel_rfl) (by kernel_rfl) (fun _ _ _ h => h) rfl (by rfl) (fun W hS => ?_) hS ?_
                  rotate_left; (focus (first | (go_simp; done) | (go_simp; with_reducible rfl) | (go_simp; rfl))); all_goals skip; (try simp only [List.set_cons_succ, List.set_cons_zero])
                  refine D_take 15 (v := ?_) rfl (by kernel_rfl) (by kernel_rfl) (by kernel_rfl) (fun _ _ _ h => h) rfl (by rfl) (fun W hS => ?_) hS ?_
                  rotate_left; (focus (first | (go_simp; done) | (go_simp; with_reducible rfl) | (go_simp; rfl))); all_goals skip; (try simp only [List.set_cons_succ, List.set_cons_zero])
                  refine D_take 16 (v := ?_) rfl (by kernel_rfl) (by kernel_rfl) (by kernel_rfl) (fun _ _ _ h => h) rfl (by rfl) (fun W hS => ?_) hS ?_
                  rotate_left; (focus (first | (refine R_load1 (ty := 3) (x := Operand.tmp 66) rfl hS 0 rfl rfl ?_ Try.isAgg3; rfl) | (refine R_load1 (ty := 3) (x := Operand.tmp 66) rfl hS 1 rfl rfl ?_ Try.isAgg3; rfl))); all_goals skip; (try simp only [List.set_cons_succ, List.set_cons_zero, List.getElem_toArray, List.getElem_cons_succ, List.getElem_cons_zero])
                  refine D_take 17 (v := ?_) rfl (by kernel_rfl) (by kernel_rfl) (by kernel_rfl) (fun _ _ _ h => h) rfl (by rfl) (fun W hS => ?_) hS ?_
                  rotate_left; (focus (first | (go_simp; done) | (go_simp; with_reducible rfl) | (go_simp; rfl))); all_goals skip; (try simp only [List.set_cons_succ, List.set_cons_zero])
                  refine D_take 18 (v := ?_) rfl (by kernel_rfl) (by kernel_rfl) (by kernel_rfl) (fun _ _ _ h => h) rfl (by rfl) (fun W hS => ?_) hS ?_
                  rotate_left; (focus (first | (refine R_load1 (ty := 3) (x := Operand.tmp 68) rfl hS 0 rfl rfl ?_ Try.isAgg3; rfl) | (refine R_load1 (ty := 3) (x := Operand.tmp 68) rfl hS 1 rfl rfl ?_ Try.isAgg3; rfl))); all_goals skip; (try simp only [List.set_cons_succ, List.set_cons_zero, List.getElem_toArray, List.getElem_cons_succ, List.getElem_cons_zero])
                  refine D_take 19 (v := ?_) rfl (by kernel_rfl) (by kernel_rfl) (by kernel_rfl) (fun _ _ _ h => h) rfl (by rfl) (fun W hS => ?_) hS ?_
                  rotate_left; (focus (first | (go_simp; done) | (go_simp; with_reducible rfl) | (go_simp; rfl))); all_goals skip; (try simp only [List.set_cons_succ, List.set_cons_zero])
                  refine D_take 20 (v := ?_) rfl (by kernel_rfl) (by kernel_rfl) (by kernel_rfl) (fun _ _ _ h => h) rfl (by rfl) (fun W hS => ?_) hS ?_
                  rotate_left; (focus (first | (go_simp; done) | (go_simp; with_reducible rfl) | (go_simp; rfl))); all_goals skip; (try simp only [List.set_cons_succ, List.set_cons_zero])
                  refine D_take 21 (v := ?_) rfl (by kernel_rfl) (by kernel_rfl) (by kernel_rfl) (fun _ _ _ h => h) rfl (by rfl) (fun W hS => ?_) hS ?_
                  rotate_left; (focus (first | (go_simp; done) | (go_simp; with_reducible rfl) | (go_simp; rfl))); all_goals skip; (try simp only [List.set_cons_succ, List.set_cons_zero])
                  refine D_take 22 (v := ?_) rfl (by kernel_rfl) (by kernel_rfl) (by kernel_rfl) (fun _ _ _ h => h) rfl (by rfl) (fun W hS => ?_) hS ?_
                  rotate_left; (focus (first | (go_simp; done) | (go_simp; with_reducible rfl) | (go_simp; rfl))); all_goals skip; (try simp only [List.set_cons_succ, List.set_cons_zero])
                  refine D_take 23 (v := ?_) rfl (by kernel_rfl) (by kernel_rfl) (by kernel_rfl) (fun _ _ _ h => h) rfl (by rfl) (fun W hS => ?_) hS ?_
                  rotate_left; (focus (first | (refine R_load1 (ty := 3) (x := Operand.tmp 73) rfl hS 0 rfl rfl ?_ Try.isAgg3; rfl) | (refine R_load1 (ty := 3) (x := Operand.tmp 73) rfl hS 1 rfl rfl ?_ Try.isAgg3; rfl))); all_goals skip; (try simp only [List.set_cons_succ, List.set_cons_zero, List.getElem_toArray, List.getElem_cons_succ, List.getElem_cons_zero])
                  refine D_take 24 (v := ?_) rfl (by kernel_rfl) (by kernel_rfl) (by kernel_rfl) (fun _ _ _ h => h) rfl (by rfl) (fun W hS => ?_) hS ?_
                  rotate_left; (focus (first | (go_simp; done) | (go_simp; with_reducible rfl) | (go_simp; rfl))); all_goals skip; (try simp only [List.set_cons_succ, List.set_cons_zero])
                  refine D_take 25 (v := ?_) rfl (by kernel_rfl) (by kernel_rfl) (by kernel_rfl) (fun _ _ _ h => h) rfl (by rfl) (fun W hS => ?_) hS ?_
                  rotate_left; (focus (first | (refine R_load1 (ty := 3) (x := Operand.tmp 75) rfl hS 0 rfl rfl ?_ Try.isAgg3; rfl) | (refine R_load1 (ty := 3) (x := Operand.tmp 75) rfl hS 1 rfl rfl ?_ Try.isAgg3; rfl))); all_goals skip; (try simp only [List.set_cons_succ, List.set_cons_zero, List.getElem_toArray, List.getElem_cons_succ, List.getElem_cons_zero])
                  refine D_one 26 rfl (by kernel_rfl) (by rfl) ?_
                  refine R_call (f := 29) (args := #[.int .i64 bgen, .int .i64 1, .int .i64 gen]) (by first | (go_simp; done) | (go_simp; rfl)) hwC ?_
                  rintro e w2 ⟨rfl, rfl⟩
                  refine ⟨_, rfl, hS, ?_⟩
                  try simp only [Act.put, List.getElem_toArray, List.getElem_cons_succ, List.getElem_cons_zero, List.setIfInBounds_toArray, List.set_cons_succ, List.set_cons_zero]
                  refine D_take 27 (v := ?_) rfl (by kernel_rfl) (by kernel_rfl) (by kernel_rfl) (fun _ _ _ h => h) rfl (by rfl) (fun W hS => ?_) hS ?_
                  rotate_left; (focus (first | (go_simp; done) | (go_simp; with_reducible rfl) | (go_simp; rfl))); all_goals skip; (try simp only [List.set_cons_succ, List.set_cons_zero])
                  refine D_take 28 (v := ?_) rfl (by kernel_rfl) (by kernel_rfl) (by kernel_rfl) (fun _ _ _ h => h) rfl (by rfl) (fun W hS => ?_) hS ?_
                  rotate_left; (focus (first | (go_simp; done) | (go_simp; with_reducible rfl) | (go_simp; rfl))); all_goals skip; (try simp only [List.set_cons_succ, List.set_cons_zero])
                  refine D_take 29 (v := ?_) rfl (by kernel_rfl) (by kernel_rfl) (by kernel_rfl) (fun _ _ _ h => h) rfl (by rfl) (fun W hS => ?_) hS ?_
                  rotate_left; (focus (first | (go_simp; done) | (go_simp; with_reducible rfl) | (go_simp; rfl))); all_goals skip; (try simp only [List.set_cons_succ, List.set_cons_zero])
                  refine D_skip 30 rfl (by kernel_rfl) (by kernel_rfl) (by kernel_rfl) (fun _ _ _ h => h) rfl (by rfl) hS ?_; (try simp only [List.set_cons_succ, List.set_cons_zero])
                  refine D_skip 31 rfl (by kernel_rfl) (by kernel_rfl) (by kernel_rfl) (fun _ _ _ h => h) rfl (by rfl) hS ?_; (try simp only [List.set_cons_succ, List.set_cons_zero])
                  refine D_skip 32 rfl (by kernel_rfl) (by kernel_rfl) (by kernel_rfl) (fun _ _ _ h => h) rfl (by rfl) hS ?_; (try simp only [List.set_cons_succ, List.set_cons_zero])
                  refine D_skip 33 rfl (by kernel_rfl) (by kernel_rfl) (by kernel_rfl) (fun _ _ _ h => h) rfl (by rfl) hS ?_; (try simp only [List.set_cons_succ, List.set_cons_zero])
                  refine D_take 34 (v := ?_) rfl (by kernel_rfl) (by kernel_rfl) (by kernel_rfl) (fun _ _ _ h => h) rfl (by rfl) (fun W hS => ?_) hS ?_
                  rotate_left; (focus (first | (go_simp; done) | (go_simp; with_reducible rfl) | (go_simp; rfl))); all_goals skip; (try simp only [List.set_cons_succ, List.set_cons_zero])
                  refine D_take 35 (v := ?_) rfl (by kernel_rfl) (by kernel_rfl) (by kernel_rfl) (fun _ _ _ h => h) rfl (by rfl) (fun W hS => ?_) hS ?_
                  rotate_left; (focus (first | (go_simp; done) | (go_simp; with_reducible rfl) | (go_simp; rfl))); all_goals skip; (try simp only [List.set_cons_succ, List.set_cons_zero])
                  refine D_skip 36 rfl (by kernel_rfl) (by kernel_rfl) (by kernel_rfl) (fun _ _ _ h => h) rfl (by rfl) hS ?_; (try simp only [List.set_cons_succ, List.set_cons_zero])
                  refine D_skip 37 rfl (by kernel_rfl) (by kernel_rfl) (by kernel_rfl) (fun _ _ _ h => h) rfl (by rfl) hS ?_; (try simp only [List.set_cons_succ, List.set_cons_zero])
                  refine D_skip 38 rfl (by kernel_rfl) (by kernel_rfl) (by kernel_rfl) (fun _ _ _ h => h) rfl (by rfl) hS ?_; (try simp only [List.set_cons_succ, List.set_cons_zero])
                  refine D_skip 39 rfl (by kernel_rfl) (by kernel_rfl) (by kernel_rfl) (fun _ _ _ h => h) rfl (by rfl) hS ?_; (try simp only [List.set_cons_succ, List.set_cons_zero])
                  refine D_take 40 (v := ?_) rfl (by kernel_rfl) (by kernel_rfl) (by kernel_rfl) (fun _ _ _ h => h) rfl (by rfl) (fun W hS => ?_) hS ?_
                  rotate_left; (focus (first | (go_simp; done) | (go_simp; with_reducible rfl) | (go_simp; rfl))); all_goals skip; (try simp only [List.set_cons_succ, List.set_cons_zero])
                  refine wpAnyH_done (by kernel_rfl) ?_ _
                  go_wp2_with fail
                  go_meet
                  case rel => exact ⟨by rw [HOK.out]; simp [*], hS⟩
                · cases cD
                  · skip
                    refine D_start H (by kernel_rfl) (fun hS => ?_)
                    try simp only [Act.put, List.setIfInBounds_toArray, List.set_cons_succ, List.set_cons_zero]
                    refine D_take 0 (v := ?_) rfl (by kernel_rfl) (by kernel_rfl) (by kernel_rfl) (fun _ _ _ h => h) rfl (by rfl) (fun W hS => ?_) hS ?_
                    rotate_left; (focus (first | (go_simp; done) | (go_simp; with_reducible rfl) | (go_simp; rfl))); all_goals skip; (try simp only [List.set_cons_succ, List.set_cons_zero])
                    refine D_take 1 (v := ?_) rfl (by kernel_rfl) (by kernel_rfl) (by kernel_rfl) (fun _ _ _ h => h) rfl (by rfl) (fun W hS => ?_) hS ?_
                    rotate_left; (focus (first | (go_simp; done) | (go_simp; with_reducible rfl) | (go_simp; rfl))); all_goals skip; (try simp only [List.set_cons_succ, List.set_cons_zero])
                    refine D_take 2 (v := ?_) rfl (by kernel_rfl) (by kernel_rfl) (by kernel_rfl) (fun _ _ _ h => h) rfl (by rfl) (fun W hS => ?_) hS ?_
                    rotate_left; (focus (first | (go_simp; done) | (go_simp; with_reducible rfl) | (go_simp; rfl))); all_goals skip; (try simp only [List.set_cons_succ, List.set_cons_zero])
                    refine D_take 3 (v := ?_) rfl (by kernel_rfl) (by kernel_rfl) (by kernel_rfl) (fun _ _ _ h => h) rfl (by rfl) (fun W hS => ?_) hS ?_
                    rotate_left; (focus (first | (go_simp; done) | (go_simp; with_reducible rfl) | (go_simp; rfl))); all_goals skip; (try simp only [List.set_cons_succ, List.set_cons_zero])
                    refine D_take 4 (v := ?_) rfl (by kernel_rfl) (by kernel_rfl) (by kernel_rfl) (fun _ _ _ h => h) rfl (by rfl) (fun W hS => ?_) hS ?_
                    rotate_left; (focus (first | (refine R_load1 (ty := 22) (x := Operand.tmp 54) rfl hS 0 rfl rfl ?_ Try.isAgg22; rfl) | (refine R_load1 (ty := 22) (x := Operand.tmp 54) rfl hS 1 rfl rfl ?_ Try.isAgg22; rfl))); all_goals skip; (try simp only [List.set_cons_succ, List.set_cons_zero, List.getElem_toArray, List.getElem_cons_succ, List.getElem_cons_zero])
                    refine D_take 5 (v := ?_) rfl (by kernel_rfl) (by kernel_rfl) (by kernel_rfl) (fun _ _ _ h => h) rfl (by rfl) (fun W hS => ?_) hS ?_
                    rotate_left; (focus (first | (go_simp; done) | (go_simp; with_reducible rfl) | (go_simp; rfl))); all_goals skip; (try simp only [List.set_cons_succ, List.set_cons_zero])
                    refine D_take 6 (v := ?_) rfl (by kernel_rfl) (by kernel_rfl) (by kernel_rfl) (fun _ _ _ h => h) rfl (by rfl) (fun W hS => ?_) hS ?_
                    rotate_left; (focus (first | (go_simp; done) | (go_simp; with_reducible rfl) | (go_simp; rfl))); all_goals skip; (try simp only [List.set_cons_succ, List.set_cons_zero])
                    refine D_take 7 (v := ?_) rfl (by kernel_rfl) (by kernel_rfl) (by kernel_rfl) (fun _ _ _ h => h) rfl (by rfl) (fun W hS => ?_) hS ?_
                    rotate_left; (focus (first | (go_simp; done) | (go_simp; with_reducible rfl) | (go_simp; rfl))); all_goals skip; (try simp only [List.set_cons_succ, List.set_cons_zero])
                    refine D_take 8 (v := ?_) rfl (by kernel_rfl) (by kernel_rfl) (by kernel_rfl) (fun _ _ _ h => h) rfl (by rfl) (fun W hS => ?_) hS ?_
                    rotate_left; (focus (first | (go_simp; done) | (go_simp; with_reducible rfl) | (go_simp; rfl))); all_goals skip; (try simp only [List.set_cons_succ, List.set_cons_zero])
                    refine D_take 9 (v := (.int .i64 pid)) rfl (by kernel_rfl) (by kernel_rfl) (by kernel_rfl) (fun _ _ _ h => h) rfl (by rfl) (fun W hS => R_load1r (ty := 3) (x := .tmp 59) (off := off + m * 6) rfl hS rfl hbb (fun e => e) hpid Try.isAgg3) hS ?_; (try simp only [List.set_cons_succ, List.set_cons_zero])
                    refine D_take 10 (v := ?_) rfl (by kernel_rfl) (by kernel_rfl) (by kernel_rfl) (fun _ _ _ h => h) rfl (by rfl) (fun W hS => ?_) hS ?_
                    rotate_left; (focus (first | (go_simp; done) | (go_simp; with_reducible rfl) | (go_simp; rfl))); all_goals skip; (try simp only [List.set_cons_succ, List.set_cons_zero])
                    refine D_take 11 (v := ?_) rfl (by kernel_rfl) (by kernel_rfl) (by kernel_rfl) (fun _ _ _ h => h) rfl (by rfl) (fun W hS => ?_) hS ?_
                    rotate_left; (focus (first | (refine R_load1 (ty := 3) (x := Operand.tmp 61) rfl hS 0 rfl rfl ?_ Try.isAgg3; rfl) | (refine R_load1 (ty := 3) (x := Operand.tmp 61) rfl hS 1 rfl rfl ?_ Try.isAgg3; rfl))); all_goals skip; (try simp only [List.set_cons_succ, List.set_cons_zero, List.getElem_toArray, List.getElem_cons_succ, List.getElem_cons_zero])
                    refine D_take 12 (v := ?_) rfl (by kernel_rfl) (by kernel_rfl) (by kernel_rfl) (fun _ _ _ h => h) rfl (by rfl) (fun W hS => ?_) hS ?_
                    rotate_left; (focus (first | (go_simp; done) | (go_simp; with_reducible rfl) | (go_simp; rfl))); all_goals skip; (try simp only [List.set_cons_succ, List.set_cons_zero])
                    refine D_take 13 (v := ?_) rfl (by kernel_rfl) (by kernel_rfl) (by kernel_rfl) (fun _ _ _ h => h) rfl (by rfl) (fun W hS => ?_) hS ?_
                    rotate_left; (focus (first | (go_simp; done) | (go_simp; with_reducible rfl) | (go_simp; rfl))); all_goals skip; (try simp only [List.set_cons_succ, List.set_cons_zero])
                    refine D_take 14 (v := ?_) rfl (by kernel_rfl) (by kernel_rfl) (by kernel_rfl) (fun _ _ _ h => h) rfl (by rfl) (fun W hS => ?_) hS ?_
                    rotate_left; (focus (first | (go_simp; done) | (go_simp; with_reducible rfl) | (go_simp; rfl))); all_goals skip; (try simp only [List.set_cons_succ, List.set_cons_zero])
                    refine D_take 15 (v := ?_) rfl (by kernel_rfl) (by kernel_rfl) (by kernel_rfl) (fun _ _ _ h => h) rfl (by rfl) (fun W hS => ?_) hS ?_
                    rotate_left; (focus (first | (go_simp; done) | (go_simp; with_reducible rfl) | (go_simp; rfl))); all_goals skip; (try simp only [List.set_cons_succ, List.set_cons_zero])
                    refine D_take 16 (v := ?_) rfl (by kernel_rfl) (by kernel_rfl) (by kernel_rfl) (fun _ _ _ h => h) rfl (by rfl) (fun W hS => ?_) hS ?_
                    rotate_left; (focus (first | (refine R_load1 (ty := 3) (x := Operand.tmp 66) rfl hS 0 rfl rfl ?_ Try.isAgg3; rfl) | (refine R_load1 (ty := 3) (x := Operand.tmp 66) rfl hS 1 rfl rfl ?_ Try.isAgg3; rfl))); all_goals skip; (try simp only [List.set_cons_succ, List.set_cons_zero, List.getElem_toArray, List.getElem_cons_succ, List.getElem_cons_zero])
                    refine D_take 17 (v := ?_) rfl (by kernel_rfl) (by kernel_rfl) (by kernel_rfl) (fun _ _ _ h => h) rfl (by rfl) (fun W hS => ?_) hS ?_
                    rotate_left; (focus (first | (go_simp; done) | (go_simp; with_reducible rfl) | (go_simp; rfl))); all_goals skip; (try simp only [List.set_cons_succ, List.set_cons_zero])
                    refine D_take 18 (v := ?_) rfl (by kernel_rfl) (by kernel_rfl) (by kernel_rfl) (fun _ _ _ h => h) rfl (by rfl) (fun W hS => ?_) hS ?_
                    rotate_left; (focus (first | (refine R_load1 (ty := 3) (x := Operand.tmp 68) rfl hS 0 rfl rfl ?_ Try.isAgg3; rfl) | (refine R_load1 (ty := 3) (x := Operand.tmp 68) rfl hS 1 rfl rfl ?_ Try.isAgg3; rfl))); all_goals skip; (try simp only [List.set_cons_succ, List.set_cons_zero, List.getElem_toArray, List.getElem_cons_succ, List.getElem_cons_zero])
                    refine D_take 19 (v := ?_) rfl (by kernel_rfl) (by kernel_rfl) (by kernel_rfl) (fun _ _ _ h => h) rfl (by rfl) (fun W hS => ?_) hS ?_
                    rotate_left; (focus (first | (go_simp; done) | (go_simp; with_reducible rfl) | (go_simp; rfl))); all_goals skip; (try simp only [List.set_cons_succ, List.set_cons_zero])
                    refine D_take 20 (v := ?_) rfl (by kernel_rfl) (by kernel_rfl) (by kernel_rfl) (fun _ _ _ h => h) rfl (by rfl) (fun W hS => ?_) hS ?_
                    rotate_left; (focus (first | (go_simp; done) | (go_simp; with_reducible rfl) | (go_simp; rfl))); all_goals skip; (try simp only [List.set_cons_succ, List.set_cons_zero])
                    refine D_take 21 (v := ?_) rfl (by kernel_rfl) (by kernel_rfl) (by kernel_rfl) (fun _ _ _ h => h) rfl (by rfl) (fun W hS => ?_) hS ?_
                    rotate_left; (focus (first | (go_simp; done) | (go_simp; with_reducible rfl) | (go_simp; rfl))); all_goals skip; (try simp only [List.set_cons_succ, List.set_cons_zero])
                    refine D_take 22 (v := ?_) rfl (by kernel_rfl) (by kernel_rfl) (by kernel_rfl) (fun _ _ _ h => h) rfl (by rfl) (fun W hS => ?_) hS ?_
                    rotate_left; (focus (first | (go_simp; done) | (go_simp; with_reducible rfl) | (go_simp; rfl))); all_goals skip; (try simp only [List.set_cons_succ, List.set_cons_zero])
                    refine D_take 23 (v := ?_) rfl (by kernel_rfl) (by kernel_rfl) (by kernel_rfl) (fun _ _ _ h => h) rfl (by rfl) (fun W hS => ?_) hS ?_
                    rotate_left; (focus (first | (refine R_load1 (ty := 3) (x := Operand.tmp 73) rfl hS 0 rfl rfl ?_ Try.isAgg3; rfl) | (refine R_load1 (ty := 3) (x := Operand.tmp 73) rfl hS 1 rfl rfl ?_ Try.isAgg3; rfl))); all_goals skip; (try simp only [List.set_cons_succ, List.set_cons_zero, List.getElem_toArray, List.getElem_cons_succ, List.getElem_cons_zero])
                    refine D_take 24 (v := ?_) rfl (by kernel_rfl) (by kernel_rfl) (by kernel_rfl) (fun _ _ _ h => h) rfl (by rfl) (fun W hS => ?_) hS ?_
                    rotate_left; (focus (first | (go_simp; done) | (go_simp; with_reducible rfl) | (go_simp; rfl))); all_goals skip; (try simp only [List.set_cons_succ, List.set_cons_zero])
                    refine D_take 25 (v := ?_) rfl (by kernel_rfl) (by kernel_rfl) (by kernel_rfl) (fun _ _ _ h => h) rfl (by rfl) (fun W hS => ?_) hS ?_
                    rotate_left; (focus (first | (refine R_load1 (ty := 3) (x := Operand.tmp 75) rfl hS 0 rfl rfl ?_ Try.isAgg3; rfl) | (refine R_load1 (ty := 3) (x := Operand.tmp 75) rfl hS 1 rfl rfl ?_ Try.isAgg3; rfl))); all_goals skip; (try simp only [List.set_cons_succ, List.set_cons_zero, List.getElem_toArray, List.getElem_cons_succ, List.getElem_cons_zero])
                    refine D_one 26 rfl (by kernel_rfl) (by rfl) ?_
                    refine R_call (f := 29) (args := #[.int .i64 bgen, .int .i64 1, .int .i64 gen]) (by first | (go_simp; done) | (go_simp; rfl)) hwC ?_
                    rintro e w2 ⟨rfl, rfl⟩
                    refine ⟨_, rfl, hS, ?_⟩
                    try simp only [Act.put, List.getElem_toArray, List.getElem_cons_succ, List.getElem_cons_zero, List.setIfInBounds_toArray, List.set_cons_succ, List.set_cons_zero]
                    refine D_take 27 (v := ?_) rfl (by kernel_rfl) (by kernel_rfl) (by kernel_rfl) (fun _ _ _ h => h) rfl (by rfl) (fun W hS => ?_) hS ?_
                    rotate_left; (focus (first | (go_simp; done) | (go_simp; with_reducible rfl) | (go_simp; rfl))); all_goals skip; (try simp only [List.set_cons_succ, List.set_cons_zero])
                    refine D_take 28 (v := ?_) rfl (by kernel_rfl) (by kernel_rfl) (by kernel_rfl) (fun _ _ _ h => h) rfl (by rfl) (fun W hS => ?_) hS ?_
                    rotate_left; (focus (first | (go_simp; done) | (go_simp; with_reducible rfl) | (go_simp; rfl))); all_goals skip; (try simp only [List.set_cons_succ, List.set_cons_zero])
                    refine D_take 29 (v := ?_) rfl (by kernel_rfl) (by kernel_rfl) (by kernel_rfl) (fun _ _ _ h => h) rfl (by rfl) (fun W hS => ?_) hS ?_
                    rotate_left; (focus (first | (go_simp; done) | (go_simp; with_reducible rfl) | (go_simp; rfl))); all_goals skip; (try simp only [List.set_cons_succ, List.set_cons_zero])
                    refine D_take 30 (v := ?_) rfl (by kernel_rfl) (by kernel_rfl) (by kernel_rfl) (fun _ _ _ h => h) rfl (by rfl) (fun W hS => ?_) hS ?_
                    rotate_left; (focus (first | (go_simp; done) | (go_simp; with_reducible rfl) | (go_simp; rfl))); all_goals skip; (try simp only [List.set_cons_succ, List.set_cons_zero])
                    refine D_take 31 (v := ?_) rfl (by kernel_rfl) (by kernel_rfl) (by kernel_rfl) (fun _ _ _ h => h) rfl (by rfl) (fun W hS => ?_) hS ?_
                    rotate_left; (focus (first | (refine R_load1 (ty := 3) (x := Operand.tmp 81) rfl hS 0 rfl rfl ?_ Try.isAgg3; rfl) | (refine R_load1 (ty := 3) (x := Operand.tmp 81) rfl hS 1 rfl rfl ?_ Try.isAgg3; rfl))); all_goals skip; (try simp only [List.set_cons_succ, List.set_cons_zero, List.getElem_toArray, List.getElem_cons_succ, List.getElem_cons_zero])
                    refine D_one 32 rfl (by kernel_rfl) (by rfl) ?_
                    refine R_call (f := 30) (args := #[.int .i64 size]) (by first | (go_simp; done) | (go_simp; rfl)) hsD ?_
                    rintro e w2 ⟨rfl, rfl⟩
                    refine ⟨_, rfl, hS, ?_⟩
                    try simp only [Act.put, List.getElem_toArray, List.getElem_cons_succ, List.getElem_cons_zero, List.setIfInBounds_toArray, List.set_cons_succ, List.set_cons_zero]
                    refine D_take 33 (v := ?_) rfl (by kernel_rfl) (by kernel_rfl) (by kernel_rfl) (fun _ _ _ h => h) rfl (by rfl) (fun W hS => ?_) hS ?_
                    rotate_left; (focus (first | (go_simp; done) | (go_simp; with_reducible rfl) | (go_simp; rfl))); all_goals skip; (try simp only [List.set_cons_succ, List.set_cons_zero])
                    refine D_take 34 (v := ?_) rfl (by kernel_rfl) (by kernel_rfl) (by kernel_rfl) (fun _ _ _ h => h) rfl (by rfl) (fun W hS => ?_) hS ?_
                    rotate_left; (focus (first | (go_simp; done) | (go_simp; with_reducible rfl) | (go_simp; rfl))); all_goals skip; (try simp only [List.set_cons_succ, List.set_cons_zero])
                    refine D_take 35 (v := ?_) rfl (by kernel_rfl) (by kernel_rfl) (by kernel_rfl) (fun _ _ _ h => h) rfl (by rfl) (fun W hS => ?_) hS ?_
                    rotate_left; (focus (first | (go_simp; done) | (go_simp; with_reducible rfl) | (go_simp; rfl))); all_goals skip; (try simp only [List.set_cons_succ, List.set_cons_zero])
                    refine D_skip 36 rfl (by kernel_rfl) (by kernel_rfl) (by kernel_rfl) (fun _ _ _ h => h) rfl (by rfl) hS ?_; (try simp only [List.set_cons_succ, List.set_cons_zero])
                    refine D_skip 37 rfl (by kernel_rfl) (by kernel_rfl) (by kernel_rfl) (fun _ _ _ h => h) rfl (by rfl) hS ?_; (try simp only [List.set_cons_succ, List.set_cons_zero])
                    refine D_skip 38 rfl (by kernel_rfl) (by kernel_rfl) (by kernel_rfl) (fun _ _ _ h => h) rfl (by rfl) hS ?_; (try simp only [List.set_cons_succ, List.set_cons_zero])
                    refine D_skip 39 rfl (by kernel_rfl) (by kernel_rfl) (by kernel_rfl) (fun _ _ _ h => h) rfl (by rfl) hS ?_; (try simp only [List.set_cons_succ, List.set_cons_zero])
                    refine D_take 40 (v := ?_) rfl (by kernel_rfl) (by kernel_rfl) (by kernel_rfl) (fun _ _ _ h => h) rfl (by rfl) (fun W hS => ?_) hS ?_
                    rotate_left; (focus (first | (go_simp; done) | (go_simp; with_reducible rfl) | (go_simp; rfl))); all_goals skip; (try simp only [List.set_cons_succ, List.set_cons_zero])
                    refine wpAnyH_done (by kernel_rfl) ?_ _
                    go_wp2_with fail
                    go_meet
                    case rel => exact ⟨by rw [HOK.out]; simp [*], hS⟩
                  · by_cases hE : (wrap.length : Int) = 72
                    · have hEb : ((wrap.length : Int) != 72) = false := by simp [hE]
                      refine D_start H (by kernel_rfl) (fun hS => ?_)
                      try simp only [Act.put, List.setIfInBounds_toArray, List.set_cons_succ, List.set_cons_zero]
                      refine D_take 0 (v := ?_) rfl (by kernel_rfl) (by kernel_rfl) (by kernel_rfl) (fun _ _ _ h => h) rfl (by rfl) (fun W hS => ?_) hS ?_
                      rotate_left; (focus (first | (go_simp; done) | (go_simp; with_reducible rfl) | (go_simp; rfl))); all_goals skip; (try simp only [List.set_cons_succ, List.set_cons_zero])
                      refine D_take 1 (v := ?_) rfl (by kernel_rfl) (by kernel_rfl) (by kernel_rfl) (fun _ _ _ h => h) rfl (by rfl) (fun W hS => ?_) hS ?_
                      rotate_left; (focus (first | (go_simp; done) | (go_simp; with_reducible rfl) | (go_simp; rfl))); all_goals skip; (try simp only [List.set_cons_succ, List.set_cons_zero])
                      refine D_take 2 (v := ?_) rfl (by kernel_rfl) (by kernel_rfl) (by kernel_rfl) (fun _ _ _ h => h) rfl (by rfl) (fun W hS => ?_) hS ?_
                      rotate_left; (focus (first | (go_simp; done) | (go_simp; with_reducible rfl) | (go_simp; rfl))); all_goals skip; (try simp only [List.set_cons_succ, List.set_cons_zero])
                      refine D_take 3 (v := ?_) rfl (by kernel_rfl) (by kernel_rfl) (by kernel_rfl) (fun _ _ _ h => h) rfl (by rfl) (fun W hS => ?_) hS ?_
                      rotate_left; (focus (first | (go_simp; done) | (go_simp; with_reducible rfl) | (go_simp; rfl))); all_goals skip; (try simp only [List.set_cons_succ, List.set_cons_zero])
                      refine D_take 4 (v := ?_) rfl (by kernel_rfl) (by kernel_rfl) (by kernel_rfl) (fun _ _ _ h => h) rfl (by rfl) (fun W hS => ?_) hS ?_
                      rotate_left; (focus (first | (refine R_load1 (ty := 22) (x := Operand.tmp 54) rfl hS 0 rfl rfl ?_ Try.isAgg22; rfl) | (refine R_load1 (ty := 22) (x := Operand.tmp 54) rfl hS 1 rfl rfl ?_ Try.isAgg22; rfl))); all_goals skip; (try simp only [List.set_cons_succ, List.set_cons_zero, List.getElem_toArray, List.getElem_cons_succ, List.getElem_cons_zero])
                      refine D_take 5 (v := ?_) rfl (by kernel_rfl) (by kernel_rfl) (by kernel_rfl) (fun _ _ _ h => h) rfl (by rfl) (fun W hS => ?_) hS ?_
                      rotate_left; (focus (first | (go_simp; done) | (go_simp; with_reducible rfl) | (go_simp; rfl))); all_goals skip; (try simp only [List.set_cons_succ, List.set_cons_zero])
                      refine D_take 6 (v := ?_) rfl (by kernel_rfl) (by kernel_rfl) (by kernel_rfl) (fun _ _ _ h => h) rfl (by rfl) (fun W hS => ?_) hS ?_
                      rotate_left; (focus (first | (go_simp; done) | (go_simp; with_reducible rfl) | (go_simp; rfl))); all_goals skip; (try simp only [List.set_cons_succ, List.set_cons_zero])
                      refine D_take 7 (v := ?_) rfl (by kernel_rfl) (by kernel_rfl) (by kernel_rfl) (fun _ _ _ h => h) rfl (by rfl) (fun W hS => ?_) hS ?_
                      rotate_left; (focus (first | (go_simp; done) | (go_simp; with_reducible rfl) | (go_simp; rfl))); all_goals skip; (try simp only [List.set_cons_succ, List.set_cons_zero])
                      refine D_take 8 (v := ?_) rfl (by kernel_rfl) (by kernel_rfl) (by kernel_rfl) (fun _ _ _ h => h) rfl (by rfl) (fun W hS => ?_) hS ?_
                      rotate_left; (focus (first | (go_simp; done) | (go_simp; with_reducible rfl) | (go_simp; rfl))); all_goals skip; (try simp only [List.set_cons_succ, List.set_cons_zero])
                      refine D_take 9 (v := (.int .i64 pid)) rfl (by kernel_rfl) (by kernel_rfl) (by kernel_rfl) (fun _ _ _ h => h) rfl (by rfl) (fun W hS => R_load1r (ty := 3) (x := .tmp 59) (off := off + m * 6) rfl hS rfl hbb (fun e => e) hpid Try.isAgg3) hS ?_; (try simp only [List.set_cons_succ, List.set_cons_zero])
                      refine D_take 10 (v := ?_) rfl (by kernel_rfl) (by kernel_rfl) (by kernel_rfl) (fun _ _ _ h => h) rfl (by rfl) (fun W hS => ?_) hS ?_
                      rotate_left; (focus (first | (go_simp; done) | (go_simp; with_reducible rfl) | (go_simp; rfl))); all_goals skip; (try simp only [List.set_cons_succ, List.set_cons_zero])
                      refine D_take 11 (v := ?_) rfl (by kernel_rfl) (by kernel_rfl) (by kernel_rfl) (fun _ _ _ h => h) rfl (by rfl) (fun W hS => ?_) hS ?_
                      rotate_left; (focus (first | (refine R_load1 (ty := 3) (x := Operand.tmp 61) rfl hS 0 rfl rfl ?_ Try.isAgg3; rfl) | (refine R_load1 (ty := 3) (x := Operand.tmp 61) rfl hS 1 rfl rfl ?_ Try.isAgg3; rfl))); all_goals skip; (try simp only [List.set_cons_succ, List.set_cons_zero, List.getElem_toArray, List.getElem_cons_succ, List.getElem_cons_zero])
                      refine D_take 12 (v := ?_) rfl (by kernel_rfl) (by kernel_rfl) (by kernel_rfl) (fun _ _ _ h => h) rfl (by rfl) (fun W hS => ?_) hS ?_
                      rotate_left; (focus (first | (go_simp; done) | (go_simp; with_reducible rfl) | (go_simp; rfl))); all_goals skip; (try simp only [List.set_cons_succ, List.set_cons_zero])
                      refine D_take 13 (v := ?_) rfl (by kernel_rfl) (by kernel_rfl) (by kernel_rfl) (fun _ _ _ h => h) rfl (by rfl) (fun W hS => ?_) hS ?_
                      rotate_left; (focus (first | (go_simp; done) | (go_simp; with_reducible rfl) | (go_simp; rfl))); all_goals skip; (try simp only [List.set_cons_succ, List.set_cons_zero])
                      refine D_take 14 (v := ?_) rfl (by kernel_rfl) (by kernel_rfl) (by kernel_rfl) (fun _ _ _ h => h) rfl (by rfl) (fun W hS => ?_) hS ?_
                      rotate_left; (focus (first | (go_simp; done) | (go_simp; with_reducible rfl) | (go_simp; rfl))); all_goals skip; (try simp only [List.set_cons_succ, List.set_cons_zero])
                      refine D_take 15 (v := ?_) rfl (by kernel_rfl) (by kernel_rfl) (by kernel_rfl) (fun _ _ _ h => h) rfl (by rfl) (fun W hS => ?_) hS ?_
                      rotate_left; (focus (first | (go_simp; done) | (go_simp; with_reducible rfl) | (go_simp; rfl))); all_goals skip; (try simp only [List.set_cons_succ, List.set_cons_zero])
                      refine D_take 16 (v := ?_) rfl (by kernel_rfl) (by kernel_rfl) (by kernel_rfl) (fun _ _ _ h => h) rfl (by rfl) (fun W hS => ?_) hS ?_
                      rotate_left; (focus (first | (refine R_load1 (ty := 3) (x := Operand.tmp 66) rfl hS 0 rfl rfl ?_ Try.isAgg3; rfl) | (refine R_load1 (ty := 3) (x := Operand.tmp 66) rfl hS 1 rfl rfl ?_ Try.isAgg3; rfl))); all_goals skip; (try simp only [List.set_cons_succ, List.set_cons_zero, List.getElem_toArray, List.getElem_cons_succ, List.getElem_cons_zero])
                      refine D_take 17 (v := ?_) rfl (by kernel_rfl) (by kernel_rfl) (by kernel_rfl) (fun _ _ _ h => h) rfl (by rfl) (fun W hS => ?_) hS ?_
                      rotate_left; (focus (first | (go_simp; done) | (go_simp; with_reducible rfl) | (go_simp; rfl))); all_goals skip; (try simp only [List.set_cons_succ, List.set_cons_zero])
                      refine D_take 18 (v := ?_) rfl (by kernel_rfl) (by kernel_rfl) (by kernel_rfl) (fun _ _ _ h => h) rfl (by rfl) (fun W hS => ?_) hS ?_
                      rotate_left; (focus (first | (refine R_load1 (ty := 3) (x := Operand.tmp 68) rfl hS 0 rfl rfl ?_ Try.isAgg3; rfl) | (refine R_load1 (ty := 3) (x := Operand.tmp 68) rfl hS 1 rfl rfl ?_ Try.isAgg3; rfl))); all_goals skip; (try simp only [List.set_cons_succ, List.set_cons_zero, List.getElem_toArray, List.getElem_cons_succ, List.getElem_cons_zero])
                      refine D_take 19 (v := ?_) rfl (by kernel_rfl) (by kernel_rfl) (by kernel_rfl) (fun _ _ _ h => h) rfl (by rfl) (fun W hS => ?_) hS ?_
                      rotate_left; (focus (first | (go_simp; done) | (go_simp; with_reducible rfl) | (go_simp; rfl))); all_goals skip; (try simp only [List.set_cons_succ, List.set_cons_zero])
                      refine D_take 20 (v := ?_) rfl (by kernel_rfl) (by kernel_rfl) (by kernel_rfl) (fun _ _ _ h => h) rfl (by rfl) (fun W hS => ?_) hS ?_
                      rotate_left; (focus (first | (go_simp; done) | (go_simp; with_reducible rfl) | (go_simp; rfl))); all_goals skip; (try simp only [List.set_cons_succ, List.set_cons_zero])
                      refine D_take 21 (v := ?_) rfl (by kernel_rfl) (by kernel_rfl) (by kernel_rfl) (fun _ _ _ h => h) rfl (by rfl) (fun W hS => ?_) hS ?_
                      rotate_left; (focus (first | (go_simp; done) | (go_simp; with_reducible rfl) | (go_simp; rfl))); all_goals skip; (try simp only [List.set_cons_succ, List.set_cons_zero])
                      refine D_take 22 (v := ?_) rfl (by kernel_rfl) (by kernel_rfl) (by kernel_rfl) (fun _ _ _ h => h) rfl (by rfl) (fun W hS => ?_) hS ?_
                      rotate_left; (focus (first | (go_simp; done) | (go_simp; with_reducible rfl) | (go_simp; rfl))); all_goals skip; (try simp only [List.set_cons_succ, List.set_cons_zero])
                      refine D_take 23 (v := ?_) rfl (by kernel_rfl) (by kernel_rfl) (by kernel_rfl) (fun _ _ _ h => h) rfl (by rfl) (fun W hS => ?_) hS ?_
                      rotate_left; (focus (first | (refine R_load1 (ty := 3) (x := Operand.tmp 73) rfl hS 0 rfl rfl ?_ Try.isAgg3; rfl) | (refine R_load1 (ty := 3) (x := Operand.tmp 73) rfl hS 1 rfl rfl ?_ Try.isAgg3; rfl))); all_goals skip; (try simp only [List.set_cons_succ, List.set_cons_zero, List.getElem_toArray, List.getElem_cons_succ, List.getElem_cons_zero])
                      refine D_take 24 (v := ?_) rfl (by kernel_rfl) (by kernel_rfl) (by kernel_rfl) (fun _ _ _ h => h) rfl (by rfl) (fun W hS => ?_) hS ?_
                      rotate_left; (focus (first | (go_simp; done) | (go_simp; with_reducible rfl) | (go_simp; rfl))); all_goals skip; (try simp only [List.set_cons_succ, List.set_cons_zero])
                      refine D_take 25 (v := ?_) rfl (by kernel_rfl) (by kernel_rfl) (by kernel_rfl) (fun _ _ _ h => h) rfl (by rfl) (fun W hS => ?_) hS ?_
                      rotate_left; (focus (first | (refine R_load1 (ty := 3) (x := Operand.tmp 75) rfl hS 0 rfl rfl ?_ Try.isAgg3; rfl) | (refine R_load1 (ty := 3) (x := Operand.tmp 75) rfl hS 1 rfl rfl ?_ Try.isAgg3; rfl))); all_goals skip; (try simp only [List.set_cons_succ, List.set_cons_zero, List.getElem_toArray, List.getElem_cons_succ, List.getElem_cons_zero])
                      refine D_one 26 rfl (by kernel_rfl) (by rfl) ?_
                      refine R_call (f := 29) (args := #[.int .i64 bgen, .int .i64 1, .int .i64 gen]) (by first | (go_simp; done) | (go_simp; rfl)) hwC ?_
                      rintro e w2 ⟨rfl, rfl⟩
                      refine ⟨_, rfl, hS, ?_⟩
                      try simp only [Act.put, List.getElem_toArray, List.getElem_cons_succ, List.getElem_cons_zero, List.setIfInBounds_toArray, List.set_cons_succ, List.set_cons_zero]
                      refine D_take 27 (v := ?_) rfl (by kernel_rfl) (by kernel_rfl) (by kernel_rfl) (fun _ _ _ h => h) rfl (by rfl) (fun W hS => ?_) hS ?_
                      rotate_left; (focus (first | (go_simp; done) | (go_simp; with_reducible rfl) | (go_simp; rfl))); all_goals skip; (try simp only [List.set_cons_succ, List.set_cons_zero])
                      refine D_take 28 (v := ?_) rfl (by kernel_rfl) (by kernel_rfl) (by kernel_rfl) (fun _ _ _ h => h) rfl (by rfl) (fun W hS => ?_) hS ?_
                      rotate_left; (focus (first | (go_simp; done) | (go_simp; with_reducible rfl) | (go_simp; rfl))); all_goals skip; (try simp only [List.set_cons_succ, List.set_cons_zero])
                      refine D_take 29 (v := ?_) rfl (by kernel_rfl) (by kernel_rfl) (by kernel_rfl) (fun _ _ _ h => h) rfl (by rfl) (fun W hS => ?_) hS ?_
                      rotate_left; (focus (first | (go_simp; done) | (go_simp; with_reducible rfl) | (go_simp; rfl))); all_goals skip; (try simp only [List.set_cons_succ, List.set_cons_zero])
                      refine D_take 30 (v := ?_) rfl (by kernel_rfl) (by kernel_rfl) (by kernel_rfl) (fun _ _ _ h => h) rfl (by rfl) (fun W hS => ?_) hS ?_
                      rotate_left; (focus (first | (go_simp; done) | (go_simp; with_reducible rfl) | (go_simp; rfl))); all_goals skip; (try simp only [List.set_cons_succ, List.set_cons_zero])
                      refine D_take 31 (v := ?_) rfl (by kernel_rfl) (by kernel_rfl) (by kernel_rfl) (fun _ _ _ h => h) rfl (by rfl) (fun W hS => ?_) hS ?_
                      rotate_left; (focus (first | (refine R_load1 (ty := 3) (x := Operand.tmp 81) rfl hS 0 rfl rfl ?_ Try.isAgg3; rfl) | (refine R_load1 (ty := 3) (x := Operand.tmp 81) rfl hS 1 rfl rfl ?_ Try.isAgg3; rfl))); all_goals skip; (try simp only [List.set_cons_succ, List.set_cons_zero, List.getElem_toArray, List.getElem_cons_succ, List.getElem_cons_zero])
                      refine D_one 32 rfl (by kernel_rfl) (by rfl) ?_
                      refine R_call (f := 30) (args := #[.int .i64 size]) (by first | (go_simp; done) | (go_simp; rfl)) hsD ?_
                      rintro e w2 ⟨rfl, rfl⟩
                      refine ⟨_, rfl, hS, ?_⟩
                      try simp only [Act.put, List.getElem_toArray, List.getElem_cons_succ, List.getElem_cons_zero, List.setIfInBounds_toArray, List.set_cons_succ, List.set_cons_zero]
                      refine D_take 33 (v := ?_) rfl (by kernel_rfl) (by kernel_rfl) (by kernel_rfl) (fun _ _ _ h => h) rfl (by rfl) (fun W hS => ?_) hS ?_
                      rotate_left; (focus (first | (go_simp; done) | (go_simp; with_reducible rfl) | (go_simp; rfl))); all_goals skip; (try simp only [List.set_cons_succ, List.set_cons_zero])
                      refine D_take 34 (v := ?_) rfl (by kernel_rfl) (by kernel_rfl) (by kernel_rfl) (fun _ _ _ h => h) rfl (by rfl) (fun W hS => ?_) hS ?_
                      rotate_left; (focus (first | (go_simp; done) | (go_simp; with_reducible rfl) | (go_simp; rfl))); all_goals skip; (try simp only [List.set_cons_succ, List.set_cons_zero])
                      refine D_take 35 (v := ?_) rfl (by kernel_rfl) (by kernel_rfl) (by kernel_rfl) (fun _ _ _ h => h) rfl (by rfl) (fun W hS => ?_) hS ?_
                      rotate_left; (focus (first | (go_simp; done) | (go_simp; with_reducible rfl) | (go_simp; rfl))); all_goals skip; (try simp only [List.set_cons_succ, List.set_cons_zero])
                      refine D_take 36 (v := ?_) rfl (by kernel_rfl) (by kernel_rfl) (by kernel_rfl) (fun _ _ _ h => h) rfl (by rfl) (fun W hS => ?_) hS ?_
                      rotate_left; (focus (first | (go_simp; done) | (go_simp; with_reducible rfl) | (go_simp; rfl))); all_goals skip; (try simp only [List.set_cons_succ, List.set_cons_zero])
                      refine D_take 37 (v := ?_) rfl (by kernel_rfl) (by kernel_rfl) (by kernel_rfl) (fun _ _ _ h => h) rfl (by rfl) (fun W hS => ?_) hS ?_
                      rotate_left; (focus (first | (refine R_load1 (ty := 34) (x := Operand.tmp 87) rfl hS 0 rfl rfl ?_ Try.isAgg34; rfl) | (refine R_load1 (ty := 34) (x := Operand.tmp 87) rfl hS 1 rfl rfl ?_ Try.isAgg34; rfl))); all_goals skip; (try simp only [List.set_cons_succ, List.set_cons_zero, List.getElem_toArray, List.getElem_cons_succ, List.getElem_cons_zero])
                      refine D_take 38 (v := ?_) rfl (by kernel_rfl) (by kernel_rfl) (by kernel_rfl) (fun _ _ _ h => h) rfl (by rfl) (fun W hS => ?_) hS ?_
                      rotate_left; (focus (first | (go_simp; done) | (go_simp; with_reducible rfl) | (go_simp; rfl))); all_goals skip; (try simp only [List.set_cons_succ, List.set_cons_zero])
                      refine D_take 39 (v := ?_) rfl (by kernel_rfl) (by kernel_rfl) (by kernel_rfl) (fun _ _ _ h => h) rfl (by rfl) (fun W hS => ?_) hS ?_
                      rotate_left; (focus (first | (go_simp; done) | (go_simp; with_reducible rfl) | (go_simp; rfl))); all_goals skip; (try simp only [List.set_cons_succ, List.set_cons_zero])
                      refine D_take 40 (v := ?_) rfl (by kernel_rfl) (by kernel_rfl) (by kernel_rfl) (fun _ _ _ h => h) rfl (by rfl) (fun W hS => ?_) hS ?_
                      rotate_left; (focus (first | (go_simp; done) | (go_simp; with_reducible rfl) | (go_simp; rfl))); all_goals skip; (try simp only [List.set_cons_succ, List.set_cons_zero])
                      refine wpAnyH_done (by kernel_rfl) ?_ _
                      go_wp2_with fail
                      go_meet
                      case rel => exact ⟨by rw [HOK.out]; simp [*], hS⟩
                    · have hEb : ((wrap.length : Int) != 72) = true := by simp [hE]
                      refine D_start H (by kernel_rfl) (fun hS => ?_)
                      try simp only [Act.put, List.setIfInBounds_toArray, List.set_cons_succ, List.set_cons_zero]
                      refine D_take 0 (v := ?_) rfl (by kernel_rfl) (by kernel_rfl) (by kernel_rfl) (fun _ _ _ h => h) rfl (by rfl) (fun W hS => ?_) hS ?_
                      rotate_left; (focus (first | (go_simp; done) | (go_simp; with_reducible rfl) | (go_simp; rfl))); all_goals skip; (try simp only [List.set_cons_succ, List.set_cons_zero])
                      refine D_take 1 (v := ?_) rfl (by kernel_rfl) (by kernel_rfl) (by kernel_rfl) (fun _ _ _ h => h) rfl (by rfl) (fun W hS => ?_) hS ?_
                      rotate_left; (focus (first | (go_simp; done) | (go_simp; with_reducible rfl) | (go_simp; rfl))); all_goals skip; (try simp only [List.set_cons_succ, List.set_cons_zero])
                      refine D_take 2 (v := ?_) rfl (by kernel_rfl) (by kernel_rfl) (by kernel_rfl) (fun _ _ _ h => h) rfl (by rfl) (fun W hS => ?_) hS ?_
                      rotate_left; (focus (first | (go_simp; done) | (go_simp; with_reducible rfl) | (go_simp; rfl))); all_goals skip; (try simp only [List.set_cons_succ, List.set_cons_zero])
                      refine D_take 3 (v := ?_) rfl (by kernel_rfl) (by kernel_rfl) (by kernel_rfl) (fun _ _ _ h => h) rfl (by rfl) (fun W hS => ?_) hS ?_
                      rotate_left; (focus (first | (go_simp; done) | (go_simp; with_reducible rfl) | (go_simp; rfl))); all_goals skip; (try simp only [List.set_cons_succ, List.set_cons_zero])
                      refine D_take 4 (v := ?_) rfl (by kernel_rfl) (by kernel_rfl) (by kernel_rfl) (fun _ _ _ h => h) rfl (by rfl) (fun W hS => ?_) hS ?_
                      rotate_left; (focus (first | (refine R_load1 (ty := 22) (x := Operand.tmp 54) rfl hS 0 rfl rfl ?_ Try.isAgg22; rfl) | (refine R_load1 (ty := 22) (x := Operand.tmp 54) rfl hS 1 rfl rfl ?_ Try.isAgg22; rfl))); all_goals skip; (try simp only [List.set_cons_succ, List.set_cons_zero, List.getElem_toArray, List.getElem_cons_succ, List.getElem_cons_zero])
                      refine D_take 5 (v := ?_) rfl (by kernel_rfl) (by kernel_rfl) (by kernel_rfl) (fun _ _ _ h => h) rfl (by rfl) (fun W hS => ?_) hS ?_
                      rotate_left; (focus (first | (go_simp; done) | (go_simp; with_reducible rfl) | (go_simp; rfl))); all_goals skip; (try simp only [List.set_cons_succ, List.set_cons_zero])
                      refine D_take 6 (v := ?_) rfl (by kernel_rfl) (by kernel_rfl) (by kernel_rfl) (fun _ _ _ h => h) rfl (by rfl) (fun W hS => ?_) hS ?_
                      rotate_left; (focus (first | (go_simp; done) | (go_simp; with_reducible rfl) | (go_simp; rfl))); all_goals skip; (try simp only [List.set_cons_succ, List.set_cons_zero])
                      refine D_take 7 (v := ?_) rfl (by kernel_rfl) (by kernel_rfl) (by kernel_rfl) (fun _ _ _ h => h) rfl (by rfl) (fun W hS => ?_) hS ?_
                      rotate_left; (focus (first | (go_simp; done) | (go_simp; with_reducible rfl) | (go_simp; rfl))); all_goals skip; (try simp only [List.set_cons_succ, List.set_cons_zero])
                      refine D_take 8 (v := ?_) rfl (by kernel_rfl) (by kernel_rfl) (by kernel_rfl) (fun _ _ _ h => h) rfl (by rfl) (fun W hS => ?_) hS ?_
                      rotate_left; (focus (first | (go_simp; done) | (go_simp; with_reducible rfl) | (go_simp; rfl))); all_goals skip; (try simp only [List.set_cons_succ, List.set_cons_zero])
                      refine D_take 9 (v := (.int .i64 pid)) rfl (by kernel_rfl) (by kernel_rfl) (by kernel_rfl) (fun _ _ _ h => h) rfl (by rfl) (fun W hS => R_load1r (ty := 3) (x := .tmp 59) (off := off + m * 6) rfl hS rfl hbb (fun e => e) hpid Try.isAgg3) hS ?_; (try simp only [List.set_cons_succ, List.set_cons_zero])
                      refine D_take 10 (v := ?_) rfl (by kernel_rfl) (by kernel_rfl) (by kernel_rfl) (fun _ _ _ h => h) rfl (by rfl) (fun W hS => ?_) hS ?_
                      rotate_left; (focus (first | (go_simp; done) | (go_simp; with_reducible rfl) | (go_simp; rfl))); all_goals skip; (try simp only [List.set_cons_succ, List.set_cons_zero])
                      refine D_take 11 (v := ?_) rfl (by kernel_rfl) (by kernel_rfl) (by kernel_rfl) (fun _ _ _ h => h) rfl (by rfl) (fun W hS => ?_) hS ?_
                      rotate_left; (focus (first | (refine R_load1 (ty := 3) (x := Operand.tmp 61) rfl hS 0 rfl rfl ?_ Try.isAgg3; rfl) | (refine R_load1 (ty := 3) (x := Operand.tmp 61) rfl hS 1 rfl rfl ?_ Try.isAgg3; rfl))); all_goals skip; (try simp only [List.set_cons_succ, List.set_cons_zero, List.getElem_toArray, List.getElem_cons_succ, List.getElem_cons_zero])
                      refine D_take 12 (v := ?_) rfl (by kernel_rfl) (by kernel_rfl) (by kernel_rfl) (fun _ _ _ h => h) rfl (by rfl) (fun W hS => ?_) hS ?_
                      rotate_left; (focus (first | (go_simp; done) | (go_simp; with_reducible rfl) | (go_simp; rfl))); all_goals skip; (try simp only [List.set_cons_succ, List.set_cons_zero])
                      refine D_take 13 (v := ?_) rfl (by kernel_rfl) (by kernel_rfl) (by kernel_rfl) (fun _ _ _ h => h) rfl (by rfl) (fun W hS => ?_) hS ?_
                      rotate_left; (focus (first | (go_simp; done) | (go_simp; with_reducible rfl) | (go_simp; rfl))); all_goals skip; (try simp only [List.set_cons_succ, List.set_cons_zero])
                      refine D_take 14 (v := ?_) rfl (by kernel_rfl) (by kernel_rfl) (by kernel_rfl) (fun _ _ _ h => h) rfl (by rfl) (fun W hS => ?_) hS ?_
                      rotate_left; (focus (first | (go_simp; done) | (go_simp; with_reducible rfl) | (go_simp; rfl))); all_goals skip; (try simp only [List.set_cons_succ, List.set_cons_zero])
                      refine D_take 15 (v := ?_) rfl (by kernel_rfl) (by kernel_rfl) (by kernel_rfl) (fun _ _ _ h => h) rfl (by rfl) (fun W hS => ?_) hS ?_
                      rotate_left; (focus (first | (go_simp; done) | (go_simp; with_reducible rfl) | (go_simp; rfl))); all_goals skip; (try simp only [List.set_cons_succ, List.set_cons_zero])
                      refine D_take 16 (v := ?_) rfl (by kernel_rfl) (by kernel_rfl) (by kernel_rfl) (fun _ _ _ h => h) rfl (by rfl) (fun W hS => ?_) hS ?_
                      rotate_left; (focus (first | (refine R_load1 (ty := 3) (x := Operand.tmp 66) rfl hS 0 rfl rfl ?_ Try.isAgg3; rfl) | (refine R_load1 (ty := 3) (x := Operand.tmp 66) rfl hS 1 rfl rfl ?_ Try.isAgg3; rfl))); all_goals skip; (try simp only [List.set_cons_succ, List.set_cons_zero, List.getElem_toArray, List.getElem_cons_succ, List.getElem_cons_zero])
                      refine D_take 17 (v := ?_) rfl (by kernel_rfl) (by kernel_rfl) (by kernel_rfl) (fun _ _ _ h => h) rfl (by rfl) (fun W hS => ?_) hS ?_
                      rotate_left; (focus (first | (go_simp; done) | (go_simp; with_reducible rfl) | (go_simp; rfl))); all_goals skip; (try simp only [List.set_cons_succ, List.set_cons_zero])
                      refine D_take 18 (v := ?_) rfl (by kernel_rfl) (by kernel_rfl) (by kernel_rfl) (fun _ _ _ h => h) rfl (by rfl) (fun W hS => ?_) hS ?_
                      rotate_left; (focus (first | (refine R_load1 (ty := 3) (x := Operand.tmp 68) rfl hS 0 rfl rfl ?_ Try.isAgg3; rfl) | (refine R_load1 (ty := 3) (x := Operand.tmp 68) rfl hS 1 rfl rfl ?_ Try.isAgg3; rfl))); all_goals skip; (try simp only [List.set_cons_succ, List.set_cons_zero, List.getElem_toArray, List.getElem_cons_succ, List.getElem_cons_zero])
                      refine D_take 19 (v := ?_) rfl (by kernel_rfl) (by kernel_rfl) (by kernel_rfl) (fun _ _ _ h => h) rfl (by rfl) (fun W hS => ?_) hS ?_
                      rotate_left; (focus (first | (go_simp; done) | (go_simp; with_reducible rfl) | (go_simp; rfl))); all_goals skip; (try simp only [List.set_cons_succ, List.set_cons_zero])
                      refine D_take 20 (v := ?_) rfl (by kernel_rfl) (by kernel_rfl) (by kernel_rfl) (fun _ _ _ h => h) rfl (by rfl) (fun W hS => ?_) hS ?_
                      rotate_left; (focus (first | (go_simp; done) | (go_simp; with_reducible rfl) | (go_simp; rfl))); all_goals skip; (try simp only [List.set_cons_succ, List.set_cons_zero])
                      refine D_take 21 (v := ?_) rfl (by kernel_rfl) (by kernel_rfl) (by kernel_rfl) (fun _ _ _ h => h) rfl (by rfl) (fun W hS => ?_) hS ?_
                      rotate_left; (focus (first | (go_simp; done) | (go_simp; with_reducible rfl) | (go_simp; rfl))); all_goals skip; (try simp only [List.set_cons_succ, List.set_cons_zero])
                      refine D_take 22 (v := ?_) rfl (by kernel_rfl) (by kernel_rfl) (by kernel_rfl) (fun _ _ _ h => h) rfl (by rfl) (fun W hS => ?_) hS ?_
                      rotate_left; (focus (first | (go_simp; done) | (go_simp; with_reducible rfl) | (go_simp; rfl))); all_goals skip; (try simp only [List.set_cons_succ, List.set_cons_zero])
                      refine D_take 23 (v := ?_) rfl (by kernel_rfl) (by kernel_rfl) (by kernel_rfl) (fun _ _ _ h => h) rfl (by rfl) (fun W hS => ?_) hS ?_
                      rotate_left; (focus (first | (refine R_load1 (ty := 3) (x := Operand.tmp 73) rfl hS 0 rfl rfl ?_ Try.isAgg3; rfl) | (refine R_load1 (ty := 3) (x := Operand.tmp 73) rfl hS 1 rfl rfl ?_ Try.isAgg3; rfl))); all_goals skip; (try simp only [List.set_cons_succ, List.set_cons_zero, List.getElem_toArray, List.getElem_cons_succ, List.getElem_cons_zero])
                      refine D_take 24 (v := ?_) rfl (by kernel_rfl) (by kernel_rfl) (by kernel_rfl) (fun _ _ _ h => h) rfl (by rfl) (fun W hS => ?_) hS ?_
                      rotate_left; (focus (first | (go_simp; done) | (go_simp; with_reducible rfl) | (go_simp; rfl))); all_goals skip; (try simp only [List.set_cons_succ, List.set_cons_zero])
                      refine D_take 25 (v := ?_) rfl (by kernel_rfl) (by kernel_rfl) (by kernel_rfl) (fun _ _ _ h => h) rfl (by rfl) (fun W hS => ?_) hS ?_
                      rotate_left; (focus (first | (refine R_load1 (ty := 3) (x := Operand.tmp 75) rfl hS 0 rfl rfl ?_ Try.isAgg3; rfl) | (refine R_load1 (ty := 3) (x := Operand.tmp 75) rfl hS 1 rfl rfl ?_ Try.isAgg3; rfl))); all_goals skip; (try simp only [List.set_cons_succ, List.set_cons_zero, List.getElem_toArray, List.getElem_cons_succ, List.getElem_cons_zero])
                      refine D_one 26 rfl (by kernel_rfl) (by rfl) ?_
                      refine R_call (f := 29) (args := #[.int .i64 bgen, .int .i64 1, .int .i64 gen]) (by first | (go_simp; done) | (go_simp; rfl)) hwC ?_
                      rintro e w2 ⟨rfl, rfl⟩
                      refine ⟨_, rfl, hS, ?_⟩
                      try simp only [Act.put, List.getElem_toArray, List.getElem_cons_succ, List.getElem_cons_zero, List.setIfInBounds_toArray, List.set_cons_succ, List.set_cons_zero]
                      refine D_take 27 (v := ?_) rfl (by kernel_rfl) (by kernel_rfl) (by kernel_rfl) (fun _ _ _ h => h) rfl (by rfl) (fun W hS => ?_) hS ?_
                      rotate_left; (focus (first | (go_simp; done) | (go_simp; with_reducible rfl) | (go_simp; rfl))); all_goals skip; (try simp only [List.set_cons_succ, List.set_cons_zero])
                      refine D_take 28 (v := ?_) rfl (by kernel_rfl) (by kernel_rfl) (by kernel_rfl) (fun _ _ _ h => h) rfl (by rfl) (fun W hS => ?_) hS ?_
                      rotate_left; (focus (first | (go_simp; done) | (go_simp; with_reducible rfl) | (go_simp; rfl))); all_goals skip; (try simp only [List.set_cons_succ, List.set_cons_zero])
                      refine D_take 29 (v := ?_) rfl (by kernel_rfl) (by kernel_rfl) (by kernel_rfl) (fun _ _ _ h => h) rfl (by rfl) (fun W hS => ?_) hS ?_
                      rotate_left; (focus (first | (go_simp; done) | (go_simp; with_reducible rfl) | (go_simp; rfl))); all_goals skip; (try simp only [List.set_cons_succ, List.set_cons_zero])
                      refine D_take 30 (v := ?_) rfl (by kernel_rfl) (by kernel_rfl) (by kernel_rfl) (fun _ _ _ h => h) rfl (by rfl) (fun W hS => ?_) hS ?_
                      rotate_left; (focus (first | (go_simp; done) | (go_simp; with_reducible rfl) | (go_simp; rfl))); all_goals skip; (try simp only [List.set_cons_succ, List.set_cons_zero])
                      refine D_take 31 (v := ?_) rfl (by kernel_rfl) (by kernel_rfl) (by kernel_rfl) (fun _ _ _ h => h) rfl (by rfl) (fun W hS => ?_) hS ?_
                      rotate_left; (focus (first | (refine R_load1 (ty := 3) (x := Operand.tmp 81) rfl hS 0 rfl rfl ?_ Try.isAgg3; rfl) | (refine R_load1 (ty := 3) (x := Operand.tmp 81) rfl hS 1 rfl rfl ?_ Try.isAgg3; rfl))); all_goals skip; (try simp only [List.set_cons_succ, List.set_cons_zero, List.getElem_toArray, List.getElem_cons_succ, List.getElem_cons_zero])
                      refine D_one 32 rfl (by kernel_rfl) (by rfl) ?_
                      refine R_call (f := 30) (args := #[.int .i64 size]) (by first | (go_simp; done) | (go_simp; rfl)) hsD ?_
                      rintro e w2 ⟨rfl, rfl⟩
                      refine ⟨_, rfl, hS, ?_⟩
                      try simp only [Act.put, List.getElem_toArray, List.getElem_cons_succ, List.getElem_cons_zero, List.setIfInBounds_toArray, List.set_cons_succ, List.set_cons_zero]
                      refine D_take 33 (v := ?_) rfl (by kernel_rfl) (by kernel_rfl) (by kernel_rfl) (fun _ _ _ h => h) rfl (by rfl) (fun W hS => ?_) hS ?_
                      rotate_left; (focus (first | (go_simp; done) | (go_simp; with_reducible rfl) | (go_simp; rfl))); all_goals skip; (try simp only [List.set_cons_succ, List.set_cons_zero])
                      refine D_take 34 (v := ?_) rfl (by kernel_rfl) (by kernel_rfl) (by kernel_rfl) (fun _ _ _ h => h) rfl (by rfl) (fun W hS => ?_) hS ?_
                      rotate_left; (focus (first | (go_simp; done) | (go_simp; with_reducible rfl) | (go_simp; rfl))); all_goals skip; (try simp only [List.set_cons_succ, List.set_cons_zero])
                      refine D_take 35 (v := ?_) rfl (by kernel_rfl) (by kernel_rfl) (by kernel_rfl) (fun _ _ _ h => h) rfl (by rfl) (fun W hS => ?_) hS ?_
                      rotate_left; (focus (first | (go_simp; done) | (go_simp; with_reducible rfl) | (go_simp; rfl))); all_goals skip; (try simp only [List.set_cons_succ, List.set_cons_zero])
                      refine D_take 36 (v := ?_) rfl (by kernel_rfl) (by kernel_rfl) (by kernel_rfl) (fun _ _ _ h => h) rfl (by rfl) (fun W hS => ?_) hS ?_
                      rotate_left; (focus (first | (go_simp; done) | (go_simp; with_reducible rfl) | (go_simp; rfl))); all_goals skip; (try simp only [List.set_cons_succ, List.set_cons_zero])
                      refine D_take 37 (v := ?_) rfl (by kernel_rfl) (by kernel_rfl) (by kernel_rfl) (fun _ _ _ h => h) rfl (by rfl) (fun W hS => ?_) hS ?_
                      rotate_left; (focus (first | (refine R_load1 (ty := 34) (x := Operand.tmp 87) rfl hS 0 rfl rfl ?_ Try.isAgg34; rfl) | (refine R_load1 (ty := 34) (x := Operand.tmp 87) rfl hS 1 rfl rfl ?_ Try.isAgg34; rfl))); all_goals skip; (try simp only [List.set_cons_succ, List.set_cons_zero, List.getElem_toArray, List.getElem_cons_succ, List.getElem_cons_zero])
                      refine D_take 38 (v := ?_) rfl (by kernel_rfl) (by kernel_rfl) (by kernel_rfl) (fun _ _ _ h => h) rfl (by rfl) (fun W hS => ?_) hS ?_
                      rotate_left; (focus (first | (go_simp; done) | (go_simp; with_reducible rfl) | (go_simp; rfl))); all_goals skip; (try simp only [List.set_cons_succ, List.set_cons_zero])
                      refine D_take 39 (v := ?_) rfl (by kernel_rfl) (by kernel_rfl) (by kernel_rfl) (fun _ _ _ h => h) rfl (by rfl) (fun W hS => ?_) hS ?_
                      rotate_left; (focus (first | (go_simp; done) | (go_simp; with_reducible rfl) | (go_simp; rfl))); all_goals skip; (try simp only [List.set_cons_succ, List.set_cons_zero])
                      refine D_take 40 (v := ?_) rfl (by kernel_rfl) (by kernel_rfl) (by kernel_rfl) (fun _ _ _ h => h) rfl (by rfl) (fun W hS => ?_) hS ?_
                      rotate_left; (focus (first | (go_simp; done) | (go_simp; with_reducible rfl) | (go_simp; rfl))); all_goals skip; (try simp only [List.set_cons_succ, List.set_cons_zero])
                      refine wpAnyH_done (by kernel_rfl) ?_ _
                      go_wp2_with fail
                      go_meet
                      case rel => exact ⟨by rw [HOK.out]; simp [*], hS⟩
              · have hBn : next ≤ id := by omega
                refine D_start H (by kernel_rfl) (fun hS => ?_)
                try simp only [Act.put, List.setIfInBounds_toArray, List.set_cons_succ, List.set_cons_zero]
                refine D_take 0 (v := ?_) rfl (by kernel_rfl) (by kernel_rfl) (by kernel_rfl) (fun _ _ _ h => h) rfl (by rfl) (fun W hS => ?_) hS ?_
                rotate_left; (focus (first | (go_simp; done) | (go_simp; with_reducible rfl) | (go_simp; rfl))); all_goals skip; (try simp only [List.set_cons_succ, List.set_cons_zero])
                refine D_take 1 (v := ?_) rfl (by kernel_rfl) (by kernel_rfl) (by kernel_rfl) (fun _ _ _ h => h) rfl (by rfl) (fun W hS => ?_) hS ?_
                rotate_left; (focus (first | (go_simp; done) | (go_simp; with_reducible rfl) | (go_simp; rfl))); all_goals skip; (try simp only [List.set_cons_succ, List.set_cons_zero])
                refine D_take 2 (v := ?_) rfl (by kernel_rfl) (by kernel_rfl) (by kernel_rfl) (fun _ _ _ h => h) rfl (by rfl) (fun W hS => ?_) hS ?_
                rotate_left; (focus (first | (go_simp; done) | (go_simp; with_reducible rfl) | (go_simp; rfl))); all_goals skip; (try simp only [List.set_cons_succ, List.set_cons_zero])
                refine D_take 3 (v := ?_) rfl (by kernel_rfl) (by kernel_rfl) (by kernel_rfl) (fun _ _ _ h => h) rfl (by rfl) (fun W hS => ?_) hS ?_
                rotate_left; (focus (first | (go_simp; done) | (go_simp; with_reducible rfl) | (go_simp; rfl))); all_goals skip; (try simp only [List.set_cons_succ, List.set_cons_zero])
                refine D_take 4 (v := ?_) rfl (by kernel_rfl) (by kernel_rfl) (by kernel_rfl) (fun _ _ _ h => h) rfl (by rfl) (fun W hS => ?_) hS ?_
                rotate_left; (focus (first | (refine R_load1 (ty := 22) (x := Operand.tmp 54) rfl hS 0 rfl rfl ?_ Try.isAgg22; rfl) | (refine R_load1 (ty := 22) (x := Operand.tmp 54) rfl hS 1 rfl rfl ?_ Try.isAgg22; rfl))); all_goals skip; (try simp only [List.set_cons_succ, List.set_cons_zero, List.getElem_toArray, List.getElem_cons_succ, List.getElem_cons_zero])
                refine D_take 5 (v := ?_) rfl (by kernel_rfl) (by kernel_rfl) (by kernel_rfl) (fun _ _ _ h => h) rfl (by rfl) (fun W hS => ?_) hS ?_
                rotate_left; (focus (first | (go_simp; done) | (go_simp; with_reducible rfl) | (go_simp; rfl))); all_goals skip; (try simp only [List.set_cons_succ, List.set_cons_zero])
                refine D_take 6 (v := ?_) rfl (by kernel_rfl) (by kernel_rfl) (by kernel_rfl) (fun _ _ _ h => h) rfl (by rfl) (fun W hS => ?_) hS ?_
                rotate_left; (focus (first | (go_simp; done) | (go_simp; with_reducible rfl) | (go_simp; rfl))); all_goals skip; (try simp only [List.set_cons_succ, List.set_cons_zero])
                refine D_take 7 (v := ?_) rfl (by kernel_rfl) (by kernel_rfl) (by kernel_rfl) (fun _ _ _ h => h) rfl (by rfl) (fun W hS => ?_) hS ?_
                rotate_left; (focus (first | (go_simp; done) | (go_simp; with_reducible rfl) | (go_simp; rfl))); all_goals skip; (try simp only [List.set_cons_succ, List.set_cons_zero])
                refine D_take 8 (v := ?_) rfl (by kernel_rfl) (by kernel_rfl) (by kernel_rfl) (fun _ _ _ h => h) rfl (by rfl) (fun W hS => ?_) hS ?_
                rotate_left; (focus (first | (go_simp; done) | (go_simp; with_reducible rfl) | (go_simp; rfl))); all_goals skip; (try simp only [List.set_cons_succ, List.set_cons_zero])
                refine D_take 9 (v := (.int .i64 pid)) rfl (by kernel_rfl) (by kernel_rfl) (by kernel_rfl) (fun _ _ _ h => h) rfl (by rfl) (fun W hS => R_load1r (ty := 3) (x := .tmp 59) (off := off + m * 6) rfl hS rfl hbb (fun e => e) hpid Try.isAgg3) hS ?_; (try simp only [List.set_cons_succ, List.set_cons_zero])
                refine D_take 10 (v := ?_) rfl (by kernel_rfl) (by kernel_rfl) (by kernel_rfl) (fun _ _ _ h => h) rfl (by rfl) (fun W hS => ?_) hS ?_
                rotate_left; (focus (first | (go_simp; done) | (go_simp; with_reducible rfl) | (go_simp; rfl))); all_goals skip; (try simp only [List.set_cons_succ, List.set_cons_zero])
                refine D_take 11 (v := ?_) rfl (by kernel_rfl) (by kernel_rfl) (by kernel_rfl) (fun _ _ _ h => h) rfl (by rfl) (fun W hS => ?_) hS ?_
                rotate_left; (focus (first | (refine R_load1 (ty := 3) (x := Operand.tmp 61) rfl hS 0 rfl rfl ?_ Try.isAgg3; rfl) | (refine R_load1 (ty := 3) (x := Operand.tmp 61) rfl hS 1 rfl rfl ?_ Try.isAgg3; rfl))); all_goals skip; (try simp only [List.set_cons_succ, List.set_cons_zero, List.getElem_toArray, List.getElem_cons_succ, List.getElem_cons_zero])
                refine D_take 12 (v := ?_) rfl (by kernel_rfl) (by kernel_rfl) (by kernel_rfl) (fun _ _ _ h => h) rfl (by rfl) (fun W hS => ?_) hS ?_
                rotate_left; (focus (first | (go_simp; done) | (go_simp; with_reducible rfl) | (go_simp; rfl))); all_goals skip; (try simp only [List.set_cons_succ, List.set_cons_zero])
                refine D_take 13 (v := ?_) rfl (by kernel_rfl) (by kernel_rfl) (by kernel_rfl) (fun _ _ _ h => h) rfl (by rfl) (fun W hS => ?_) hS ?_
                rotate_left; (focus (first | (go_simp; done) | (go_simp; with_reducible rfl) | (go_simp; rfl))); all_goals skip; (try simp only [List.set_cons_succ, List.set_cons_zero])
                refine D_take 14 (v := ?_) rfl (by kernel_rfl) (by kernel_rfl) (by kernel_rfl) (fun _ _ _ h => h) rfl (by rfl) (fun W hS => ?_) hS ?_
                rotate_left; (focus (first | (go_simp; done) | (go_simp; with_reducible rfl) | (go_simp; rfl))); all_goals skip; (try simp only [List.set_cons_succ, List.set_cons_zero])
                refine D_take 15 (v := ?_) rfl (by kernel_rfl) (by kernel_rfl) (by kernel_rfl) (fun _ _ _ h => h) rfl (by rfl) (fun W hS => ?_) hS ?_
                rotate_left; (focus (first | (go_simp; done) | (go_simp; with_reducible rfl) | (go_simp; rfl))); all_goals skip; (try simp only [List.set_cons_succ, List.set_cons_zero])
                refine D_take 16 (v := ?_) rfl (by kernel_rfl) (by kernel_rfl) (by kernel_rfl) (fun _ _ _ h => h) rfl (by rfl) (fun W hS => ?_) hS ?_
                rotate_left; (focus (first | (refine R_load1 (ty := 3) (x := Operand.tmp 66) rfl hS 0 rfl rfl ?_ Try.isAgg3; rfl) | (refine R_load1 (ty := 3) (x := Operand.tmp 66) rfl hS 1 rfl rfl ?_ Try.isAgg3; rfl))); all_goals skip; (try simp only [List.set_cons_succ, List.set_cons_zero, List.getElem_toArray, List.getElem_cons_succ, List.getElem_cons_zero])
                refine D_take 17 (v := ?_) rfl (by kernel_rfl) (by kernel_rfl) (by kernel_rfl) (fun _ _ _ h => h) rfl (by rfl) (fun W hS => ?_) hS ?_
                rotate_left; (focus (first | (go_simp; done) | (go_simp; with_reducible rfl) | (go_simp; rfl))); all_goals skip; (try simp only [List.set_cons_succ, List.set_cons_zero])
                refine D_take 18 (v := ?_) rfl (by kernel_rfl) (by kernel_rfl) (by kernel_rfl) (fun _ _ _ h => h) rfl (by rfl) (fun W hS => ?_) hS ?_
                rotate_left; (focus (first | (refine R_load1 (ty := 3) (x := Operand.tmp 68) rfl hS 0 rfl rfl ?_ Try.isAgg3; rfl) | (refine R_load1 (ty := 3) (x := Operand.tmp 68) rfl hS 1 rfl rfl ?_ Try.isAgg3; rfl))); all_goals skip; (try simp only [List.set_cons_succ, List.set_cons_zero, List.getElem_toArray, List.getElem_cons_succ, List.getElem_cons_zero])
                refine D_take 19 (v := ?_) rfl (by kernel_rfl) (by kernel_rfl) (by kernel_rfl) (fun _ _ _ h => h) rfl (by rfl) (fun W hS => ?_) hS ?_
                rotate_left; (focus (first | (go_simp; done) | (go_simp; with_reducible rfl) | (go_simp; rfl))); all_goals skip; (try simp only [List.set_cons_succ, List.set_cons_zero])
                refine D_take 20 (v := ?_) rfl (by kernel_rfl) (by kernel_rfl) (by kernel_rfl) (fun _ _ _ h => h) rfl (by rfl) (fun W hS => ?_) hS ?_
                rotate_left; (focus (first | (go_simp; done) | (go_simp; with_reducible rfl) | (go_simp; rfl))); all_goals skip; (try simp only [List.set_cons_succ, List.set_cons_zero])
                refine D_take 21 (v := ?_) rfl (by kernel_rfl) (by kernel_rfl) (by kernel_rfl) (fun _ _ _ h => h) rfl (by rfl) (fun W hS => ?_) hS ?_
                rotate_left; (focus (first | (go_simp; done) | (go_simp; with_reducible rfl) | (go_simp; rfl))); all_goals skip; (try simp only [List.set_cons_succ, List.set_cons_zero])
                refine D_skip 22 rfl (by kernel_rfl) (by kernel_rfl) (by kernel_rfl) (fun _ _ _ h => h) rfl (by rfl) hS ?_; (try simp only [List.set_cons_succ, List.set_cons_zero])
                refine D_skip 23 rfl (by kernel_rfl) (by kernel_rfl) (by kernel_rfl) (fun _ _ _ h => h) rfl (by rfl) hS ?_; (try simp only [List.set_cons_succ, List.set_cons_zero])
                refine D_skip 24 rfl (by kernel_rfl) (by kernel_rfl) (by kernel_rfl) (fun _ _ _ h => h) rfl (by rfl) hS ?_; (try simp only [List.set_cons_succ, List.set_cons_zero])
                refine D_skip 25 rfl (by kernel_rfl) (by kernel_rfl) (by kernel_rfl) (fun _ _ _ h => h) rfl (by rfl) hS ?_; (try simp only [List.set_cons_succ, List.set_cons_zero])
                refine D_skip 26 rfl (by kernel_rfl) (by kernel_rfl) (by kernel_rfl) (fun _ _ _ h => h) rfl (by rfl) hS ?_; (try simp only [List.set_cons_succ, List.set_cons_zero])
                refine D_skip 27 rfl (by kernel_rfl) (by kernel_rfl) (by kernel_rfl) (fun _ _ _ h => h) rfl (by rfl) hS ?_; (try simp only [List.set_cons_succ, List.set_cons_zero])
                refine D_take 28 (v := ?_) rfl (by kernel_rfl) (by kernel_rfl) (by kernel_rfl) (fun _ _ _ h => h) rfl (by rfl) (fun W hS => ?_) hS ?_
                rotate_left; (focus (first | (go_simp; done) | (go_simp; with_reducible rfl) | (go_simp; rfl))); all_goals skip; (try simp only [List.set_cons_succ, List.set_cons_zero])
                refine D_take 29 (v := ?_) rfl (by kernel_rfl) (by kernel_rfl) (by kernel_rfl) (fun _ _ _ h => h) rfl (by rfl) (fun W hS => ?_) hS ?_
                rotate_left; (focus (first | (go_simp; done) | (go_simp; with_reducible rfl) | (go_simp; rfl))); all_goals skip; (try simp only [List.set_cons_succ, List.set_cons_zero])
                refine D_skip 30 rfl (by kernel_rfl) (by kernel_rfl) (by kernel_rfl) (fun _ _ _ h => h) rfl (by rfl) hS ?_; (try simp only [List.set_cons_succ, List.set_cons_zero])
                refine D_skip 31 rfl (by kernel_rfl) (by kernel_rfl) (by kernel_rfl) (fun _ _ _ h => h) rfl (by rfl) hS ?_; (try simp only [List.set_cons_succ, List.set_cons_zero])
                refine D_skip 32 rfl (by kernel_rfl) (by kernel_rfl) (by kernel_rfl) (fun _ _ _ h => h) rfl (by rfl) hS ?_; (try simp only [List.set_cons_succ, List.set_cons_zero])
                refine D_skip 33 rfl (by kernel_rfl) (by kernel_rfl) (by kernel_rfl) (fun _ _ _ h => h) rfl (by rfl) hS ?_; (try simp only [List.set_cons_succ, List.set_cons_zero])
                refine D_take 34 (v := ?_) rfl (by kernel_rfl) (by kernel_rfl) (by kernel_rfl) (fun _ _ _ h => h) rfl (by rfl) (fun W hS => ?_) hS ?_
                rotate_left; (focus (first | (go_simp; done) | (go_simp; with_reducible rfl) | (go_simp; rfl))); all_goals skip; (try simp only [List.set_cons_succ, List.set_cons_zero])
                refine D_take 35 (v := ?_) rfl (by kernel_rfl) (by kernel_rfl) (by kernel_rfl) (fun _ _ _ h => h) rfl (by rfl) (fun W hS => ?_) hS ?_
                rotate_left; (focus (first | (go_simp; done) | (go_simp; with_reducible rfl) | (go_simp; rfl))); all_goals skip; (try simp only [List.set_cons_succ, List.set_cons_zero])
                refine D_skip 36 rfl (by kernel_rfl) (by kernel_rfl) (by kernel_rfl) (fun _ _ _ h => h) rfl (by rfl) hS ?_; (try simp only [List.set_cons_succ, List.set_cons_zero])
                refine D_skip 37 rfl (by kernel_rfl) (by kernel_rfl) (by kernel_rfl) (fun _ _ _ h => h) rfl (by rfl) hS ?_; (try simp only [List.set_cons_succ, List.set_cons_zero])
                refine D_skip 38 rfl (by kernel_rfl) (by kernel_rfl) (by kernel_rfl) (fun _ _ _ h => h) rfl (by rfl) hS ?_; (try simp only [List.set_cons_succ, List.set_cons_zero])
                refine D_skip 39 rfl (by kernel_rfl) (by kernel_rfl) (by kernel_rfl) (fun _ _ _ h => h) rfl (by rfl) hS ?_; (try simp only [List.set_cons_succ, List.set_cons_zero])
                refine D_take 40 (v := ?_) rfl (by kernel_rfl) (by kernel_rfl) (by kernel_rfl) (fun _ _ _ h => h) rfl (by rfl) (fun W hS => ?_) hS ?_
                rotate_left; (focus (first | (go_simp; done) | (go_simp; with_reducible rfl) | (go_simp; rfl))); all_goals skip; (try simp only [List.set_cons_succ, List.set_cons_zero])
                refine wpAnyH_done (by kernel_rfl) ?_ _
                go_wp2_with fail
                go_meet
                case rel => exact ⟨by rw [HOK.out]; simp [*], hS⟩
            · have hAn : id ≤ pid := by omega
              refine D_start H (by kernel_rfl) (fun hS => ?_)
              try simp only [Act.put, List.setIfInBounds_toArray, List.set_cons_succ, List.set_cons_zero]
              refine D_take 0 (v := ?_) rfl (by kernel_rfl) (by kernel_rfl) (by kernel_rfl) (fun _ _ _ h => h) rfl (by rfl) (fun W hS => ?_) hS ?_
              rotate_left; (focus (first | (go_simp; done) | (go_simp; with_reducible rfl) | (go_simp; rfl))); all_goals skip; (try simp only [List.set_cons_succ, List.set_cons_zero])
              refine D_take 1 (v := ?_) rfl (by kernel_rfl) (by kernel_rfl) (by kernel_rfl) (fun _ _ _ h => h) rfl (by rfl) (fun W hS => ?_) hS ?_
              rotate_left; (focus (first | (go_simp; done) | (go_simp; with_reducible rfl) | (go_simp; rfl))); all_goals skip; (try simp only [List.set_cons_succ, List.set_cons_zero])
              refine D_take 2 (v := ?_) rfl (by kernel_rfl) (by kernel_rfl) (by kernel_rfl) (fun _ _ _ h => h) rfl (by rfl) (fun W hS => ?_) hS ?_
              rotate_left; (focus (first | (go_simp; done) | (go_simp; with_reducible rfl) | (go_simp; rfl))); all_goals skip; (try simp only [List.set_cons_succ, List.set_cons_zero])
              refine D_take 3 (v := ?_) rfl (by kernel_rfl) (by kernel_rfl) (by kernel_rfl) (fun _ _ _ h => h) rfl (by rfl) (fun W hS => ?_) hS ?_
              rotate_left; (focus (first | (go_simp; done) | (go_simp; with_reducible rfl) | (go_simp; rfl))); all_goals skip; (try simp only [List.set_cons_succ, List.set_cons_zero])
              refine D_take 4 (v := ?_) rfl (by kernel_rfl) (by kernel_rfl) (by kernel_rfl) (fun _ _ _ h => h) rfl (by rfl) (fun W hS => ?_) hS ?_
              rotate_left; (focus (first | (refine R_load1 (ty := 22) (x := Operand.tmp 54) rfl hS 0 rfl rfl ?_ Try.isAgg22; rfl) | (refine R_load1 (ty := 22) (x := Operand.tmp 54) rfl hS 1 rfl rfl ?_ Try.isAgg22; rfl))); all_goals skip; (try simp only [List.set_cons_succ, List.set_cons_zero, List.getElem_toArray, List.getElem_cons_succ, List.getElem_cons_zero])
              refine D_take 5 (v := ?_) rfl (by kernel_rfl) (by kernel_rfl) (by kernel_rfl) (fun _ _ _ h => h) rfl (by rfl) (fun W hS => ?_) hS ?_
              rotate_left; (focus (first | (go_simp; done) | (go_simp; with_reducible rfl) | (go_simp; rfl))); all_goals skip; (try simp only [List.set_cons_succ, List.set_cons_zero])
              refine D_take 6 (v := ?_) rfl (by kernel_rfl) (by kernel_rfl) (by kernel_rfl) (fun _ _ _ h => h) rfl (by rfl) (fun W hS => ?_) hS ?_
              rotate_left; (focus (first | (go_simp; done) | (go_simp; with_reducible rfl) | (go_simp; rfl))); all_goals skip; (try simp only [List.set_cons_succ, List.set_cons_zero])
              refine D_take 7 (v := ?_) rfl (by kernel_rfl) (by kernel_rfl) (by kernel_rfl) (fun _ _ _ h => h) rfl (by rfl) (fun W hS => ?_) hS ?_
              rotate_left; (focus (first | (go_simp; done) | (go_simp; with_reducible rfl) | (go_simp; rfl))); all_goals skip; (try simp only [List.set_cons_succ, List.set_cons_zero])
              refine D_take 8 (v := ?_) rfl (by kernel_rfl) (by kernel_rfl) (by kernel_rfl) (fun _ _ _ h => h) rfl (by rfl) (fun W hS => ?_) hS ?_
              rotate_left; (focus (first | (go_simp; done) | (go_simp; with_reducible rfl) | (go_simp; rfl))); all_goals skip; (try simp only [List.set_cons_succ, List.set_cons_zero])
              refine D_take 9 (v := (.int .i64 pid)) rfl (by kernel_rfl) (by kernel_rfl) (by kernel_rfl) (fun _ _ _ h => h) rfl (by rfl) (fun W hS => R_load1r (ty := 3) (x := .tmp 59) (off := off + m * 6) rfl hS rfl hbb (fun e => e) hpid Try.isAgg3) hS ?_; (try simp only [List.set_cons_succ, List.set_cons_zero])
              refine D_take 10 (v := ?_) rfl (by kernel_rfl) (by kernel_rfl) (by kernel_rfl) (fun _ _ _ h => h) rfl (by rfl) (fun W hS => ?_) hS ?_
              rotate_left; (focus (first | (go_simp; done) | (go_simp; with_reducible rfl) | (go_simp; rfl))); all_goals skip; (try simp only [List.set_cons_succ, List.set_cons_zero])
              refine D_take 11 (v := ?_) rfl (by kernel_rfl) (by kernel_rfl) (by kernel_rfl) (fun _ _ _ h => h) rfl (by rfl) (fun W hS => ?_) hS ?_
              rotate_left; (focus (first | (refine R_load1 (ty := 3) (x := Operand.tmp 61) rfl hS 0 rfl rfl ?_ Try.isAgg3; rfl) | (refine R_load1 (ty := 3) (x := Operand.tmp 61) rfl hS 1 rfl rfl ?_ Try.isAgg3; rfl))); all_goals skip; (try simp only [List.set_cons_succ, List.set_cons_zero, List.getElem_toArray, List.getElem_cons_succ, List.getElem_cons_zero])
              refine D_take 12 (v := ?_) rfl (by kernel_rfl) (by kernel_rfl) (by kernel_rfl) (fun _ _ _ h => h) rfl (by rfl) (fun W hS => ?_) hS ?_
              rotate_left; (focus (first | (go_simp; done) | (go_simp; with_reducible rfl) | (go_simp; rfl))); all_goals skip; (try simp only [List.set_cons_succ, List.set_cons_zero])
              refine D_take 13 (v := ?_) rfl (by kernel_rfl) (by kernel_rfl) (by kernel_rfl) (fun _ _ _ h => h) rfl (by rfl) (fun W hS => ?_) hS ?_
              rotate_left; (focus (first | (go_simp; done) | (go_simp; with_reducible rfl) | (go_simp; rfl))); all_goals skip; (try simp only [List.set_cons_succ, List.set_cons_zero])
              refine D_take 14 (v := ?_) rfl (by kernel_rfl) (by kernel_rfl) (by kernel_rfl) (fun _ _ _ h => h) rfl (by rfl) (fun W hS => ?_) hS ?_
              rotate_left; (focus (first | (go_simp; done) | (go_simp; with_reducible rfl) | (go_simp; rfl))); all_goals skip; (try simp only [List.set_cons_succ, List.set_cons_zero])
              refine D_skip 15 rfl (by kernel_rfl) (by kernel_rfl) (by kernel_rfl) (fun _ _ _ h => h) rfl (by rfl) hS ?_; (try simp only [List.set_cons_succ, List.set_cons_zero])
              refine D_skip 16 rfl (by kernel_rfl) (by kernel_rfl) (by kernel_rfl) (fun _ _ _ h => h) rfl (by rfl) hS ?_; (try simp only [List.set_cons_succ, List.set_cons_zero])
              refine D_skip 17 rfl (by kernel_rfl) (by kernel_rfl) (by kernel_rfl) (fun _ _ _ h => h) rfl (by rfl) hS ?_; (try simp only [List.set_cons_succ, List.set_cons_zero])
              refine D_skip 18 rfl (by kernel_rfl) (by kernel_rfl) (by kernel_rfl) (fun _ _ _ h => h) rfl (by rfl) hS ?_; (try simp only [List.set_cons_succ, List.set_cons_zero])
              refine D_skip 19 rfl (by kernel_rfl) (by kernel_rfl) (by kernel_rfl) (fun _ _ _ h => h) rfl (by rfl) hS ?_; (try simp only [List.set_cons_succ, List.set_cons_zero])
              refine D_take 20 (v := ?_) rfl (by kernel_rfl) (by kernel_rfl) (by kernel_rfl) (fun _ _ _ h => h) rfl (by rfl) (fun W hS => ?_) hS ?_
              rotate_left; (focus (first | (go_simp; done) | (go_simp; with_reducible rfl) | (go_simp; rfl))); all_goals skip; (try simp only [List.set_cons_succ, List.set_cons_zero])
              refine D_take 21 (v := ?_) rfl (by kernel_rfl) (by kernel_rfl) (by kernel_rfl) (fun _ _ _ h => h) rfl (by rfl) (fun W hS => ?_) hS ?_
              rotate_left; (focus (first | (go_simp; done) | (go_simp; with_reducible rfl) | (go_simp; rfl))); all_goals skip; (try simp only [List.set_cons_succ, List.set_cons_zero])
              refine D_skip 22 rfl (by kernel_rfl) (by kernel_rfl) (by kernel_rfl) (fun _ _ _ h => h) rfl (by rfl) hS ?_; (try simp only [List.set_cons_succ, List.set_cons_zero])
              refine D_skip 23 rfl (by kernel_rfl) (by kernel_rfl) (by kernel_rfl) (fun _ _ _ h => h) rfl (by rfl) hS ?_; (try simp only [List.set_cons_succ, List.set_cons_zero])
              refine D_skip 24 rfl (by kernel_rfl) (by kernel_rfl) (by kernel_rfl) (fun _ _ _ h => h) rfl (by rfl) hS ?_; (try simp only [List.set_cons_succ, List.set_cons_zero])
              refine D_skip 25 rfl (by kernel_rfl) (by kernel_rfl) (by kernel_rfl) (fun _ _ _ h => h) rfl (by rfl) hS ?_; (try simp only [List.set_cons_succ, List.set_cons_zero])
              refine D_skip 26 rfl (by kernel_rfl) (by kernel_rfl) (by kernel_rfl) (fun _ _ _ h => h) rfl (by rfl) hS ?_; (try simp only [List.set_cons_succ, List.set_cons_zero])
              refine D_skip 27 rfl (by kernel_rfl) (by kernel_rfl) (by kernel_rfl) (fun _ _ _ h => h) rfl (by rfl) hS ?_; (try simp only [List.set_cons_succ, List.set_cons_zero])
              refine D_take 28 (v := ?_) rfl (by kernel_rfl) (by kernel_rfl) (by kernel_rfl) (fun _ _ _ h => h) rfl (by rfl) (fun W hS => ?_) hS ?_
              rotate_left; (focus (first | (go_simp; done) | (go_simp; with_reducible rfl) | (go_simp; rfl))); all_goals skip; (try simp only [List.set_cons_succ, List.set_cons_zero])
              refine D_take 29 (v := ?_) rfl (by kernel_rfl) (by kernel_rfl) (by kernel_rfl) (fun _ _ _ h => h) rfl (by rfl) (fun W hS => ?_) hS ?_
              rotate_left; (focus (first | (go_simp; done) | (go_simp; with_reducible rfl) | (go_simp; rfl))); all_goals skip; (try simp only [List.set_cons_succ, List.set_cons_zero])
              refine D_skip 30 rfl (by kernel_rfl) (by kernel_rfl) (by kernel_rfl) (fun _ _ _ h => h) rfl (by rfl) hS ?_; (try simp only [List.set_cons_succ, List.set_cons_zero])
              refine D_skip 31 rfl (by kernel_rfl) (by kernel_rfl) (by kernel_rfl) (fun _ _ _ h => h) rfl (by rfl) hS ?_; (try simp only [List.set_cons_succ, List.set_cons_zero])
              refine D_skip 32 rfl (by kernel_rfl) (by kernel_rfl) (by kernel_rfl) (fun _ _ _ h => h) rfl (by rfl) hS ?_; (try simp only [List.set_cons_succ, List.set_cons_zero])
              refine D_skip 33 rfl (by kernel_rfl) (by kernel_rfl) (by kernel_rfl) (fun _ _ _ h => h) rfl (by rfl) hS ?_; (try simp only [List.set_cons_succ, List.set_cons_zero])
              refine D_take 34 (v := ?_) rfl (by kernel_rfl) (by kernel_rfl) (by kernel_rfl) (fun _ _ _ h => h) rfl (by rfl) (fun W hS => ?_) hS ?_
              rotate_left; (focus (first | (go_simp; done) | (go_simp; with_reducible rfl) | (go_simp; rfl))); all_goals skip; (try simp only [List.set_cons_succ, List.set_cons_zero])
              refine D_take 35 (v := ?_) rfl (by kernel_rfl) (by kernel_rfl) (by kernel_rfl) (fun _ _ _ h => h) rfl (by rfl) (fun W hS => ?_) hS ?_
              rotate_left; (focus (first | (go_simp; done) | (go_simp; with_reducible rfl) | (go_simp; rfl))); all_goals skip; (try simp only [List.set_cons_succ, List.set_cons_zero])
              refine D_skip 36 rfl (by kernel_rfl) (by kernel_rfl) (by kernel_rfl) (fun _ _ _ h => h) rfl (by rfl) hS ?_; (try simp only [List.set_cons_succ, List.set_cons_zero])
              refine D_skip 37 rfl (by kernel_rfl) (by kernel_rfl) (by kernel_rfl) (fun _ _ _ h => h) rfl (by rfl) hS ?_; (try simp only [List.set_cons_succ, List.set_cons_zero])
              refine D_skip 38 rfl (by kernel_rfl) (by kernel_rfl) (by kernel_rfl) (fun _ _ _ h => h) rfl (by rfl) hS ?_; (try simp only [List.set_cons_succ, List.set_cons_zero])
              refine D_skip 39 rfl (by kernel_rfl) (by kernel_rfl) (by kernel_rfl) (fun _ _ _ h => h) rfl (by rfl) hS ?_; (try simp only [List.set_cons_succ, List.set_cons_zero])
              refine D_take 40 (v := ?_) rfl (by kernel_rfl) (by kernel_rfl) (by kernel_rfl) (fun _ _ _ h => h) rfl (by rfl) (fun W hS => ?_) hS ?_
              rotate_left; (focus (first | (go_simp; done) | (go_simp; with_reducible rfl) | (go_simp; rfl))); all_goals skip; (try simp only [List.set_cons_succ, List.set_cons_zero])
              refine wpAnyH_done (by kernel_rfl) ?_ _
              go_wp2_with fail
              go_meet
              case rel => exact ⟨by rw [HOK.out]; simp [*], hS⟩
        case rest =>
          obtain ⟨rfl, H⟩ := hcut
          cases okB
          · have hr : res = false := by rw [← HRES.out, decide_eq_false_iff_not]; intro h; have := (HBLK.out.1.1 (h.2.1 k _ HBLK.out.2)).1; cases this
            subst hr
            go_wp2_with fail
            go_ret
            exact ⟨rfl, H.ext⟩
          · have hbk := H.at_ 0 rfl
            have hx4 : wc.cell? ⟨g6, 4, none⟩ = some (.int .i64 ep) := cell_of_row _ g6 4 _ _ _ hbk
            have hbt := H.at_ 1 rfl
            have hy0 : wc.cell? ⟨g, 0, none⟩ = some (.int .i64 epoch) := cell_of_row _ g 0 _ _ _ hbt
            have hy1 : wc.cell? ⟨g, 1, none⟩ = some (.int .i64 old) := cell_of_row _ g 1 _ _ _ hbt
            have hy2 : wc.cell? ⟨g, 2, none⟩ = some (.int .i64 phase) := cell_of_row _ g 2 _ _ _ hbt
            clear hbk hbt
            by_cases h1 : ep = epoch
            · have hb1 : (ep != epoch) = false := by simp [h1]
              have HW := Lib.hid h1
              clear h1
              go_wp2_with fail
              go_roundg (gk - 1)
              case measure => omega
              case rel => exact ⟨k + 1, by go_num, by omega, H.drop (List.sublist_cons_self _ _), Lib.hid (fun j b hj hb => by
                by_cases hjk : j < k
                · exact HA.out j b hjk hb
                · obtain rfl : j = k := by omega
                  rw [HBLK.out.2] at hb
                  cases hb
                  exact HBLK.out.1.2 ⟨by simp, .inl HW.out⟩)⟩
            · have hb1 : (ep != epoch) = true := by simp [h1]
              by_cases h2 : phase = 1
              · have hb2 : (phase != 1) = false := by simp [h2]
                by_cases h3 : ep = old
                · have hb3 : (ep != old) = false := by simp [h3]
                  have HW := Lib.hid (And.intro h2 h3)
                  clear h1 h2 h3
                  go_wp2_with fail
                  go_roundg (gk - 1)
                  case measure => omega
                  case rel => exact ⟨k + 1, by go_num, by omega, H.drop (List.sublist_cons_self _ _), Lib.hid (fun j b hj hb => by
                    by_cases hjk : j < k
                    · exact HA.out j b hjk hb
                    · obtain rfl : j = k := by omega
                      rw [HBLK.out.2] at hb
                      cases hb
                      exact HBLK.out.1.2 ⟨by simp, .inr HW.out⟩)⟩
                · have hb3 : (ep != old) = true := by simp [h3]
                  have hr : res = false := by rw [← HRES.out, decide_eq_false_iff_not]; intro h; exact absurd (HBLK.out.1.1 (h.2.1 k _ HBLK.out.2)).2 (by rintro (h9 | ⟨h8, h9⟩) <;> first | exact h1 h9 | exact h3 h9 | exact h2 h8)
                  subst hr
                  go_wp2_with fail
                  go_ret
                  exact ⟨rfl, H.ext⟩
              · have hb2 : (phase != 1) = true := by simp [h2]
                have hr : res = false := by rw [← HRES.out, decide_eq_false_iff_not]; intro h; exact absurd (HBLK.out.1.1 (h.2.1 k _ HBLK.out.2)).2 (by rintro (h9 | ⟨h8, h9⟩) <;> first | exact h1 h9 | exact h3 h9 | exact h2 h8)
                subst hr
                go_wp2_with fail
                go_ret
                exact ⟨rfl, H.ext⟩
      · have hke : k = ps.length := by omega
        have hjn2 : ¬ ((k : Int) < (ps.length : Int)) := by omega
        have hbl : bs.length = ps.length := by rw [← HP.out.1, List.length_map]
        have hr : res = goodB (spansP bs) n := by
          have hg : goodP ⟨epoch, old, phase, mode, next, gen, bs⟩ n ↔ goodB (spansP bs) n = true := ⟨fun h => h.2.2, fun h => ⟨HHD.out, fun j b hj => HA.out j b (by
            have := (List.getElem?_eq_some_iff.1 hj).1
            have h9 : j < bs.length := this
            omega) hj, h⟩⟩
          rw [← HRES.out]
          cases hq : goodB (spansP bs) n
          · rw [decide_eq_false_iff_not, hg, hq]; simp
          · rw [decide_eq_true_eq, hg, hq]
        have hlen : (spansP bs).length ≤ 1000 := by rw [spansP, List.length_map, hbl]; exact hn
        have hsm : Small (spansP bs) := fun x hx => by
          obtain ⟨b, hb, rfl⟩ := List.mem_map.1 hx
          have h1 := HP.out.2 b hb
          have h2 := needP_le h1.2.2
          exact ⟨h1.1.1, by show b.at_ < _; have := h1.1.2; omega, by show _ ≤ needP b.size; omega, by show needP b.size < _; omega⟩
        have hgd := fun {W : World} {v2 : Value} (h : RdS Sp.cells 2 W v2 (spansP bs)) => good_any v2 (spansP bs) n W hlen h hn0 hn1 hsm
        rw [← hr] at hgd
        clear hr hlen hsm hbl HRES
        go_wp2_with (first
          | (refine L_loadrow rfl rfl H 0 rfl rfl Try.underlying24 rfl info24 rfl ?_; (try simp only [Act.put, List.setIfInBounds_toArray, List.set_cons_succ, List.set_cons_zero, List.getElem_toArray, List.getElem_cons_succ, List.getElem_cons_zero]))
          | (go_at_call 13; refine (hsp H.ext).mono ?_; rintro e w2 ⟨v2, rfl, hv2, hE⟩; replace H := H.calls hE; clear hE)
          | (go_at_call 31; refine (hgd hv2).mono ?_; rintro e w3 ⟨rfl, hE3⟩))
        go_ret
        exact ⟨rfl, H.ext.trans0 hE3⟩
end Go.Proofs.Ytoaieodcdbbndaa
