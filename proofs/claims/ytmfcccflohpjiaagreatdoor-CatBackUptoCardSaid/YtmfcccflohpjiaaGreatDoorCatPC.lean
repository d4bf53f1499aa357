/- Names of files: the document's Under; Texts; the fixed fact. -/
import Derived.Test.YtmfcccflohpjiaaGreatDoorCatPB
namespace Go.Proofs.YtmfcccflohpjiaaGreatDoor.Pth
set_option linter.unusedVariables false
set_option linter.unusedSimpArgs false
open Go.RowKit Go.Shelf

/-- A load out of a slice whose elements are one cell each. -/
theorem R_loadRd {P : Program} {a : Act} {w : World} {o : Oper} {α : Type} {enc : α → List Value} {ty : TypeId} {x : Operand} (ho : o.op = .load ty x) {b off n cap : Nat} {xs : List α} (hr : RdS enc 1 w (.slice (some ⟨b, off, none⟩) n cap) xs) {j : Nat} (hj : j < xs.length) (hx : a.eval x = .pointer (some ⟨b, off + j, none⟩)) {v : Value} (hv : enc xs[j] = [v])
    (hag : ∀ w, (isAgg ty).run P w = .ok false w) : (execOp a.eval o).run P w = .ok (.value v) w := by
  obtain ⟨b', off', cs, T, fr, he, hb, hcs⟩ := hr.cell hj
  cases he
  have h1 := hcs 0 (by omega)
  rw [hv, Nat.mul_one, Nat.add_zero] at h1
  have hc : w.cell? ⟨b, off + j, none⟩ = some v := by rw [cell_of_row w b _ cs T fr hb, h1]; rfl
  unfold execOp
  simp only [ho, hx, Instr.loadAt, Instr.sureAddr, loadVar, Sem.run_bind, Sem.run_pure, Result.andThen_ok, hag]
  simp [hc]
theorem Strs.rd {w : World} {v : Value} {ps : List (List UInt8)} (h : Strs w v ps) : RdS encB 1 w v ps := by
  rcases h with ⟨rfl, rfl⟩ | ⟨_, b, T, fr, rfl, hb⟩
  · exact RdS.nil _ _ _
  · refine ⟨_, _, rfl, Nat.le_refl _, .inr ⟨b, 0, _, T, fr, rfl, hb, fun j hj i hi => ?_⟩⟩
    obtain rfl : i = 0 := by omega
    simp [strRow, encB, hj]

theorem byte47 (c : UInt8) : (((c.toNat : Int)) == 47) = (some c == some (47 : UInt8)) := by
  rw [Bool.eq_iff_iff, beq_iff_eq, beq_iff_eq, Option.some.injEq, ← UInt8.toNat_inj]
  show _ ↔ c.toNat = 47
  omega
set_option maxHeartbeats 1000000 in
theorem refUnder_any (s t : ByteArray) (w : World) (hs : s.size < 4294967281) (ht : t.size < 4294967281) : Calls Tryz.prog 33 #[.string s, .string t] w fun e w' => e = .returned (.bool (underL (lst s) (lst t))) ∧ Ext0 w w' := by
  have hg1 := refGood_any s w hs
  have hg2 := fun {w' : World} (_ : Ext0 w w') => refGood_any t w' ht
  have hu : underL (lst s) (lst t) = (goodL (lst s) && goodL (lst t) && decide (t.size < s.size) && ((s.extract 0 t.size).toList == t.toList) && ((lst s)[t.size]? == some 47)) := by
    rw [under_ref, lst_len, lst_len, Go.ByteArray.toList_eq, Go.ByteArray.toList_eq, Lib.extract_data, List.drop_zero]
    rfl
  have HU := Lib.hid hu
  clear hu
  generalize underL (lst s) (lst t) = q at HU ⊢
  generalize goodL (lst s) = q1 at hg1 HU
  generalize goodL (lst t) = q2 at hg2 HU
  cases q1
  · go_enter Tryz.func33, Tryz.ntmps33
    go_wp2_with (first
      | (go_at_call 55; refine hg1.mono ?_; rintro e w1 ⟨rfl, H1⟩))
    go_ret
    exact ⟨by rw [HU.out]; rfl, H1⟩
  · cases q2
    · go_enter Tryz.func33, Tryz.ntmps33
      go_wp2_with (first
        | (go_at_call_of 55 (Value.string s); refine hg1.mono ?_; clear hg1; rintro e w1 ⟨rfl, H1⟩)
        | (go_at_call 55; refine (hg2 H1).mono ?_; rintro e w2 ⟨rfl, H2⟩))
      go_ret
      exact ⟨by rw [HU.out]; rfl, H1.trans0 H2⟩
    · by_cases hl : t.size < s.size
      · have hl' : (t.size : Int) < (s.size : Int) := by omega
        have HC : Hid ((lst s)[t.size]? = some s[t.size]) := Lib.hid (by rw [List.getElem?_eq_getElem (by rw [lst_len]; exact hl)]; rfl)
        go_enter Tryz.func33, Tryz.ntmps33
        go_wp2_with (first
          | (go_at_call_of 55 (Value.string s); refine hg1.mono ?_; clear hg1; rintro e w1 ⟨rfl, H1⟩)
          | (go_at_call 55; refine (hg2 H1).mono ?_; clear hg2; rintro e w2 ⟨rfl, H2⟩))
        all_goals go_ret
        all_goals refine ⟨?_, H1.trans0 H2⟩
        · have he : (s.extract 0 t.size).toList = t.toList := by assumption
          show Ending.returned (Value.bool ((s[t.size].toNat : Int) == 47)) = _
          rw [HU.out, HC.out, byte47, he]
          simp [hl]
        · have he : ¬ (s.extract 0 t.size).toList = t.toList := by assumption
          show Ending.returned (Value.bool false) = _
          rw [HU.out, beq_eq_false_iff_ne.2 he]
          simp
      · have hl' : ¬ (t.size : Int) < (s.size : Int) := by omega
        go_enter Tryz.func33, Tryz.ntmps33
        go_wp2_with (first
          | (go_at_call_of 55 (Value.string s); refine hg1.mono ?_; clear hg1; rintro e w1 ⟨rfl, H1⟩)
          | (go_at_call 55; refine (hg2 H1).mono ?_; clear hg2; rintro e w2 ⟨rfl, H2⟩))
        go_ret
        exact ⟨by rw [HU.out]; simp [hl], H1.trans0 H2⟩

end Go.Proofs.YtmfcccflohpjiaaGreatDoor.Pth
