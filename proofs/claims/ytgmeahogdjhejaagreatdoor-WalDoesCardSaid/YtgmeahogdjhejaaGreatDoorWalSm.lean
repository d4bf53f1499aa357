/- Lists of records: the document's Same. -/
import Derived.Test.YtgmeahogdjhejaaGreatDoorWalT
namespace Go.Proofs.YtgmeahogdjhejaaGreatDoor
set_option linter.unusedVariables false
set_option linter.unusedSimpArgs false
open Go.RowKit Go.Shelf

theorem R_loadCellW {P : Program} {a : Act} {w : World} {o : Oper} {ty : TypeId} {x : Operand} (ho : o.op = .load ty x) {p : Addr} {v : Value} (hx : a.eval x = .pointer (some p)) (hc : w.cell? p = some v) (hag : ∀ w, (isAgg ty).run P w = .ok false w) : (execOp a.eval o).run P w = .ok (.value v) w := by
  unfold execOp
  simp only [ho, hx, Instr.loadAt, Instr.sureAddr, loadVar, Sem.run_bind, Sem.run_pure, Result.andThen_ok, hag]
  simp [hc]
theorem R_convertW {P : Program} {a : Act} {w : World} {o : Oper} {x : Operand} {src dst : TypeId} (ho : o.op = .convert src dst x) {v u : Value} (hx : a.eval x = v) (hr : (convert src dst v).run P w = .ok u w) : (execOp a.eval o).run P w = .ok (.value u) w := R_convert ho hx hr
theorem rows_cell {w : World} {A : Option Addr} {n cap : Nat} {ts : List (Option Addr × Nat × Nat)} (h : RdS encSl 1 w (.slice A n cap) ts) {j : Nat} (hj : j < ts.length) : ∃ b off, A = some ⟨b, off, none⟩ ∧ w.cell? ⟨b, off + j, none⟩ = some (slV ts[j]) := by
  obtain ⟨b, off, cs, T, fr, he, hb, hcs⟩ := h.cell hj
  cases he
  refine ⟨b, off, rfl, ?_⟩
  rw [cell_of_row w b _ cs T fr hb]
  have := hcs 0 (by omega)
  simpa [encSl] using this
def SameR (ps qs : List ((Option Addr × Nat × Nat) × List Int)) (w0 : World) (v5 : Value) (wr : World) : Prop :=
  ∃ k : Nat, v5 = .int .i64 (k : Int) ∧ k ≤ ps.length ∧ Ext0 w0 wr ∧ Hid ((ps.map (·.2)).take k = (qs.map (·.2)).take k)
set_option maxRecDepth 100000 in
set_option maxHeartbeats 2000000 in
theorem rows_same (v u : Value) (ps qs : List ((Option Addr × Nat × Nat) × List Int)) (w0 : World) (hv : RdS encSl 1 w0 v (ps.map (·.1))) (hu : RdS encSl 1 w0 u (qs.map (·.1))) (hp : (rowsA ps).says w0) (hq : (rowsA qs).says w0)
    (hbp : ∀ p ∈ ps, ∀ x ∈ p.2, 0 ≤ x ∧ x ≤ 255) (hbq : ∀ p ∈ qs, ∀ x ∈ p.2, 0 ≤ x ∧ x ≤ 255) (hl : ps.length ≤ 1000000) :
    Calls Tryz.prog 11 #[v, u] w0 fun e w' => e = .returned (.bool (decide (ps.map (·.2) = qs.map (·.2)))) ∧ Ext0 w0 w' := by
  obtain ⟨A, cap, rfl, hcap⟩ := hv.len
  obtain ⟨B, cap2, rfl, hcap2⟩ := hu.len
  simp only [List.length_map] at hcap hcap2 hv hu ⊢
  have H0 : Ext0 w0 w0 := Ext.refl _ _
  by_cases hn : ps.length = qs.length
  · have HV := Lib.hid (And.intro hv (And.intro hu (And.intro hp (And.intro hq (And.intro hbp (And.intro hbq hn))))))
    rw [← hn]
    obtain ⟨n, hnn⟩ : ∃ n, ps.length = n := ⟨_, rfl⟩
    have HL := Lib.hid hnn
    obtain ⟨q, hqq⟩ : ∃ q, decide (ps.map (·.2) = qs.map (·.2)) = q := ⟨_, rfl⟩
    have HQ := Lib.hid hqq
    rw [hnn, hqq]
    rw [hnn] at hl
    clear hv hu hp hq hbp hbq hn hnn hcap hcap2 hqq
    go_enter Tryz.func11, Tryz.ntmps11
    go_wp2_with fail
    go_loopw [5] (SameR ps qs w0) (fun vi _ => n - (intOf vi).toNat)
    case atStart => exact ⟨0, rfl, Nat.zero_le _, H0, Lib.hid (by simp)⟩
    case round =>
      obtain ⟨k, rfl, hk, hE, hst⟩ := hrel
      rw [HL.out] at hk
      by_cases hkn : k < n
      · have hki : (k : Int) < (n : Int) := by omega
        have hw : IntKind.i64.wrap ((k : Int) + 1) = ((k + 1 : Nat) : Int) := by rw [IntKind.wrap_i64]; omega
        have hkp : k < ps.length := by rw [HL.out]; exact hkn
        have hkq : k < qs.length := by rw [← HV.out.2.2.2.2.2.2]; exact hkp
        obtain ⟨b1, o1, rfl, hc1⟩ := rows_cell HV.out.1 (j := k) (by simpa using hkp)
        obtain ⟨b2, o2, rfl, hc2⟩ := rows_cell HV.out.2.1 (j := k) (by simpa using hkq)
        rw [List.getElem_map] at hc1 hc2
        have hr1 := HV.out.2.2.1 ps[k] (List.getElem_mem hkp)
        have hr2 := HV.out.2.2.2.1 qs[k] (List.getElem_mem hkq)
        have hx1 := HV.out.2.2.2.2.1 ps[k] (List.getElem_mem hkp)
        have hx2 := HV.out.2.2.2.2.2.1 qs[k] (List.getElem_mem hkq)
        have hg1 : (ps.map (·.2))[k]? = some ps[k].2 := by simp [hkp]
        have hg2 : (qs.map (·.2))[k]? = some qs[k].2 := by simp [hkq]
        obtain ⟨pk, hpk⟩ : ∃ pk, ps[k] = pk := ⟨_, rfl⟩
        obtain ⟨qk, hqk⟩ : ∃ qk, qs[k] = qk := ⟨_, rfl⟩
        rw [hpk] at hc1 hr1 hx1 hg1
        rw [hqk] at hc2 hr2 hx2 hg2
        obtain ⟨⟨A1, n1, c1⟩, xs⟩ := pk
        obtain ⟨⟨A2, n2, c2⟩, ys⟩ := qk
        simp only [slV] at hc1 hc2 hr1 hr2 hx1 hx2 hg1 hg2
        have hcell1 := fun {W : World} (e : Ext0 w0 W) => e.cell hc1 (fun h => h)
        have hcell2 := fun {W : World} (e : Ext0 w0 W) => e.cell hc2 (fun h => h)
        have hs1 := fun {W : World} (e : Ext0 w0 W) => run_string (hr1.keep e) Tryz.underlying22 Tryz.underlying5 Tryz.underlying9
        have hs2 := fun {W : World} (e : Ext0 w0 W) => run_string (hr2.keep e) Tryz.underlying22 Tryz.underlying5 Tryz.underlying9
        have hinj : (strOfNums xs).toList = (strOfNums ys).toList ↔ xs = ys := ⟨str_inj hx1 hx2, fun h => by rw [h]⟩
        have hmore : (xs = ys ↔ (ps.map (·.2)).take (k + 1) = (qs.map (·.2)).take (k + 1)) := by
          rw [List.take_add_one, List.take_add_one, hg1, hg2, hst.out]
          simp
        obtain ⟨s1, hs1e⟩ : ∃ s1, strOfNums xs = s1 := ⟨_, rfl⟩
        obtain ⟨s2, hs2e⟩ : ∃ s2, strOfNums ys = s2 := ⟨_, rfl⟩
        rw [hs1e] at hs1 hinj
        rw [hs2e] at hs2 hinj
        have HM := Lib.hid (And.intro hinj hmore)
        clear hinj hmore hs1e hs2e hg1 hg2 hx1 hx2 hr1 hr2 hc1 hc2 hpk hqk hkp hkq
        by_cases hss : s1.toList = s2.toList
        · have HS := Lib.hid hss
          go_upto_region 6 with fail
          have hD := SH.nil (fun _ => False) wr
          refine D_start hD (by kernel_rfl) (fun hS => ?_)
          try simp only [Act.put, List.setIfInBounds_toArray, List.set_cons_succ, List.set_cons_zero]
          refine D_take 0 (v := ?_) rfl (by kernel_rfl) (by kernel_rfl) (by kernel_rfl) (fun _ _ _ h => h) rfl (by rfl) (fun W hS => ?_) hS ?_
          rotate_left; (focus (first | (go_simp; done) | (go_simp; with_reducible rfl) | (go_simp; rfl))); all_goals skip; (try simp only [List.set_cons_succ, List.set_cons_zero])
          refine D_take 1 (v := ?_) rfl (by kernel_rfl) (by kernel_rfl) (by kernel_rfl) (fun _ _ _ h => h) rfl (by rfl) (fun W hS => ?_) hS ?_
          rotate_left; (focus (first | (go_simp; done) | (go_simp; with_reducible rfl) | (go_simp; rfl))); all_goals skip; (try simp only [List.set_cons_succ, List.set_cons_zero])
          refine D_take 2 (v := ?_) rfl (by kernel_rfl) (by kernel_rfl) (by kernel_rfl) (fun _ _ _ h => h) rfl (by rfl) (fun W hS => ?_) hS ?_
          rotate_left; (focus (first | (go_simp; done) | (go_simp; with_reducible rfl) | (go_simp; rfl))); all_goals skip; (try simp only [List.set_cons_succ, List.set_cons_zero])
          refine D_take 3 (v := (.slice A1 n1 c1)) rfl (by kernel_rfl) (by kernel_rfl) (by kernel_rfl) (fun _ _ _ h => h) rfl (by rfl) (fun W hS => R_loadCellW (ty := 22) (x := .tmp 19) rfl rfl (hcell1 (hE.trans0 hS.ext)) Tryz.isAgg22) hS ?_; (try simp only [List.set_cons_succ, List.set_cons_zero])
          refine D_take 4 (v := (.string s1)) rfl (by kernel_rfl) (by kernel_rfl) (by kernel_rfl) (fun _ _ _ h => h) rfl (by rfl) (fun W hS => R_convertW (src := 22) (dst := 9) (x := .tmp 20) rfl rfl (hs1 (hE.trans0 hS.ext))) hS ?_; (try simp only [List.set_cons_succ, List.set_cons_zero])
          refine D_take 5 (v := ?_) rfl (by kernel_rfl) (by kernel_rfl) (by kernel_rfl) (fun _ _ _ h => h) rfl (by rfl) (fun W hS => ?_) hS ?_
          rotate_left; (focus (first | (go_simp; done) | (go_simp; with_reducible rfl) | (go_simp; rfl))); all_goals skip; (try simp only [List.set_cons_succ, List.set_cons_zero])
          refine D_take 6 (v := ?_) rfl (by kernel_rfl) (by kernel_rfl) (by kernel_rfl) (fun _ _ _ h => h) rfl (by rfl) (fun W hS => ?_) hS ?_
          rotate_left; (focus (first | (go_simp; done) | (go_simp; with_reducible rfl) | (go_simp; rfl))); all_goals skip; (try simp only [List.set_cons_succ, List.set_cons_zero])
          refine D_take 7 (v := ?_) rfl (by kernel_rfl) (by kernel_rfl) (by kernel_rfl) (fun _ _ _ h => h) rfl (by rfl) (fun W hS => ?_) hS ?_
          rotate_left; (focus (first | (go_simp; done) | (go_simp; with_reducible rfl) | (go_simp; rfl))); all_goals skip; (try simp only [List.set_cons_succ, List.set_cons_zero])
          refine D_take 8 (v := (.slice A2 n2 c2)) rfl (by kernel_rfl) (by kernel_rfl) (by kernel_rfl) (fun _ _ _ h => h) rfl (by rfl) (fun W hS => R_loadCellW (ty := 22) (x := .tmp 24) rfl rfl (hcell2 (hE.trans0 hS.ext)) Tryz.isAgg22) hS ?_; (try simp only [List.set_cons_succ, List.set_cons_zero])
          refine D_take 9 (v := (.string s2)) rfl (by kernel_rfl) (by kernel_rfl) (by kernel_rfl) (fun _ _ _ h => h) rfl (by rfl) (fun W hS => R_convertW (src := 22) (dst := 9) (x := .tmp 25) rfl rfl (hs2 (hE.trans0 hS.ext))) hS ?_; (try simp only [List.set_cons_succ, List.set_cons_zero])
          refine D_take 10 (v := ?_) rfl (by kernel_rfl) (by kernel_rfl) (by kernel_rfl) (fun _ _ _ h => h) rfl (by rfl) (fun W hS => ?_) hS ?_
          rotate_left; (focus (first | (go_simp; done) | (go_simp; with_reducible rfl) | (go_simp; rfl))); all_goals skip; (try simp only [List.set_cons_succ, List.set_cons_zero])
          refine wpAnyH_done (by kernel_rfl) ?_ _
          go_wp2_with fail
          go_roundw
          case rel => exact ⟨k + 1, rfl, by rw [HL.out]; omega, hE.trans0 hS.ext, Lib.hid (HM.out.2.1 (HM.out.1.1 HS.out))⟩
          case measure => simp [intOf]; omega
        · have hss2 : (s1.toList == s2.toList) = false := by simp [hss]
          have hss3 : (s1.toList != s2.toList) = true := by simp [hss]
          go_upto_region 6 with fail
          have hD := SH.nil (fun _ => False) wr
          refine D_start hD (by kernel_rfl) (fun hS => ?_)
          try simp only [Act.put, List.setIfInBounds_toArray, List.set_cons_succ, List.set_cons_zero]
          refine D_take 0 (v := ?_) rfl (by kernel_rfl) (by kernel_rfl) (by kernel_rfl) (fun _ _ _ h => h) rfl (by rfl) (fun W hS => ?_) hS ?_
          rotate_left; (focus (first | (go_simp; done) | (go_simp; with_reducible rfl) | (go_simp; rfl))); all_goals skip; (try simp only [List.set_cons_succ, List.set_cons_zero])
          refine D_take 1 (v := ?_) rfl (by kernel_rfl) (by kernel_rfl) (by kernel_rfl) (fun _ _ _ h => h) rfl (by rfl) (fun W hS => ?_) hS ?_
          rotate_left; (focus (first | (go_simp; done) | (go_simp; with_reducible rfl) | (go_simp; rfl))); all_goals skip; (try simp only [List.set_cons_succ, List.set_cons_zero])
          refine D_take 2 (v := ?_) rfl (by kernel_rfl) (by kernel_rfl) (by kernel_rfl) (fun _ _ _ h => h) rfl (by rfl) (fun W hS => ?_) hS ?_
          rotate_left; (focus (first | (go_simp; done) | (go_simp; with_reducible rfl) | (go_simp; rfl))); all_goals skip; (try simp only [List.set_cons_succ, List.set_cons_zero])
          refine D_take 3 (v := (.slice A1 n1 c1)) rfl (by kernel_rfl) (by kernel_rfl) (by kernel_rfl) (fun _ _ _ h => h) rfl (by rfl) (fun W hS => R_loadCellW (ty := 22) (x := .tmp 19) rfl rfl (hcell1 (hE.trans0 hS.ext)) Tryz.isAgg22) hS ?_; (try simp only [List.set_cons_succ, List.set_cons_zero])
          refine D_take 4 (v := (.string s1)) rfl (by kernel_rfl) (by kernel_rfl) (by kernel_rfl) (fun _ _ _ h => h) rfl (by rfl) (fun W hS => R_convertW (src := 22) (dst := 9) (x := .tmp 20) rfl rfl (hs1 (hE.trans0 hS.ext))) hS ?_; (try simp only [List.set_cons_succ, List.set_cons_zero])
          refine D_take 5 (v := ?_) rfl (by kernel_rfl) (by kernel_rfl) (by kernel_rfl) (fun _ _ _ h => h) rfl (by rfl) (fun W hS => ?_) hS ?_
          rotate_left; (focus (first | (go_simp; done) | (go_simp; with_reducible rfl) | (go_simp; rfl))); all_goals skip; (try simp only [List.set_cons_succ, List.set_cons_zero])
          refine D_take 6 (v := ?_) rfl (by kernel_rfl) (by kernel_rfl) (by kernel_rfl) (fun _ _ _ h => h) rfl (by rfl) (fun W hS => ?_) hS ?_
          rotate_left; (focus (first | (go_simp; done) | (go_simp; with_reducible rfl) | (go_simp; rfl))); all_goals skip; (try simp only [List.set_cons_succ, List.set_cons_zero])
          refine D_take 7 (v := ?_) rfl (by kernel_rfl) (by kernel_rfl) (by kernel_rfl) (fun _ _ _ h => h) rfl (by rfl) (fun W hS => ?_) hS ?_
          rotate_left; (focus (first | (go_simp; done) | (go_simp; with_reducible rfl) | (go_simp; rfl))); all_goals skip; (try simp only [List.set_cons_succ, List.set_cons_zero])
          refine D_take 8 (v := (.slice A2 n2 c2)) rfl (by kernel_rfl) (by kernel_rfl) (by kernel_rfl) (fun _ _ _ h => h) rfl (by rfl) (fun W hS => R_loadCellW (ty := 22) (x := .tmp 24) rfl rfl (hcell2 (hE.trans0 hS.ext)) Tryz.isAgg22) hS ?_; (try simp only [List.set_cons_succ, List.set_cons_zero])
          refine D_take 9 (v := (.string s2)) rfl (by kernel_rfl) (by kernel_rfl) (by kernel_rfl) (fun _ _ _ h => h) rfl (by rfl) (fun W hS => R_convertW (src := 22) (dst := 9) (x := .tmp 25) rfl rfl (hs2 (hE.trans0 hS.ext))) hS ?_; (try simp only [List.set_cons_succ, List.set_cons_zero])
          refine D_take 10 (v := ?_) rfl (by kernel_rfl) (by kernel_rfl) (by kernel_rfl) (fun _ _ _ h => h) rfl (by rfl) (fun W hS => ?_) hS ?_
          rotate_left; (focus (first | (go_simp; done) | (go_simp; with_reducible rfl) | (go_simp; rfl))); all_goals skip; (try simp only [List.set_cons_succ, List.set_cons_zero])
          refine wpAnyH_done (by kernel_rfl) ?_ _
          have HS := Lib.hid hss
          go_wp2_with fail
          go_ret
          have hqf : q = false := by
            rw [← HQ.out]
            refine decide_eq_false fun h => HS.out (HM.out.1.2 (HM.out.2.2 (by rw [h])))
          rw [hqf]
          exact ⟨rfl, hE.trans0 hS.ext⟩
      · have hki : ¬ (k : Int) < (n : Int) := by omega
        go_wp2_with fail
        go_ret
        have hqt : q = true := by
          rw [← HQ.out]
          refine decide_eq_true ?_
          have h1 := hst.out
          have hkk : k = n := by omega
          have h2 : (ps.map (·.2)).length ≤ k := by rw [List.length_map, HL.out, hkk]; exact Nat.le_refl _
          have h3 : (qs.map (·.2)).length ≤ k := by rw [List.length_map, ← HV.out.2.2.2.2.2.2, HL.out, hkk]; exact Nat.le_refl _
          rwa [List.take_of_length_le h2, List.take_of_length_le h3] at h1
        rw [hqt]
        exact ⟨rfl, hE⟩
  · have hni : ¬ (ps.length : Int) = (qs.length : Int) := by omega
    rw [show decide (ps.map (·.2) = qs.map (·.2)) = false from decide_eq_false (fun h => hn (by have := congrArg List.length h; simpa using this))]
    clear hp hq
    go_enter Tryz.func11, Tryz.ntmps11
    go_wp2
    go_ret
    exact ⟨rfl, H0⟩
end Go.Proofs.YtgmeahogdjhejaaGreatDoor
