/- Journals: the plain law of WalKeeps: the start. -/
import Derived.Test.YtgmeahogdjhejaaDoorWalKb
namespace Go.Proofs.YtgmeahogdjhejaaDoor
set_option linter.unusedVariables false
set_option linter.unusedSimpArgs false
open Go.RowKit Go.Shelf

def ks0 : DS := DS.new 60
def ks1 : DS := (formatP ks0 2 50 (tellN 0)).1
def ksj : JS := ⟨2, 50, 1, 0, 0, 0, false, false⟩
theorem ks_fo : formatP ks0 2 50 (tellN 0) = (ks1, 0) := Prod.ext rfl (show (formatP ks0 2 50 (tellN 0)).2 = 0 by kernel_rfl)
theorem ks_op : openP ks1 2 50 = some (ksj, tellN 0, []) := by kernel_rfl
theorem ks_pend : ks1.pend = [] := by kernel_rfl
theorem ks_f0 : ks0.Fine 0 := DS.Fine.new 60 (by omega)
theorem ks_l0 : ks0.sure.length = 60 := by kernel_rfl
theorem ks_f1 : ks1.Fine 3000 ∧ ks1.sure.length = 60 := by
  have h := format_fine ks_f0 2 50 (st := tellN 0) (tell_bytes (by omega))
  unfold ks1
  exact ⟨h.1.mono (by omega), h.2.trans ks_l0⟩
def ksZ : List Int := List.replicate 32 0
def ksCheck : Bool := (List.range 60).all fun i => decide (ks1.sec i = if i = 0 then cpS 1 0 0 else ksZ)
theorem ks_check : ksCheck = true := by kernel_rfl
theorem ks_sec {i : Nat} (hi : i < 60) : ks1.sec i = if i = 0 then cpS 1 0 0 else ksZ :=
  of_decide_eq_true (List.all_eq_true.1 ks_check i (List.mem_range.2 hi))
theorem ks_zero : SmS ksZ ((0 : Nat) : Int) ((0 : Nat) : Int) := ⟨⟨by decide, by decide⟩, ⟨by decide, by decide⟩, rfl⟩
theorem ks_view : View ks1 60 (fun i => ks1.sec i) (fun i => ks1.sec i) 3000 :=
  ⟨ks_f1.1, ks_f1.2, fun i hi => by
    show _ = ks1.sec i
    unfold DS.sec
    rw [DS.is_sure ks_pend, Int.toNat_natCast], fun i _ => rfl⟩
theorem K.start : K 0 ks1 ksj [] 0 := by
  have hlen : ∀ i, i < 60 → (ks1.sec i).length = 32 ∧ (ks1.sec i).length = 32 := fun i hi => ⟨(ks_view.slen hi).1, (ks_view.slen hi).1⟩
  have hz : ∀ i, i < 60 → i ≠ 0 → SmS (ks1.sec i) ((0 : Nat) : Int) ((0 : Nat) : Int) := fun i hi h0 => by
    rw [ks_sec hi, if_neg h0]; exact ks_zero
  have hcp : ks1.sec 0 = cpS 1 0 0 := by rw [ks_sec (by omega), if_pos rfl]
  have hT : Tail ((1 : Nat) : Int) (((0 : Nat) : Int) + ([] : List (List Int)).length) (fun i => ks1.sec i) (fun i => ks1.sec i) 4 50 (endU 0 []) none :=
    ⟨fun k _ hk => ⟨_, _, hz (4 + k) (by omega) (by omega), by decide⟩, fun k _ _ => .inl rfl, fun b hb => by cases hb⟩
  have hleft : ∀ q2 n2, Left 1 1 q2 n2 (ks1.sec 2) := fun q2 n2 => low_left (hlen 2 (by omega)).1 (hz 2 (by omega) (by omega)) (by omega) (by omega) (Nat.le_refl _) q2 n2
  have hok : ksj.Ok 60 := fits_ok may60 (e := 1) (q := 0) rfl rfl (by omega) (by omega) (Nat.zero_le _) (Nat.zero_le _)
  refine ⟨by omega, hok, rfl, rfl, Nat.le_refl _, (fun b hb => by cases hb), fun i => ks1.sec i, fun i => ks1.sec i, 3000, 1, 0, 0, 0, [], 0, ks_view, by decide, ⟨by omega, by omega, by simp, by simp, hcp, hcp, Nat.le_refl _, core_log (by omega) hlen (Nat.le_refl _) trivial (by show 0 ≤ 50; omega) hT, fun i hi hne => ?_⟩, by omega, by simp, Nat.zero_le _, Nat.zero_le _, rfl, Nat.zero_le _, fun k => .inr fun t _ _ => by rw [mix_same]; exact hleft _ _,
    .inr ⟨rfl, rfl, rfl, rfl, rfl, rfl, hleft _ _, .inr ⟨rfl, rfl, fun _ _ => rfl⟩⟩⟩
  by_cases h0 : i = 0
  · subst h0
    show (∃ ea qa : Nat, SmS (ks1.sec 0) ea qa ∧ _) ∧ ∃ ea qa : Nat, SmS (ks1.sec 0) ea qa ∧ _
    rw [hcp]
    exact ⟨⟨1, 0, cpS_sm (by omega) (by omega) _, Nat.le_refl _, by omega⟩, 1, 0, cpS_sm (by omega) (by omega) _, Nat.le_refl _, by omega⟩
  · exact ⟨⟨0, 0, hz i hi h0, by omega, by omega⟩, 0, 0, hz i hi h0, by omega, by omega⟩
end Go.Proofs.YtgmeahogdjhejaaDoor
