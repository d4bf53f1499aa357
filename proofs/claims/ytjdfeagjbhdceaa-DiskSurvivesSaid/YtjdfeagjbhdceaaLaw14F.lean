/- The law's helper: all. -/
import Derived.Test.YtjdfeagjbhdceaaLaw14E
namespace Go.Proofs.Ytjdfeagjbhdceaa
set_option linter.unusedVariables false
set_option linter.unusedSimpArgs false
open Go.RowKit

def encS (xs : List Int) : List Value := [.string (strOfNums xs)]
theorem encS_len (xs : List Int) : (encS xs).length = 1 := rfl
theorem encS_one (xs : List Int) : ∀ u ∈ encS xs, u.oneCell' = true := by intro u hu; simp [encS] at hu; subst hu; rfl
theorem info9 : (Try.prog.info? 9).map (fun i => (i.zero, i.size, i.bytes)) = some (some (.string ByteArray.empty), 1, 16) := by kernel_rfl

theorem oneStr {w : World} {g : Nat} {T : TypeId} {fr : Nat × Nat} {bytes : List Int} (hg : w.heap[g]? = some (.cells #[.string (strOfNums bytes)] T fr)) : RdS encS 1 w (.slice (some ⟨g, 0, none⟩) 1 1) [bytes] :=
  ⟨_, 1, rfl, Nat.le_refl _, .inr ⟨g, 0, _, T, fr, rfl, hg, fun j hj i hi => by
    obtain rfl : i = 0 := by omega
    obtain rfl : j = 0 := by simp at hj; omega
    rfl⟩⟩
/-- What a disk's sectors are. -/
def allD (d : DS) : List (List Int) := (List.range d.sure.length).map (fun i => (d.readR (i : Nat)).1)
theorem allD_length (d : DS) : (allD d).length = d.sure.length := by simp [allD]
theorem allD_take (d : DS) (k : Nat) (hk : k < d.sure.length) : (allD d).take (k + 1) = (allD d).take k ++ [(d.readR (k : Nat)).1] := by
  rw [List.take_add_one, List.getElem?_eq_getElem (by rw [allD_length]; exact hk)]
  simp [allD]

def AllRel (xs : List (List Int)) (w0 : World) (vv vi : Value) (wr : World) : Prop :=
  ∃ k : Nat, vi = .int .i64 (k : Int) ∧ k ≤ xs.length ∧ SH (fun _ => False) w0 wr [ownA 9 1 vv k (cellsOf encS (xs.take k))]

set_option maxRecDepth 100000 in
set_option maxHeartbeats 1000000 in
theorem all_any {b bs bm : Nat} {d : DS} {W : Int} {w0 : World} (hd : (DiskA b bs bm d).says w0) (hf : d.Fine W) : Calls Try.prog 26 #[.pointer (some ⟨b, 0, none⟩)] w0 fun e w' => ∃ v, e = .returned v ∧ w'.ownsRow w0.heap.size 9 1 v d.sure.length (cellsOf encS (allD d)) ∧ Ext0 w0 w' := by
  have H : SH (fun _ => False) w0 w0 [] := SH.nil _ _
  have hlen := hf.len
  go_enter Try.func26, Try.ntmps26
  go_wp2_with (first | (refine L_lit (e := ?_) (cs := ?_) rfl rfl H ?_ ?_; rotate_left 2; (focus (intro _; first | (go_simp; done) | (go_simp; with_reducible rfl) | (go_simp; rfl))); all_goals skip; clear H; intro g w H; (try simp only [Act.put, List.setIfInBounds_toArray, List.set_cons_succ, List.set_cons_zero, List.getElem_toArray, List.getElem_cons_succ, List.getElem_cons_zero])))
  replace H := H.toOwn 0 rfl 1 0 0 (Nat.le_refl _) (Nat.zero_le _) rfl [] rfl
  simp only [List.set_cons_zero] at H
  go_loopw [3, 4] (fun vv vi wr => AllRel (allD d) w0 vv vi wr) (fun _ vi _ => d.sure.length - (intOf vi).toNat)
  case atStart => exact ⟨0, rfl, Nat.zero_le _, H⟩
  case round =>
    clear H
    obtain ⟨k, rfl, hk, H⟩ := hrel
    rw [allD_length] at hk
    have hdw : ∀ {w : World}, Ext0 w0 w → (DiskA b bs bm d).says w := fun {w} h => (DiskA b bs bm d).keep w0 w (fun i hi => h.block i (DiskA.fp_lt hd hi) (fun e => e)) hd
    have hsize := fun {w : World} (h : Ext0 w0 w) => size_any b bs bm d w (hdw h)
    have hread := fun {w : World} (h : Ext0 w0 w) => dread (hdw h) hf (k : Int)
    by_cases hkn : k < d.sure.length
    · have hr2 : (d.readR (k : Int)).2 = 0 := by unfold DS.readR; rw [if_pos (DS.has_of rfl hkn)]
      have hr1 : (d.readR (k : Int)).1.length = 32 := by unfold DS.readR; rw [if_pos (DS.has_of rfl hkn)]; exact (DS.is_ok hf.sure (fun p hp => (hf.pend p hp).1) (by omega) (by omega)).1
      have htk := allD_take d k hkn
      simp only [hr2, hr1] at hread
      generalize (d.readR (k : Int)).1 = bytes at *
      generalize hal : allD d = al at *
      have hll : d.sure.length = al.length := by rw [← hal, allD_length]
      generalize d.sure.length = n at *
      have HT := Lib.hid (And.intro htk (And.intro hr1 hll))
      clear htk hr1 hr2 hal hll
      have hnb : (k + [bytes].length) * 16 ≤ 140737488355328 := by simp only [List.length_cons, List.length_nil]; omega
      have hnm : k + [bytes].length ≤ maxLen := by simp only [maxLen, List.length_cons, List.length_nil]; omega
      go_wp2_with (first
        | (go_at_call 36; refine (hsize H.ext).mono ?_; rintro e w ⟨rfl, rfl⟩)
        | (go_at_call 41; refine (hread H.ext).mono ?_; rintro e w ⟨v1, rfl, h1, h2⟩; have hcv := run_string (src := 48) (dst := 9) (RdS.own (encInt_len .u8) HT.out.2.1.symm h1) Try.underlying48 Try.underlying5 Try.underlying9; replace H := H.calls h2; clear h1 h2)
        | (refine L_lit (e := ?_) (cs := ?_) rfl rfl H ?_ ?_; rotate_left 2; (focus (intro _; first | (go_simp; done) | (go_simp; with_reducible rfl) | (go_simp; rfl))); all_goals skip; clear H; intro g w H; (try simp only [Act.put, List.setIfInBounds_toArray, List.set_cons_succ, List.set_cons_zero, List.getElem_toArray, List.getElem_cons_succ, List.getElem_cons_zero]))
        | (refine L_append encS_len encS_one rfl rfl Try.underlying43 info9 rfl (Nat.le_refl _) H 1 rfl rfl rfl (oneStr (H.at_ 0 rfl)) hnb hnm ?_; clear H; intro v w H hnn))
      simp only [List.set_cons_succ, List.set_cons_zero] at H
      have H2 := H.drop (List.sublist_cons_self _ _)
      rw [← cellsOf_append, ← HT.out.1] at H2
      refine ⟨⟨k + 1, by go_num, by rw [← HT.out.2.2]; omega, H2⟩, ?_⟩
      simp [intOf]; omega
    · obtain rfl : k = d.sure.length := by omega
      go_wp2_with (first
        | (go_at_call 36; refine (hsize H.ext).mono ?_; rintro e w ⟨rfl, rfl⟩))
      go_ret
      rw [List.take_of_length_le (by rw [allD_length]; exact Nat.le_refl _)] at H
      exact ⟨_, rfl, H.retOwn 0 rfl (fun _ _ e => e), H.ext⟩

/-- A load out of a slice whose elements are one cell each. -/
theorem R_loadRd {P : Program} {a : Act} {w : World} {o : Oper} {α : Type} {enc : α → List Value} {ty : TypeId} {x : Operand} (ho : o.op = .load ty x) {b off n cap : Nat} {xs : List α} (hr : RdS enc 1 w (.slice (some ⟨b, off, none⟩) n cap) xs) {j : Nat} (hj : j < xs.length) (hx : a.eval x = .pointer (some ⟨b, off + j, none⟩)) {v : Value} (hv : enc xs[j] = [v])
    (hag : ∀ w, (isAgg ty).run P w = .ok false w) : (execOp a.eval o).run P w = .ok (.value v) w := by
  obtain ⟨b', off', cs, T, fr, he, hb, hcs⟩ := hr.cell hj
  cases he
  have h1 := hcs 0 (by omega)
  rw [hv, Nat.mul_one, Nat.add_zero] at h1
  have hc : w.cell? ⟨b, off + j, none⟩ = some v := by rw [cell_of_row w b _ cs T fr hb, h1]; rfl
  unfold execOp
  simp only [ho, hx, Instr.loadAt, Instr.sureAddr, loadVar, Sem.run_bind, Sem.run_pure, Result.andThen_ok, hag]
  simp [hc]
/-- The strings of a disk's sectors, as a slice of one's own. -/
theorem rdAll {w : World} {base : Nat} {v : Value} {n : Nat} {xs : List (List Int)} (hn : n = xs.length) (h : w.ownsRow base 9 1 v n (cellsOf encS xs)) : RdS encS 1 w v xs := RdS.own encS_len hn h
theorem allD_at (d : DS) (i : Nat) (hi : i < (allD d).length) : (allD d)[i] = (d.readR (i : Nat)).1 := by simp [allD]
end Go.Proofs.Ytjdfeagjbhdceaa
