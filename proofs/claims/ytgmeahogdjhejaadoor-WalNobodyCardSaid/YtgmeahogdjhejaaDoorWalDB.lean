/- The disk of the program: what its writers do. -/
import Derived.Test.YtgmeahogdjhejaaDoorDiskA
namespace Go.Proofs.YtgmeahogdjhejaaDoor
set_option linter.unusedVariables false
set_option linter.unusedSimpArgs false
open Go.RowKit

theorem DiskA.heap {b bs bm : Nat} {d : DS} {w : World} (h : (DiskA b bs bm d).says w) : w.heap[b]? = some (.cells #[.int .i64 d.fuse, .slice (some ⟨bs, 0, none⟩) d.sure.length d.sure.length, .map (some bm), .int .i64 d.writes] 58 (0, 0)) := h.2.2.2.1

/-- After so many things the power goes: a thing is done. -/
def DS.spend (d : DS) : DS × Bool := if d.fuse = -1 then (d, true) else if d.fuse = 0 then (d, false) else ({ d with fuse := d.fuse - 1 }, true)

set_option maxRecDepth 100000 in
theorem spend_any (b bs bm : Nat) (d : DS) (w : World) (h : (DiskA b bs bm d).says w) (hf : -1 ≤ d.fuse ∧ d.fuse ≤ 9223372036854775807) :
    Calls Tryd.prog 48 #[.pointer (some ⟨b, 0, none⟩)] w fun e w' => e = .returned (.bool d.spend.2) ∧ Ext (fun i => i = b) w w' ∧ (DiskA b bs bm d.spend.1).says w' := by
  have h4 := DiskA.heap h
  have hc : w.cell? ⟨b, 0, none⟩ = some (.int .i64 d.fuse) := cell_of_row w b 0 _ _ _ h4
  have hz : w.frozen? ⟨b, 0, none⟩ = false := frozen_of_row w b 0 _ _ h4
  obtain ⟨hf1, hf2⟩ := hf
  by_cases h1 : d.fuse = -1
  · have hp : d.spend = (d, true) := by simp [DS.spend, h1]
    rw [hp]
    have e1 : (d.fuse == -1) = true := by simp [h1]
    go_enter Tryd.func48, Tryd.ntmps48
    clear h1
    go_wp2
    go_ret
    exact ⟨rfl, Ext.refl _ _, h⟩
  · have e1 : (d.fuse == -1) = false := by simp [h1]
    by_cases h2 : d.fuse = 0
    · have hp : d.spend = (d, false) := by simp [DS.spend, h2]
      rw [hp]
      have e2 : (d.fuse == 0) = true := by simp [h2]
      clear h1 h2
      go_enter Tryd.func48, Tryd.ntmps48
      go_wp2
      go_ret
      exact ⟨rfl, Ext.refl _ _, h⟩
    · have hp : d.spend = ({ d with fuse := d.fuse - 1 }, true) := by simp [DS.spend, h1, h2]
      rw [hp]
      have e2 : (d.fuse == 0) = false := by simp [h2]
      have hfin : (DiskA b bs bm { d with fuse := d.fuse - 1 }).says (w.setCell ⟨b, 0, none⟩ (.int .i64 (d.fuse - 1))) := by
        obtain ⟨a1, a2, a3, a4, a5, ents, clock, a6, a7⟩ := h
        refine ⟨a1, a2, a3, ?_, ?_, ents, clock, ?_, a7⟩
        · rw [heap_setCell_same w b 0 _ _ _ a4]; rfl
        · rw [heap_setCell_other _ _ _ _ (Ne.symm a1)]; exact a5
        · rw [heap_setCell_other _ _ _ _ (Ne.symm a2)]; exact a6
      have he : Ext (fun i => i = b) w (w.setCell ⟨b, 0, none⟩ (.int .i64 (d.fuse - 1))) := Ext.setCell w ⟨b, 0, none⟩ _
      clear h h4 hp
      have h1' : 0 < d.fuse := by omega
      clear h1 h2
      generalize d.fuse = n at *
      go_enter Tryd.func48, Tryd.ntmps48
      go_wp2
      go_ret
      exact ⟨rfl, he, hfin⟩

set_option maxRecDepth 100000 in
theorem set_any (b bs bm : Nat) (d : DS) (n : Int) (w : World) (h : (DiskA b bs bm d).says w) :
    Calls Tryd.prog 44 #[.pointer (some ⟨b, 0, none⟩), .int .i64 n] w fun e w' => e = .returned (.tuple #[]) ∧ Ext (fun i => i = b) w w' ∧ (DiskA b bs bm { d with fuse := max n (-1) }).says w' := by
  have h4 := DiskA.heap h
  have hc : w.cell? ⟨b, 0, none⟩ = some (.int .i64 d.fuse) := cell_of_row w b 0 _ _ _ h4
  have hz : w.frozen? ⟨b, 0, none⟩ = false := frozen_of_row w b 0 _ _ h4
  have hfin : (DiskA b bs bm { d with fuse := max n (-1) }).says (w.setCell ⟨b, 0, none⟩ (.int .i64 (max n (-1)))) := by
    obtain ⟨a1, a2, a3, a4, a5, ents, clock, a6, a7⟩ := h
    refine ⟨a1, a2, a3, ?_, ?_, ents, clock, ?_, a7⟩
    · rw [heap_setCell_same w b 0 _ _ _ a4]; rfl
    · rw [heap_setCell_other _ _ _ _ (Ne.symm a1)]; exact a5
    · rw [heap_setCell_other _ _ _ _ (Ne.symm a2)]; exact a6
  have he : Ext (fun i => i = b) w (w.setCell ⟨b, 0, none⟩ (.int .i64 (max n (-1)))) := Ext.setCell w ⟨b, 0, none⟩ _
  clear h h4
  go_enter Tryd.func44, Tryd.ntmps44
  go_wp2
  go_end0
  exact ⟨rfl, he, hfin⟩

theorem writes_nil (w : World) : Calls Tryd.prog 25 #[.pointer none] w fun e w' => e = .returned (.int .i64 0) ∧ w = w' := by
  go_enter Tryd.func25, Tryd.ntmps25
  go_wp2
  go_ret
  exact ⟨rfl, rfl⟩
theorem writes_any (b bs bm : Nat) (d : DS) (w : World) (h : (DiskA b bs bm d).says w) : Calls Tryd.prog 25 #[.pointer (some ⟨b, 0, none⟩)] w fun e w' => e = .returned (.int .i64 d.writes) ∧ w = w' := by
  have hc : w.cell? ⟨b, 3, none⟩ = some (.int .i64 d.writes) := cell_of_row w b 3 _ _ _ (DiskA.heap h)
  go_enter Tryd.func25, Tryd.ntmps25
  go_wp2
  go_ret
  exact ⟨rfl, rfl⟩

theorem run_len_map {P : Program} {w : World} {t k e ty : TypeId} {m : Nat} {ents : Array MapEntry} {clock : Nat} (ht : P.underlying t = some (.map k e)) (hm : w.heap[m]? = some (.map ents clock)) :
    (Builtin.len_ #[t] ty #[.map (some m)]).run P w = .ok (.int .i64 ents.size) w := by
  simp [Builtin.len_, run_underlying ht, MapKept.run_getObj_map hm]; rfl
theorem pending_nil (w : World) : Calls Tryd.prog 26 #[.pointer none] w fun e w' => e = .returned (.int .i64 0) ∧ w = w' := by
  go_enter Tryd.func26, Tryd.ntmps26
  go_wp2
  go_ret
  exact ⟨rfl, rfl⟩
theorem pending_any (b bs bm : Nat) (d : DS) (w : World) (h : (DiskA b bs bm d).says w) : Calls Tryd.prog 26 #[.pointer (some ⟨b, 0, none⟩)] w fun e w' => e = .returned (.int .i64 d.pend.length) ∧ w = w' := by
  have hc : w.cell? ⟨b, 2, none⟩ = some (.map (some bm)) := cell_of_row w b 2 _ _ _ (DiskA.heap h)
  obtain ⟨_, _, _, _, _, ents, clock, h6, h7⟩ := h
  have hl := run_len_map (P := Tryd.prog) (ty := 3) Tryd.underlying56 h6
  rw [h7.size] at hl
  clear h6 h7
  go_enter Tryd.func26, Tryd.ntmps26
  go_wp2
  go_ret
  exact ⟨rfl, rfl⟩

theorem fuse_nil (n : Int) (w : World) : Calls Tryd.prog 24 #[.pointer none, .int .i64 n] w fun e w' => e = .returned (.tuple #[]) ∧ w = w' := by
  go_enter Tryd.func24, Tryd.ntmps24
  go_wp2
  go_end0
  exact ⟨rfl, rfl⟩
theorem fuse_any (b bs bm : Nat) (d : DS) (n : Int) (w : World) (h : (DiskA b bs bm d).says w) :
    Calls Tryd.prog 24 #[.pointer (some ⟨b, 0, none⟩), .int .i64 n] w fun e w' => e = .returned (.tuple #[]) ∧ Ext (fun i => i = b) w w' ∧ (DiskA b bs bm { d with fuse := max n (-1) }).says w' := by
  have hs := set_any b bs bm d n w h
  clear h
  go_enter Tryd.func24, Tryd.ntmps24
  go_wp2_with (go_at_call 44; refine hs.mono ?_; rintro e w' ⟨rfl, h1, h2⟩)
  go_end0
  exact ⟨rfl, h1, h2⟩

theorem is_any (b bs bm : Nat) (d : DS) (i : Int) (w : World) (h : (DiskA b bs bm d).says w) (hall : ∀ s ∈ d.sure, s.Ok) (hp : ∀ p ∈ d.pend, p.2.Ok) (h0 : 0 ≤ i) (hi : i < d.sure.length) :
    Calls Tryd.prog 65 #[.pointer (some ⟨b, 0, none⟩), .int .i64 i] w fun e w' => e = .returned (d.is i).val ∧ Ext0 w w' := by
  unfold DS.is
  cases hg : getE d.pend i with
  | none => exact is_no b bs bm d i w h hg hall h0 hi
  | some s => exact is_yes b bs bm d i s w h hg (hp _ (getE_mem hg))
theorem DS.is_ok {d : DS} {i : Int} (hall : ∀ s ∈ d.sure, s.Ok) (hp : ∀ p ∈ d.pend, p.2.Ok) (h0 : 0 ≤ i) (hi : i < d.sure.length) : (d.is i).Ok := by
  unfold DS.is
  cases hg : getE d.pend i with
  | none =>
    simp only [Option.getD_none]
    rw [List.getD_eq_getElem?_getD, List.getElem?_eq_getElem (by omega)]
    exact hall _ (List.getElem_mem _)
  | some s => exact hp _ (getE_mem hg)

end Go.Proofs.YtgmeahogdjhejaaDoor
