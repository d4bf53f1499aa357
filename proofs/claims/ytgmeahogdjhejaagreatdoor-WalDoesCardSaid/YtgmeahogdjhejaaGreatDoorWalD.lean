/- The disk of the program: what its writers do. The disk of the program: Read, Write, Flush. The disk of the program: Flush. The disk of the program: what survives; Crash. The disk of the program: New. The disk of the program: the sorted keys of its map. The disk of the program: Crash. The disk of the program: each call, for whatever arguments, on a disk that is well formed. -/
import Derived.Test.YtgmeahogdjhejaaGreatDoorDiskA
import Derived.Test.YtgmeahogdjhejaaGreatDoorSlice
import Derived.Lib.SliceRun
import Derived.Test.YtgmeahogdjhejaaGreatDoorMap2
import Derived.Laws.CopyRow
import Derived.Test.YtgmeahogdjhejaaGreatDoorMake
import Derived.Shelf.SlIterI.Nil
import Derived.Shelf.SortM.Plain
import Derived.Shelf.SortM.SortNone
import Derived.Shelf.SlGeneric
import Derived.OwnWalkIn
import Derived.LoopNIn
namespace Go.Proofs.YtgmeahogdjhejaaGreatDoor
set_option linter.unusedVariables false
set_option linter.unusedSimpArgs false
open Go.RowKit

theorem DiskA.heap {b bs bm : Nat} {d : DS} {w : World} (h : (DiskA b bs bm d).says w) : w.heap[b]? = some (.cells #[.int .i64 d.fuse, .slice (some ⟨bs, 0, none⟩) d.sure.length d.sure.length, .map (some bm), .int .i64 d.writes] 63 (0, 0)) := h.2.2.2.1

/-- After so many things the power goes: a thing is done. -/
def DS.spend (d : DS) : DS × Bool := if d.fuse = -1 then (d, true) else if d.fuse = 0 then (d, false) else ({ d with fuse := d.fuse - 1 }, true)

set_option maxRecDepth 100000 in
theorem spend_any (b bs bm : Nat) (d : DS) (w : World) (h : (DiskA b bs bm d).says w) (hf : -1 ≤ d.fuse ∧ d.fuse ≤ 9223372036854775807) :
    Calls Tryz.prog 62 #[.pointer (some ⟨b, 0, none⟩)] w fun e w' => e = .returned (.bool d.spend.2) ∧ Ext (fun i => i = b) w w' ∧ (DiskA b bs bm d.spend.1).says w' := by
  have h4 := DiskA.heap h
  have hc : w.cell? ⟨b, 0, none⟩ = some (.int .i64 d.fuse) := cell_of_row w b 0 _ _ _ h4
  have hz : w.frozen? ⟨b, 0, none⟩ = false := frozen_of_row w b 0 _ _ h4
  obtain ⟨hf1, hf2⟩ := hf
  by_cases h1 : d.fuse = -1
  · have hp : d.spend = (d, true) := by simp [DS.spend, h1]
    rw [hp]
    have e1 : (d.fuse == -1) = true := by simp [h1]
    go_enter Tryz.func62, Tryz.ntmps62
    clear h1
    go_wp2
    go_ret
    exact ⟨rfl, Ext.refl _ _, h⟩
  · have e1 : (d.fuse == -1) = false := by simp [h1]
    by_cases h2 : d.fuse = 0
    · have hp : d.spend = (d, false) := by simp [DS.spend, h2]
      rw [hp]
      have e2 : (d.fuse == 0) = true := by simp [h2]
      clear h1 h2
      go_enter Tryz.func62, Tryz.ntmps62
      go_wp2
      go_ret
      exact ⟨rfl, Ext.refl _ _, h⟩
    · have hp : d.spend = ({ d with fuse := d.fuse - 1 }, true) := by simp [DS.spend, h1, h2]
      rw [hp]
      have e2 : (d.fuse == 0) = false := by simp [h2]
      have hfin : (DiskA b bs bm { d with fuse := d.fuse - 1 }).says (w.setCell ⟨b, 0, none⟩ (.int .i64 (d.fuse - 1))) := by
        obtain ⟨a1, a2, a3, a4, a5, ents, clock, a6, a7⟩ := h
        refine ⟨a1, a2, a3, ?_, ?_, ents, clock, ?_, a7⟩
        · rw [heap_setCell_same w b 0 _ _ _ a4]; rfl
        · rw [heap_setCell_other _ _ _ _ (Ne.symm a1)]; exact a5
        · rw [heap_setCell_other _ _ _ _ (Ne.symm a2)]; exact a6
      have he : Ext (fun i => i = b) w (w.setCell ⟨b, 0, none⟩ (.int .i64 (d.fuse - 1))) := Ext.setCell w ⟨b, 0, none⟩ _
      clear h h4 hp
      have h1' : 0 < d.fuse := by omega
      clear h1 h2
      generalize d.fuse = n at *
      go_enter Tryz.func62, Tryz.ntmps62
      go_wp2
      go_ret
      exact ⟨rfl, he, hfin⟩

set_option maxRecDepth 100000 in
theorem set_any (b bs bm : Nat) (d : DS) (n : Int) (w : World) (h : (DiskA b bs bm d).says w) :
    Calls Tryz.prog 45 #[.pointer (some ⟨b, 0, none⟩), .int .i64 n] w fun e w' => e = .returned (.tuple #[]) ∧ Ext (fun i => i = b) w w' ∧ (DiskA b bs bm { d with fuse := max n (-1) }).says w' := by
  have h4 := DiskA.heap h
  have hc : w.cell? ⟨b, 0, none⟩ = some (.int .i64 d.fuse) := cell_of_row w b 0 _ _ _ h4
  have hz : w.frozen? ⟨b, 0, none⟩ = false := frozen_of_row w b 0 _ _ h4
  have hfin : (DiskA b bs bm { d with fuse := max n (-1) }).says (w.setCell ⟨b, 0, none⟩ (.int .i64 (max n (-1)))) := by
    obtain ⟨a1, a2, a3, a4, a5, ents, clock, a6, a7⟩ := h
    refine ⟨a1, a2, a3, ?_, ?_, ents, clock, ?_, a7⟩
    · rw [heap_setCell_same w b 0 _ _ _ a4]; rfl
    · rw [heap_setCell_other _ _ _ _ (Ne.symm a1)]; exact a5
    · rw [heap_setCell_other _ _ _ _ (Ne.symm a2)]; exact a6
  have he : Ext (fun i => i = b) w (w.setCell ⟨b, 0, none⟩ (.int .i64 (max n (-1)))) := Ext.setCell w ⟨b, 0, none⟩ _
  clear h h4
  go_enter Tryz.func45, Tryz.ntmps45
  go_wp2
  go_end0
  exact ⟨rfl, he, hfin⟩


theorem run_len_map {P : Program} {w : World} {t k e ty : TypeId} {m : Nat} {ents : Array MapEntry} {clock : Nat} (ht : P.underlying t = some (.map k e)) (hm : w.heap[m]? = some (.map ents clock)) :
    (Builtin.len_ #[t] ty #[.map (some m)]).run P w = .ok (.int .i64 ents.size) w := by
  simp [Builtin.len_, run_underlying ht, MapKept.run_getObj_map hm]; rfl

theorem fuse_nil (n : Int) (w : World) : Calls Tryz.prog 15 #[.pointer none, .int .i64 n] w fun e w' => e = .returned (.tuple #[]) ∧ w = w' := by
  go_enter Tryz.func15, Tryz.ntmps15
  go_wp2
  go_end0
  exact ⟨rfl, rfl⟩
theorem fuse_any (b bs bm : Nat) (d : DS) (n : Int) (w : World) (h : (DiskA b bs bm d).says w) :
    Calls Tryz.prog 15 #[.pointer (some ⟨b, 0, none⟩), .int .i64 n] w fun e w' => e = .returned (.tuple #[]) ∧ Ext (fun i => i = b) w w' ∧ (DiskA b bs bm { d with fuse := max n (-1) }).says w' := by
  have hs := set_any b bs bm d n w h
  clear h
  go_enter Tryz.func15, Tryz.ntmps15
  go_wp2_with (go_at_call 45; refine hs.mono ?_; rintro e w' ⟨rfl, h1, h2⟩)
  go_end0
  exact ⟨rfl, h1, h2⟩

theorem is_any (b bs bm : Nat) (d : DS) (i : Int) (w : World) (h : (DiskA b bs bm d).says w) (hall : ∀ s ∈ d.sure, s.Ok) (hp : ∀ p ∈ d.pend, p.2.Ok) (h0 : 0 ≤ i) (hi : i < d.sure.length) :
    Calls Tryz.prog 57 #[.pointer (some ⟨b, 0, none⟩), .int .i64 i] w fun e w' => e = .returned (d.is i).val ∧ Ext0 w w' := by
  unfold DS.is
  cases hg : getE d.pend i with
  | none => exact is_no b bs bm d i w h hg hall h0 hi
  | some s => exact is_yes b bs bm d i s w h hg (hp _ (getE_mem hg))
theorem DS.is_ok {d : DS} {i : Int} (hall : ∀ s ∈ d.sure, s.Ok) (hp : ∀ p ∈ d.pend, p.2.Ok) (h0 : 0 ≤ i) (hi : i < d.sure.length) : (d.is i).Ok := by
  unfold DS.is
  cases hg : getE d.pend i with
  | none =>
    simp only [Option.getD_none]
    rw [List.getD_eq_getElem?_getD, List.getElem?_eq_getElem (by omega)]
    exact hall _ (List.getElem_mem _)
  | some s => exact hp _ (getE_mem hg)

end Go.Proofs.YtgmeahogdjhejaaGreatDoor

namespace Go.Proofs.YtgmeahogdjhejaaGreatDoor
set_option linter.unusedVariables false
set_option linter.unusedSimpArgs false
open Go.RowKit

theorem infoDu8 : (Tryz.prog.info? 5).map (fun i => (i.zero, i.size, i.bytes)) = some (some (.int .u8 0), 1, 1) := by kernel_rfl

set_option maxRecDepth 100000 in
/-- slices.Clone of bytes. -/
theorem clone_bytes (ad : Addr) (n cap : Nat) (xs : List Int) (w : World) (hr : RdS (encInt .u8) 1 w (.slice (some ad) n cap) xs) (hl : xs.length ≤ 1048576) :
    Calls Tryz.prog 58 #[.slice (some ad) n cap] w fun e w' => ∃ v, e = .returned v ∧ w'.ownsRow w.heap.size 5 1 v xs.length (cellsOf (encInt .u8) xs) ∧ Ext0 w w' := by
  have H : SH (fun _ => False) w w [] := SH.nil _ _
  have he := fun w => Lib.run_eql_slice_nil (P := Tryz.prog) w 22 5 (some ad) n cap 0 0 Tryz.underlying22
  have hm : xs.length ≤ maxLen := by unfold maxLen; omega
  go_enter Tryz.func58, Tryz.ntmps58
  go_wp2_with (first | (refine L_lit (e := ?_) (cs := ?_) rfl rfl H ?_ ?_; rotate_left 2; (focus (intro _; first | (go_simp; done) | (go_simp; with_reducible rfl) | (go_simp; rfl))); all_goals skip; clear H; intro g w H; (try simp only [Act.put, List.setIfInBounds_toArray, List.set_cons_succ, List.set_cons_zero, List.getElem_toArray, List.getElem_cons_succ, List.getElem_cons_zero])) | (have H2 := H.toOwn 0 rfl 1 0 0 (Nat.le_refl _) (Nat.zero_le _) rfl [] rfl; simp only [List.set_cons_zero] at H2; refine L_append (encInt_len .u8) (encInt_one .u8) rfl rfl Tryz.underlying22 infoDu8 rfl (Nat.le_refl _) H2 0 rfl rfl rfl (hr.keep H.ext) (by omega) (by omega) ?_; clear H H2; intro v w H hnn))
  go_ret
  exact ⟨v, rfl, by simpa using H.retOwn 0 rfl (fun _ _ e => e), H.ext⟩

theorem St.rd {s : St} (h : s.Ok) {w : World} {g : Nat} {T : TypeId} {fr : Nat × Nat} (hg : w.heap[g]? = some (.cells s.cells.toArray T fr)) (n cap : Nat) (hn : n = 32) (hc : cap = 32) : RdS (encInt .u8) 1 w (.slice (some ⟨g, 0, none⟩) n cap) s.bytes := by
  subst hn hc
  refine ⟨_, 32, by rw [h.1], by rw [h.1]; exact Nat.le_refl _, .inr ⟨g, 0, _, T, fr, rfl, hg, fun j hj i hi => ?_⟩⟩
  obtain rfl : i = 0 := by omega
  simp only [Nat.zero_add, Nat.mul_one, Nat.add_zero, List.getElem?_toArray, St.cells, encInt]
  rw [List.getElem?_append_left (by simpa using hj)]
  simp [hj]

theorem read_off (p : Option Addr) (i : Int) (w : World) (hth : Calls Tryz.prog 56 #[.pointer p, .int .i64 i] w fun e w' => e = .returned (.bool false) ∧ w = w') :
    Calls Tryz.prog 26 #[.pointer p, .int .i64 i] w fun e w' => e = .returned (.tuple #[.slice none 0 0, .int .i64 1]) ∧ w = w' := by
  go_enter Tryz.func26, Tryz.ntmps26
  go_wp2_with (go_at_call 56; refine hth.mono ?_; rintro e w' ⟨rfl, rfl⟩)
  go_ret2
  exact ⟨rfl, rfl⟩

set_option maxRecDepth 100000 in
set_option maxHeartbeats 400000 in
theorem read_on (b bs bm : Nat) (d : DS) (i : Int) (w : World) (h : (DiskA b bs bm d).says w) (hall : ∀ s ∈ d.sure, s.Ok) (hp : ∀ p ∈ d.pend, p.2.Ok) (h0 : 0 ≤ i) (hi : i < d.sure.length) :
    Calls Tryz.prog 26 #[.pointer (some ⟨b, 0, none⟩), .int .i64 i] w fun e w' => ∃ v, e = .returned (.tuple #[v, .int .i64 0]) ∧ w'.ownsRow w.heap.size 5 1 v 32 (cellsOf (encInt .u8) (d.is i).bytes) ∧ Ext0 w w' := by
  have hth := there_any b bs bm d i w h
  have hd : decide (0 ≤ i ∧ i < d.sure.length) = true := by simp [h0, hi]
  rw [hd] at hth
  have his := is_any b bs bm d i w h hall hp h0 hi
  have hok := DS.is_ok hall hp h0 hi
  clear h hall hp hd h0 hi
  generalize d.is i = s at *
  have H : SH (fun _ => False) w w [] := SH.nil _ _
  have hsz := St.size_arr hok
  have hone := St.one_cells s
  have hl := hok.1
  go_enter Tryz.func26, Tryz.ntmps26
  go_wp2_with (first | (refine L_alloc rfl rfl H zero89 ?_; clear H; intro g w H; (try simp only [Act.put, List.setIfInBounds_toArray, List.set_cons_succ, List.set_cons_zero, List.getElem_toArray, List.getElem_cons_succ, List.getElem_cons_zero])) | (refine L_storerow rfl rfl H 0 rfl rfl rfl info89 ?hn ?ho ?h1 ?_; (case hn => first | rfl | assumption); (case ho => first | rfl | assumption); (case h1 => first | assumption | exact St.one_cells _ | rfl); clear H; intro w H; simp only [List.set_cons_zero, List.set_cons_succ, List.setIfInBounds_toArray, Act.eval, Array.getD_eq_getD_getElem?, List.getElem?_toArray, List.getElem?_cons_succ, List.getElem?_cons_zero, Option.getD_some] at H; (try simp only [Act.put, List.setIfInBounds_toArray, List.set_cons_succ, List.set_cons_zero, List.getElem_toArray, List.getElem_cons_succ, List.getElem_cons_zero])) | (go_at_call 56; refine hth.mono ?_; rintro e w' ⟨rfl, rfl⟩) | (go_at_call 57; refine his.mono ?_; rintro e w' ⟨rfl, hw⟩; replace H := H.calls hw; clear hw) | (go_at_call 58; refine (clone_bytes _ _ _ s.bytes _ (St.rd hok (H.at_ 0 rfl) _ _ rfl rfl) (by omega)).mono ?_; rintro e w' ⟨v, rfl, ho, hw⟩; replace H := H.addOwn hw ho; clear hw ho))
  go_ret2
  exact ⟨v, rfl, by simpa [hl] using H.retOwn 0 rfl (fun _ _ e => e), H.ext⟩

theorem build_state : ∀ (xs : List Int) (_ : xs.length = 32) (wr : Int) (w : World), (Instr.build 89 [(0, .agg (xs.map (Value.int .u8)).toArray), (1, .int .i64 wr)].toArray).run Tryz.prog w = .ok (St.val ⟨xs, wr⟩) w
  | [x0, x1, x2, x3, x4, x5, x6, x7, x8, x9, x10, x11, x12, x13, x14, x15, x16, x17, x18, x19, x20, x21, x22, x23, x24, x25, x26, x27, x28, x29, x30, x31], _, wr, w => by kernel_rfl

/-- The disk's three blocks, laid open. -/
theorem DiskA.open_ {b bs bm : Nat} {d : DS} {w : World} (h : (DiskA b bs bm d).says w) : ∃ ents clock, MapRel (Value.int .i64) St.val ents clock d.pend ∧
    SH (DiskA b bs bm d).fp w w [pt b (.cells #[.int .i64 d.fuse, .slice (some ⟨bs, 0, none⟩) d.sure.length d.sure.length, .map (some bm), .int .i64 d.writes] 63 (0, 0)), pt bs (.cells (flat d.sure).toArray 89 (0, 0)), pt bm (.map ents clock)] := by
  obtain ⟨a1, a2, a3, a4, a5, ents, clock, a6, a7⟩ := h
  refine ⟨ents, clock, a7, Ext.refl _ _, ?_, ?_, ?_, ?_⟩
  · intro A hA; simp only [List.mem_cons, List.not_mem_nil, or_false] at hA
    rcases hA with rfl | rfl | rfl
    · exact a4
    · exact a5
    · exact a6
  · intro A hA i hi; simp only [List.mem_cons, List.not_mem_nil, or_false] at hA
    rcases hA with rfl | rfl | rfl <;> (simp only [pt_fp] at hi; subst hi)
    · exact blk_lt' a4
    · exact blk_lt' a5
    · exact blk_lt' a6
  · intro A hA i hi; simp only [List.mem_cons, List.not_mem_nil, or_false] at hA
    rcases hA with rfl | rfl | rfl <;> (simp only [pt_fp] at hi; subst hi)
    · exact .inl (.inl rfl)
    · exact .inl (.inr (.inl rfl))
    · exact .inl (.inr (.inr rfl))
  · simp [List.pairwise_cons]; exact ⟨⟨a1, a2⟩, a3⟩
theorem DiskA.shut {b bs bm : Nat} {d : DS} {M : Nat → Prop} {w0 w : World} {L : List Asr} {ents : Array MapEntry} {clock : Nat} (hr : MapRel (Value.int .i64) St.val ents clock d.pend)
    (H : SH M w0 w (pt b (.cells #[.int .i64 d.fuse, .slice (some ⟨bs, 0, none⟩) d.sure.length d.sure.length, .map (some bm), .int .i64 d.writes] 63 (0, 0)) :: pt bs (.cells (flat d.sure).toArray 89 (0, 0)) :: pt bm (.map ents clock) :: L)) : (DiskA b bs bm d).says w := by
  have hp := H.apart
  simp only [List.pairwise_cons, List.mem_cons, pt_fp] at hp
  exact ⟨fun e => hp.1 _ (.inl rfl) b rfl e, fun e => hp.1 _ (.inr (.inl rfl)) b rfl e, fun e => hp.2.1 _ (.inl rfl) bs rfl e, H.at_ 0 rfl, H.at_ 1 rfl, ents, clock, H.at_ 2 rfl, hr⟩

theorem info87 : (Tryz.prog.info? 87).map (·.size) = some 32 := by kernel_rfl
theorem write_off (p : Option Addr) (i : Int) (v : Value) (w : World) (hth : Calls Tryz.prog 56 #[.pointer p, .int .i64 i] w fun e w' => e = .returned (.bool false) ∧ w = w') :
    Calls Tryz.prog 61 #[.pointer p, .int .i64 i, v] w fun e w' => e = .returned (.int .i64 1) ∧ w = w' := by
  go_enter Tryz.func61, Tryz.ntmps61
  go_wp2_with (go_at_call 56; refine hth.mono ?_; rintro e w' ⟨rfl, rfl⟩)
  go_ret
  exact ⟨rfl, rfl⟩
theorem write_len (p : Option Addr) (i : Int) (A : Option Addr) (n cap : Nat) (w : World) (hn : n ≠ 32) (hth : Calls Tryz.prog 56 #[.pointer p, .int .i64 i] w fun e w' => e = .returned (.bool true) ∧ w = w') :
    Calls Tryz.prog 61 #[.pointer p, .int .i64 i, .slice A n cap] w fun e w' => e = .returned (.int .i64 1) ∧ w = w' := by
  have h1 : ((n : Int) != 32) = true := by rw [bne_iff_ne]; omega
  go_enter Tryz.func61, Tryz.ntmps61
  go_wp2_with (go_at_call 56; refine hth.mono ?_; rintro e w' ⟨rfl, rfl⟩)
  go_ret
  exact ⟨rfl, rfl⟩
theorem write_down (b bs bm : Nat) (d : DS) (i : Int) (A : Option Addr) (cap : Nat) (w : World) (h : (DiskA b bs bm d).says w) (hf : d.fuse = 0) (hth : Calls Tryz.prog 56 #[.pointer (some ⟨b, 0, none⟩), .int .i64 i] w fun e w' => e = .returned (.bool true) ∧ w = w') :
    Calls Tryz.prog 61 #[.pointer (some ⟨b, 0, none⟩), .int .i64 i, .slice A 32 cap] w fun e w' => e = .returned (.int .i64 10) ∧ Ext (fun i => i = b) w w' ∧ (DiskA b bs bm d).says w' := by
  have hs := spend_any b bs bm d w h (by omega)
  have hd : d.spend = (d, false) := by simp [DS.spend, hf]
  rw [hd] at hs
  clear h hf
  go_enter Tryz.func61, Tryz.ntmps61
  go_wp2_with (first | (go_at_call 56; refine hth.mono ?_; rintro e w' ⟨rfl, rfl⟩) | (go_at_call 62; refine hs.mono ?_; rintro e w' ⟨rfl, hw, hs'⟩))
  go_ret
  exact ⟨rfl, hw, hs'⟩

/-- A sector written. -/
def DS.write (d : DS) (i : Int) (bytes : List Int) : DS := { d.spend.1 with pend := putE d.pend i ⟨bytes, d.writes + 1⟩, writes := d.writes + 1 }

set_option maxRecDepth 100000 in
set_option maxHeartbeats 1000000 in
theorem write_on (b bs bm : Nat) (d : DS) (i : Int) (v : Value) (xs : List Int) (w : World) (h : (DiskA b bs bm d).says w) (hf : -1 ≤ d.fuse ∧ d.fuse ≤ 9223372036854775807) (hf0 : d.fuse ≠ 0) (hw0 : 0 ≤ d.writes) (hw1 : d.writes < 9223372036854775807)
    (hr : RdS (encInt .u8) 1 w v xs) (hx : xs.length = 32) (hap : ∀ j, v.ownBlock = some j → ¬ (DiskA b bs bm d).fp j) (hth : Calls Tryz.prog 56 #[.pointer (some ⟨b, 0, none⟩), .int .i64 i] w fun e w' => e = .returned (.bool true) ∧ w = w') :
    Calls Tryz.prog 61 #[.pointer (some ⟨b, 0, none⟩), .int .i64 i, v] w fun e w' => e = .returned (.int .i64 0) ∧ Ext (DiskA b bs bm d).fp w w' ∧ (DiskA b bs bm (d.write i xs)).says w' := by
  have hs := spend_any b bs bm d w h hf
  have hd2 : d.spend.2 = true := by unfold DS.spend; split <;> simp_all
  have hds : d.spend.1.sure = d.sure ∧ d.spend.1.pend = d.pend ∧ d.spend.1.writes = d.writes := by unfold DS.spend; split <;> (try split) <;> simp
  rw [hd2] at hs
  obtain ⟨A, cap, rfl, hcap, hcs⟩ := hr
  rcases hcs with rfl | ⟨g, off, cs, T, fr, rfl, hg, hcs⟩
  · simp at hx
  rw [hx] at hcap ⊢
  have hcs' : ∀ j, j < 32 → cs[off + j]? = (xs.map (Value.int .u8))[j]? := fun j hj => by
    have h1 := hcs j (by omega) 0 (by omega)
    simp only [Nat.mul_one, Nat.add_zero, encInt, List.getElem?_cons_zero] at h1
    rw [h1]; simp [show j < xs.length by omega]
  clear hcs
  obtain ⟨hs1, hs2, hs3⟩ := hds
  unfold DS.write
  generalize hd' : d.spend.1 = d' at *
  have hgb : ¬ (DiskA b bs bm d).fp g := hap g rfl
  clear h hd' hd2 hap
  go_enter Tryz.func61, Tryz.ntmps61
  go_wp2_with (first | (go_at_call 56; refine hth.mono ?_; rintro e w' ⟨rfl, rfl⟩) | (go_at_call 62; refine hs.mono ?_; rintro e w' ⟨rfl, hw, hs'⟩; obtain ⟨ents, clock, hrel, H0⟩ := DiskA.open_ hs'; have H := SH.after (M := (DiskA b bs bm d).fp) H0 hw (fun j e => .inl e); clear H0 hs' hw) | (refine L_load1 rfl rfl H 0 rfl rfl rfl Tryz.isAgg3 ?_; (try simp only [Act.put, List.setIfInBounds_toArray, List.set_cons_succ, List.set_cons_zero, List.getElem_toArray, List.getElem_cons_succ, List.getElem_cons_zero])) | (refine L_store1 rfl rfl H 0 rfl rfl rfl rfl rfl (Nat.le_of_ble_eq_true rfl) Tryz.sizeOf3 ?_; clear H; intro w H; simp only [List.set_cons_zero, List.set_cons_succ, List.setIfInBounds_toArray, Act.eval, Array.getD_eq_getD_getElem?, List.getElem?_toArray, List.getElem?_cons_succ, List.getElem?_cons_zero, Option.getD_some] at H; (try simp only [Act.put, List.setIfInBounds_toArray, List.set_cons_succ, List.set_cons_zero, List.getElem_toArray, List.getElem_cons_succ, List.getElem_cons_zero])))
  obtain ⟨ents', clock', hrel', hrun⟩ := run_update_map (keyOk_int Tryz.underlying3) Tryz.underlying61 (H.drew.at_ 2 rfl) hrel i ⟨xs, d.writes + 1⟩
  have hup := H.drew.upd 2 rfl (Ext.putO _ bm (.map ents' clock')) (A' := pt bm (.map ents' clock')) (putO_same (by have := blk_lt' (H.drew.at_ 2 rfl); simpa using this) _) (fun j hj => ⟨.inl hj, by simp only [pt_fp] at hj; subst hj; rw [putO_size]; exact blk_lt' (H.drew.at_ 2 rfl)⟩)
  simp only [List.set_cons_zero, List.set_cons_succ] at hup
  have H2 := H.drop (L' := [_, _]) (List.Sublist.cons_cons _ (List.Sublist.cons_cons _ (List.nil_sublist _)))
  clear H
  refine D_start H2 (by kernel_rfl) (fun hS => ?_)
  try simp only [Act.put, List.setIfInBounds_toArray, List.set_cons_succ, List.set_cons_zero]
  refine D_take 0 (v := ?_) rfl (by kernel_rfl) (by kernel_rfl) (by kernel_rfl) (fun _ _ _ h => h) rfl (by rfl) (fun W hS => ?_) hS ?_
  rotate_left; (focus (first | (go_simp; done) | (go_simp; with_reducible rfl) | (go_simp; rfl))); all_goals skip; (try simp only [List.set_cons_succ, List.set_cons_zero])
  refine D_take 1 (v := ?_) rfl (by kernel_rfl) (by kernel_rfl) (by kernel_rfl) (fun _ _ _ h => h) rfl (by rfl) (fun W hS => ?_) hS ?_
  rotate_left; (focus (first | (go_simp; done) | (go_simp; with_reducible rfl) | (go_simp; rfl))); all_goals skip; (try simp only [List.set_cons_succ, List.set_cons_zero])
  refine D_take 2 (v := ?_) rfl (by kernel_rfl) (by kernel_rfl) (by kernel_rfl) (fun _ _ _ h => h) rfl (by rfl) (fun W hS => ?_) hS ?_
  rotate_left; (focus (first | (go_simp; done) | (go_simp; with_reducible rfl) | (go_simp; rfl))); all_goals skip; (try simp only [List.set_cons_succ, List.set_cons_zero])
  refine D_take 3 (v := ?_) rfl (by kernel_rfl) (by kernel_rfl) (by kernel_rfl) (fun _ _ _ h => h) rfl (by rfl) (fun W hS => ?_) hS ?_
  rotate_left; (focus (first | (refine R_load1 (ty := 61) (x := Operand.tmp 32) rfl hS 0 rfl rfl ?_ Tryz.isAgg61; rfl))); all_goals skip; (try simp only [List.set_cons_succ, List.set_cons_zero, List.getElem_toArray, List.getElem_cons_succ, List.getElem_cons_zero])
  refine D_take 4 (v := ?_) rfl (by kernel_rfl) (by kernel_rfl) (by kernel_rfl) (fun _ _ _ h => h) rfl (by rfl) (fun W hS => ?_) hS ?_
  rotate_left; (focus (first | (go_simp; done) | (go_simp; with_reducible rfl) | (go_simp; rfl))); all_goals skip; (try simp only [List.set_cons_succ, List.set_cons_zero])
  refine D_take 5 (v := ?_) rfl (by kernel_rfl) (by kernel_rfl) (by kernel_rfl) (fun _ _ _ h => h) rfl (by rfl) (fun W hS => ?_) hS ?_
  rotate_left; (focus (first | (go_simp; done) | (go_simp; with_reducible rfl) | (go_simp; rfl))); all_goals skip; (try simp only [List.set_cons_succ, List.set_cons_zero])
  refine D_take 6 (v := ?_) rfl (by kernel_rfl) (by kernel_rfl) (by kernel_rfl) (fun _ _ _ h => h) rfl (by rfl) (fun W hS => ?_) hS ?_
  rotate_left; (focus (first | (go_simp; done) | (go_simp; with_reducible rfl) | (go_simp; rfl))); all_goals skip; (try simp only [List.set_cons_succ, List.set_cons_zero])
  refine D_take 7 (v := .agg (xs.map (Value.int .u8)).toArray) rfl (by kernel_rfl) (by kernel_rfl) (by kernel_rfl) (fun _ _ _ h => h) rfl (by rfl) (fun W hS => R_loadmid (ty := 87) (x := .tmp 36) (b := g) (off := off) rfl rfl (hS.ext.keep hg hgb) Tryz.underlying87 rfl info87 (xs.map (Value.int .u8)) (by simp [hx]) hcs') hS ?_; (try simp only [List.set_cons_succ, List.set_cons_zero])
  refine D_take 8 (v := ?_) rfl (by kernel_rfl) (by kernel_rfl) (by kernel_rfl) (fun _ _ _ h => h) rfl (by rfl) (fun W hS => ?_) hS ?_
  rotate_left; (focus (first | (go_simp; done) | (go_simp; with_reducible rfl) | (go_simp; rfl))); all_goals skip; (try simp only [List.set_cons_succ, List.set_cons_zero])
  refine D_take 9 (v := ?_) rfl (by kernel_rfl) (by kernel_rfl) (by kernel_rfl) (fun _ _ _ h => h) rfl (by rfl) (fun W hS => ?_) hS ?_
  rotate_left; (focus (first | (go_simp; done) | (go_simp; with_reducible rfl) | (go_simp; rfl))); all_goals skip; (try simp only [List.set_cons_succ, List.set_cons_zero])
  refine D_take 10 (v := ?_) rfl (by kernel_rfl) (by kernel_rfl) (by kernel_rfl) (fun _ _ _ h => h) rfl (by rfl) (fun W hS => ?_) hS ?_
  rotate_left; (focus (first | (go_simp; done) | (go_simp; with_reducible rfl) | (go_simp; rfl))); all_goals skip; (try simp only [List.set_cons_succ, List.set_cons_zero])
  refine D_take 11 (v := ?_) rfl (by kernel_rfl) (by kernel_rfl) (by kernel_rfl) (fun _ _ _ h => h) rfl (by rfl) (fun W hS => ?_) hS ?_
  rotate_left; (focus (first | (refine R_load1 (ty := 3) (x := Operand.tmp 40) rfl hS 0 rfl rfl ?_ Tryz.isAgg3; rfl))); all_goals skip; (try simp only [List.set_cons_succ, List.set_cons_zero, List.getElem_toArray, List.getElem_cons_succ, List.getElem_cons_zero])
  refine D_take 12 (v := St.val ⟨xs, d.writes + 1⟩) rfl (by kernel_rfl) (by kernel_rfl) (by kernel_rfl) (fun _ _ _ h => h) rfl (by rfl) (fun W hS => R_build rfl rfl (build_state xs hx (d.writes + 1) W)) hS ?_; (try simp only [List.set_cons_succ, List.set_cons_zero])
  refine D_one 13 rfl (by kernel_rfl) (by rfl) ?_
  refine wp_of_skip (R_mapUpdate rfl rfl rfl rfl hrun) ⟨hup.drop (List.Sublist.cons_cons _ (List.Sublist.cons_cons _ (List.nil_sublist _))), ?_⟩
  try simp only [Act.put, List.getElem_toArray, List.getElem_cons_succ, List.getElem_cons_zero, List.setIfInBounds_toArray, List.set_cons_succ, List.set_cons_zero]
  refine wpAnyH_done (by kernel_rfl) ?_ _
  go_wp2_with fail
  go_ret
  exact ⟨rfl, hup.ext, by rw [← hs2]; exact DiskA.shut hrel' hup⟩
end Go.Proofs.YtgmeahogdjhejaaGreatDoor

namespace Go.Proofs.YtgmeahogdjhejaaGreatDoor
set_option linter.unusedVariables false
set_option linter.unusedSimpArgs false
open Go.RowKit
open Go.Sort (setMany size_setMany)

/-- Sectors, with some put in their places. -/
def applyAll (sure : List St) (es : List (Int × St)) : List St := es.foldl (fun l p => l.set p.1.toNat p.2) sure
theorem applyAll_length (es : List (Int × St)) : ∀ sure : List St, (applyAll sure es).length = sure.length := by
  induction es with
  | nil => intro sure; rfl
  | cons p es ih => intro sure; simp only [applyAll, List.foldl_cons] at ih ⊢; rw [ih]; simp
theorem applyAll_get (es : List (Int × St)) (hn : (es.map (·.1)).Nodup) (h0 : ∀ p ∈ es, 0 ≤ p.1) : ∀ (sure : List St) (j : Nat) (hj : j < sure.length), (applyAll sure es)[j]? = some ((getE es (j : Int)).getD sure[j]) := by
  induction es with
  | nil => intro sure j hj; simp [applyAll, getE_nil, hj]
  | cons p es ih =>
    intro sure j hj
    simp only [List.map_cons, List.nodup_cons] at hn
    have := ih hn.2 (fun q hq => h0 q (by simp [hq])) (sure.set p.1.toNat p.2) j (by simpa using hj)
    simp only [applyAll, List.foldl_cons] at this ⊢
    rw [this, getE_cons]
    have hp := h0 p (by simp)
    by_cases e : (j : Int) = p.1
    · have hnone : getE es (j : Int) = none := getE_none.2 (by rw [e]; exact hn.1)
      rw [if_pos e, hnone]
      have : p.1.toNat = j := by omega
      simp [this]
    · rw [if_neg e]
      have : p.1.toNat ≠ j := by omega
      congr 1; simp [this]
theorem getE_perm {V : Type} {es es' : List (Int × V)} (h : es.Perm es') (hn : (es.map (·.1)).Nodup) (k : Int) : getE es k = getE es' k := by
  have hn' : (es'.map (·.1)).Nodup := (h.map _).nodup_iff.1 hn
  cases hg : getE es k with
  | none =>
    have := getE_none.1 hg
    rw [eq_comm, getE_none]
    intro hm; exact this ((h.map _).symm.subset hm)
  | some v => exact (getE_of_mem hn' (h.subset (getE_mem hg))).symm
theorem applyAll_perm {sure : List St} {es es' : List (Int × St)} (h : es.Perm es') (hn : (es.map (·.1)).Nodup) (h0 : ∀ p ∈ es, 0 ≤ p.1) : applyAll sure es = applyAll sure es' := by
  apply List.ext_getElem?
  intro j
  by_cases hj : j < sure.length
  · rw [applyAll_get es hn h0 sure j hj, applyAll_get es' ((h.map _).nodup_iff.1 hn) (fun p hp => h0 p (h.symm.subset hp)) sure j hj, getE_perm h hn]
  · rw [List.getElem?_eq_none (by rw [applyAll_length]; omega), List.getElem?_eq_none (by rw [applyAll_length]; omega)]
theorem applyAll_snoc (sure : List St) (es : List (Int × St)) (p : Int × St) : applyAll sure (es ++ [p]) = (applyAll sure es).set p.1.toNat p.2 := by simp [applyAll]
theorem applyAll_ok {sure : List St} {es : List (Int × St)} (h1 : ∀ s ∈ sure, s.Ok) (h2 : ∀ p ∈ es, p.2.Ok) : ∀ s ∈ applyAll sure es, s.Ok := by
  induction es generalizing sure with
  | nil => exact h1
  | cons p es ih =>
    refine ih (sure := sure.set p.1.toNat p.2) (fun s hs => ?_) (fun q hq => h2 q (by simp [hq]))
    rcases List.mem_or_eq_of_mem_set hs with h | rfl
    · exact h1 s h
    · exact h2 p (by simp)

theorem length_flat {ss : List St} (h : ∀ s ∈ ss, s.Ok) : (flat ss).length = ss.length * 33 := by
  induction ss with
  | nil => rfl
  | cons s ss ih =>
    have := ih (fun x hx => h x (by simp [hx]))
    simp only [flat, List.flatMap_cons, List.length_append, List.length_cons] at this ⊢
    rw [this, St.size_cells (h s (by simp))]; omega
theorem flat_set {ss : List St} (h : ∀ s ∈ ss, s.Ok) (k : Nat) (hk : k < ss.length) (s : St) (hs : s.Ok) : setMany (flat ss).toArray (k * 33) s.cells = (flat (ss.set k s)).toArray := by
  have hok' : ∀ x ∈ ss.set k s, x.Ok := fun x hx => by
    rcases List.mem_or_eq_of_mem_set hx with h' | rfl
    · exact h x h'
    · exact hs
  have hl := length_flat h
  have hl' := length_flat hok'
  rw [List.length_set] at hl'
  have hkk : (k + 1) * 33 ≤ ss.length * 33 := Nat.mul_le_mul_right 33 hk
  have hsc := St.size_cells hs
  apply Array.ext_getElem?
  intro j
  by_cases hj : j < ss.length * 33
  · rw [get_setMany _ _ _ _ (by simp only [List.size_toArray]; omega)]
    have hq : j / 33 < ss.length := by omega
    have hm : j / 33 * 33 + j % 33 = j := by omega
    have e1 := flat_at ss h (j / 33) hq (j % 33) (by omega)
    have e2 := flat_at (ss.set k s) hok' (j / 33) (by simpa using hq) (j % 33) (by omega)
    rw [hm] at e1 e2
    simp only [List.getElem?_toArray]
    rw [e2, e1]
    by_cases hjk : j / 33 = k
    · rw [if_pos (by omega)]
      have : j - k * 33 = j % 33 := by omega
      simp [hjk, hk, this]
    · rw [if_neg (by omega)]
      simp [Ne.symm hjk]
  · rw [Array.getElem?_eq_none (by simp; omega), Array.getElem?_eq_none (by simp; omega)]

theorem flush_nil (w : World) : Calls Tryz.prog 31 #[.pointer none] w fun e w' => e = .returned (.int .i64 1) ∧ w = w' := by
  go_enter Tryz.func31, Tryz.ntmps31
  go_wp2_with fail
  go_ret
  exact ⟨rfl, rfl⟩
theorem flush_down (b bs bm : Nat) (d : DS) (w : World) (h : (DiskA b bs bm d).says w) (hf : d.fuse = 0) :
    Calls Tryz.prog 31 #[.pointer (some ⟨b, 0, none⟩)] w fun e w' => e = .returned (.int .i64 10) ∧ Ext (fun i => i = b) w w' ∧ (DiskA b bs bm d).says w' := by
  have hs := spend_any b bs bm d w h (by omega)
  have hd : d.spend = (d, false) := by simp [DS.spend, hf]
  rw [hd] at hs
  clear h hf
  go_enter Tryz.func31, Tryz.ntmps31
  go_wp2_with (go_at_call 62; refine hs.mono ?_; rintro e w' ⟨rfl, hw, hs'⟩)
  go_ret
  exact ⟨rfl, hw, hs'⟩

theorem DS.spend_eq (d : DS) (h : d.fuse ≠ 0) : ∃ f, d.spend = (⟨f, d.sure, d.pend, d.writes⟩, true) := by
  unfold DS.spend; split
  · exact ⟨_, rfl⟩
  · (try rw [if_neg h]); exact ⟨_, rfl⟩

def DS.flush (d : DS) : DS := { d.spend.1 with sure := applyAll d.sure d.pend, pend := [] }

/-- At the head of a round of Flush's. -/
def FlushRel (b bs bm : Nat) (f : Int) (d : DS) (w0 : World) (r : Nat) (ents : Array MapEntry) (clock : Nat) (dec : MapEntry → Int × St) (wr : World) : Prop :=
  ∃ seen dl rl, Iter ents seen dl rl ∧ SH (DiskA b bs bm d).fp w0 wr [pt r (.mapIter (some bm) clock seen clock), pt b (.cells #[.int .i64 f, .slice (some ⟨bs, 0, none⟩) d.sure.length d.sure.length, .map (some bm), .int .i64 d.writes] 63 (0, 0)), pt bs (.cells (flat (applyAll d.sure (dl.map dec))).toArray 89 (0, 0)), pt bm (.map ents clock)]

set_option maxRecDepth 100000 in
set_option maxHeartbeats 1000000 in
theorem flush_on (b bs bm : Nat) (d : DS) (w0 : World) (h : (DiskA b bs bm d).says w0) (hf : -1 ≤ d.fuse ∧ d.fuse ≤ 9223372036854775807) (hf0 : d.fuse ≠ 0) (hall : ∀ s ∈ d.sure, s.Ok) (hp : ∀ p ∈ d.pend, p.2.Ok ∧ 0 ≤ p.1 ∧ p.1 < d.sure.length) :
    Calls Tryz.prog 31 #[.pointer (some ⟨b, 0, none⟩)] w0 fun e w' => e = .returned (.int .i64 0) ∧ Ext (DiskA b bs bm d).fp w0 w' ∧ (DiskA b bs bm d.flush).says w' := by
  have hs := spend_any b bs bm d w0 h hf
  obtain ⟨f, hd⟩ := d.spend_eq hf0
  unfold DS.flush
  rw [hd] at hs ⊢
  clear h hd hf hf0
  go_enter Tryz.func31, Tryz.ntmps31
  go_wp2_with (first | (go_at_call 62; refine hs.mono ?_; rintro e w' ⟨rfl, hw, hs'⟩; obtain ⟨ents, clock, hrel, H0⟩ := DiskA.open_ hs'; have H := SH.after (M := (DiskA b bs bm d).fp) H0 hw (fun j e => .inl e); clear H0 hs' hw) | (refine L_load1 rfl rfl H 0 rfl rfl rfl Tryz.isAgg61 ?_; (try simp only [Act.put, List.setIfInBounds_toArray, List.set_cons_succ, List.set_cons_zero, List.getElem_toArray, List.getElem_cons_succ, List.getElem_cons_zero])) | (refine L_range rfl rfl H rfl Tryz.underlying61 (H.at_ 2 rfl) ?_; clear H; intro r w H; (try simp only [Act.put, List.setIfInBounds_toArray, List.set_cons_succ, List.set_cons_zero, List.getElem_toArray, List.getElem_cons_succ, List.getElem_cons_zero])))
  clear hs
  obtain ⟨dec, hdec, hkv⟩ := hrel.dec (0, St.zero)
  have H_1 := H
  clear H
  have HKV := Lib.hid hkv
  clear hkv
  have HDEC := Lib.hid hdec
  clear hdec
  have hold := hrel.clock
  have hnd : (ents.toList.map (·.born)).Nodup := hrel.born.imp (fun hlt => Nat.ne_of_lt hlt)
  go_loopw [3] (fun _ wr => FlushRel b bs bm f d w0 r ents clock dec wr) (fun _ wr => (leftOf ents (wr.iterSeen r)).size)
  case atStart => exact ⟨#[], [], _, Iter.start ents, H_1⟩
  case round =>
    obtain ⟨seen, dl, rl, hit, H⟩ := hrel
    clear H_1
    have HS0 := Lib.hid (show wr.iterSeen r = seen by simp [World.iterSeen, H.at_ 0 rfl])
    go_wp2_with (first | (refine L_next rfl rfl H 0 3 rfl rfl rfl hold (fun h0 => ?_) (fun e he w H1 => ?_); rotate_left; (clear H; have H := H1; clear H1; simp only [List.set_cons_zero] at H; obtain ⟨hk1, hk2⟩ := HKV.out e (mem_left he).1; have hmem : dec e ∈ d.pend := (by rw [← HDEC.out]; exact List.mem_map_of_mem (mem_left he).1); obtain ⟨hok, hz0, hz1⟩ := hp (dec e) hmem; have hsz := St.size_arr hok; have hone := St.one_cells (dec e).2; obtain ⟨n, hn⟩ := Int.eq_ofNat_of_zero_le hz0; rw [hn] at hk1 hz1; have HN := Lib.hid hn; clear hn; have hmem' := (mem_left he).1; (try simp only [Act.put, List.setIfInBounds_toArray, List.set_cons_succ, List.set_cons_zero, List.getElem_toArray, List.getElem_cons_succ, List.getElem_cons_zero])); rotate_right; (try simp only [Act.put, List.setIfInBounds_toArray, List.set_cons_succ, List.set_cons_zero, List.getElem_toArray, List.getElem_cons_succ, List.getElem_cons_zero])) | (refine L_entry rfl rfl H 0 3 rfl rfl rfl hmem' hnd ?_; (try simp only [Act.put, List.setIfInBounds_toArray, List.set_cons_succ, List.set_cons_zero, List.getElem_toArray, List.getElem_cons_succ, List.getElem_cons_zero])) | (refine L_alloc rfl rfl H zero89 ?_; clear H; intro g w H; (try simp only [Act.put, List.setIfInBounds_toArray, List.set_cons_succ, List.set_cons_zero, List.getElem_toArray, List.getElem_cons_succ, List.getElem_cons_zero])) | (refine L_storerow rfl rfl H 0 rfl rfl rfl info89 ?hn ?ho ?h1 ?_; (case hn => first | rfl | assumption); (case ho => first | rfl | assumption); (case h1 => first | assumption | exact St.one_cells _ | rfl); clear H; intro w H; simp only [List.set_cons_zero, List.set_cons_succ, List.setIfInBounds_toArray, Act.eval, Array.getD_eq_getD_getElem?, List.getElem?_toArray, List.getElem?_cons_succ, List.getElem?_cons_zero, Option.getD_some] at H; (try simp only [Act.put, List.setIfInBounds_toArray, List.set_cons_succ, List.set_cons_zero, List.getElem_toArray, List.getElem_cons_succ, List.getElem_cons_zero])) | (refine L_load1 rfl rfl H 0 rfl rfl rfl Tryz.isAgg61 ?_; (try simp only [Act.put, List.setIfInBounds_toArray, List.set_cons_succ, List.set_cons_zero, List.getElem_toArray, List.getElem_cons_succ, List.getElem_cons_zero])) | (refine L_load1 rfl rfl H 1 rfl rfl rfl Tryz.isAgg61 ?_; (try simp only [Act.put, List.setIfInBounds_toArray, List.set_cons_succ, List.set_cons_zero, List.getElem_toArray, List.getElem_cons_succ, List.getElem_cons_zero])) | (refine L_clear rfl rfl H 3 rfl rfl Tryz.underlying61 ?_; clear H; intro w H; simp only [List.set_cons_zero, List.set_cons_succ] at H; (try simp only [Act.put, List.setIfInBounds_toArray, List.set_cons_succ, List.set_cons_zero, List.getElem_toArray, List.getElem_cons_succ, List.getElem_cons_zero])))
    · go_ret
      have hdp : (dl.map dec).Perm d.pend := by rw [← HDEC.out]; exact (hit.done hnd h0).map dec
      have hkn : ((dl.map dec).map (·.1)).Nodup := (hdp.map _).nodup_iff.2 hrel.keys
      have hap := applyAll_perm (sure := d.sure) hdp hkn (fun p hp' => (hp p (hdp.subset hp')).2.1)
      rw [hap] at H
      have hln : d.sure.length = (applyAll d.sure d.pend).length := (applyAll_length _ _).symm
      refine ⟨rfl, H.ext, ?_⟩
      refine DiskA.shut (M := (DiskA b bs bm d).fp) (w0 := w0) (d := { fuse := f, sure := applyAll d.sure d.pend, pend := [], writes := d.writes }) (MapRel.empty _ _ clock) (L := []) ?_
      rw [← hln]
      exact H.drop (List.sublist_cons_self _ _)
    · have hall' : ∀ s ∈ applyAll d.sure (dl.map dec), s.Ok := applyAll_ok hall (fun q hq => by
        obtain ⟨y, hy, rfl⟩ := List.mem_map.1 hq
        exact (hp _ (by rw [← HDEC.out]; exact List.mem_map_of_mem (hit.1.subset (List.mem_append_left _ hy)))).1)
      have hnl : n < (applyAll d.sure (dl.map dec)).length := by rw [applyAll_length]; omega
      have hln := length_flat hall'
      have hsp : n * 33 + 33 ≤ (flat (applyAll d.sure (dl.map dec))).toArray.size := by simp only [List.size_toArray, hln]; omega
      have hup := H.drew.setMid 3 rfl (n * 33) (dec e).2.cells
      rw [flat_set hall' n hnl _ hok] at hup
      simp only [List.set_cons_zero, List.set_cons_succ] at hup
      have hst := fun (a : Act) (o : Oper) ho hx hy => R_storemid (P := Tryz.prog) (a := a) (o := o) (ty := 89) (x := .tmp 30) (y := .tmp 29) ho H.drew 3 (off := n * 33) (vs := (dec e).2.cells.toArray) hx hy rfl info89 hsz hsp hone
      have H2 := H.drop (L' := [_, _, _]) (List.Sublist.cons_cons _ (List.Sublist.cons_cons _ (List.Sublist.cons_cons _ (List.nil_sublist _))))
      have HH := Lib.hid (And.intro hup hst)
      clear hup hst hln hsp hall hp hall' H
      have hb0 : n < d.sure.length := by omega
      refine D_start H2 (by kernel_rfl) (fun hS => ?_)
      try simp only [Act.put, List.setIfInBounds_toArray, List.set_cons_succ, List.set_cons_zero]
      refine D_take 0 (v := ?_) rfl (by kernel_rfl) (by kernel_rfl) (by kernel_rfl) (fun _ _ _ h => h) rfl (by rfl) (fun W hS => ?_) hS ?_
      rotate_left; (focus (first | (go_simp; done) | (go_simp; with_reducible rfl) | (go_simp; rfl))); all_goals skip; (try simp only [List.set_cons_succ, List.set_cons_zero])
      refine D_take 1 (v := ?_) rfl (by kernel_rfl) (by kernel_rfl) (by kernel_rfl) (fun _ _ _ h => h) rfl (by rfl) (fun W hS => ?_) hS ?_
      rotate_left; (focus (first | (go_simp; done) | (go_simp; with_reducible rfl) | (go_simp; rfl))); all_goals skip; (try simp only [List.set_cons_succ, List.set_cons_zero])
      refine D_take 2 (v := ?_) rfl (by kernel_rfl) (by kernel_rfl) (by kernel_rfl) (fun _ _ _ h => h) rfl (by rfl) (fun W hS => ?_) hS ?_
      rotate_left; (focus (first | (go_simp; done) | (go_simp; with_reducible rfl) | (go_simp; rfl))); all_goals skip; (try simp only [List.set_cons_succ, List.set_cons_zero])
      refine D_take 3 (v := ?_) rfl (by kernel_rfl) (by kernel_rfl) (by kernel_rfl) (fun _ _ _ h => h) rfl (by rfl) (fun W hS => ?_) hS ?_
      rotate_left; (focus (first | (refine R_load1 (ty := 60) (x := Operand.tmp 26) rfl hS 2 rfl rfl ?_ Tryz.isAgg60; rfl))); all_goals skip; (try simp only [List.set_cons_succ, List.set_cons_zero, List.getElem_toArray, List.getElem_cons_succ, List.getElem_cons_zero])
      refine D_take 4 (v := ?_) rfl (by kernel_rfl) (by kernel_rfl) (by kernel_rfl) (fun _ _ _ h => h) rfl (by rfl) (fun W hS => ?_) hS ?_
      rotate_left; (focus (first | (go_simp; done) | (go_simp; with_reducible rfl) | (go_simp; rfl))); all_goals skip; (try simp only [List.set_cons_succ, List.set_cons_zero])
      refine D_take 5 (v := (dec e).2.val) rfl (by kernel_rfl) (by kernel_rfl) (by kernel_rfl) (fun _ _ _ h => h) rfl (by rfl) (fun W hS => R_loadrow (ty := 89) (x := .tmp 4) rfl hS 0 rfl rfl Tryz.underlying89 rfl info89 hsz) hS ?_; (try simp only [List.set_cons_succ, List.set_cons_zero])
      refine D_take 6 (v := ?_) rfl (by kernel_rfl) (by kernel_rfl) (by kernel_rfl) (fun _ _ _ h => h) rfl (by rfl) (fun W hS => ?_) hS ?_
      rotate_left; (focus (first | (go_simp; done) | (go_simp; with_reducible rfl) | (go_simp; rfl))); all_goals skip; (try simp only [List.set_cons_succ, List.set_cons_zero])
      refine D_one 7 rfl (by kernel_rfl) (by rfl) ?_
      refine wp_of_skip (HH.out.2 _ _ rfl rfl rfl) ⟨HH.out.1.drop (List.Sublist.cons_cons _ (List.Sublist.cons_cons _ (List.Sublist.cons_cons _ (List.nil_sublist _)))), ?_⟩
      try simp only [Act.put, List.getElem_toArray, List.getElem_cons_succ, List.getElem_cons_zero, List.setIfInBounds_toArray, List.set_cons_succ, List.set_cons_zero]
      refine wpAnyH_done (by kernel_rfl) ?_ _
      go_wp2_with fail
      obtain ⟨rl', hit', _⟩ := hit.next he
      go_roundw
      case rel =>
        refine ⟨seen.push e.born, dl ++ [e], rl', hit', ?_⟩
        have hsn : applyAll d.sure ((dl ++ [e]).map dec) = (applyAll d.sure (dl.map dec)).set n (dec e).2 := by
          rw [List.map_append, List.map_cons, List.map_nil, applyAll_snoc, HN.out]; rfl
        rw [hsn]
        exact HH.out.1.drop (List.sublist_cons_self _ _)
      case measure =>
        have h1 := HH.out.1.at_ 1 rfl
        have h2 : World.iterSeen (w.drew.setCells bs (n * 33) (dec e).2.cells) r = seen.push e.born := by simp only [World.iterSeen, h1]
        show (leftOf ents (World.iterSeen (w.drew.setCells bs (n * 33) (dec e).2.cells) r)).size < _
        rw [h2, HS0.out]
        exact left_shrinks ents seen e he
end Go.Proofs.YtgmeahogdjhejaaGreatDoor

namespace Go.Proofs.YtgmeahogdjhejaaGreatDoor
set_option linter.unusedVariables false
set_option linter.unusedSimpArgs false
open Go.RowKit

theorem R_copy {P : Program} {a : Act} {w w' : World} {o : Oper} {d s : Operand} {t t' : TypeId} (ho : o.op = .call { callee := .builtin .copy, args := #[d, s], argTypes := #[t, t'] }) {v u : Value} (hd : a.eval d = v) (hs : a.eval s = u) {v' : Value}
    (hr : (Builtin.copy_ #[t, t'] o.type #[v, u]).run P w = .ok v' w') {K : Act → World → Prop} {Q : Exit → Act → World → Prop} (h : K (a.put o.dst v') w') : o.wp P a w K Q := by
  unfold Oper.wp execOp
  simp only [ho, resolve, invoke, builtin, Sem.run_bind, Sem.run_pure, Result.andThen_ok, List.map_toArray, List.map_cons, List.map_nil, hd, hs, hr]
  exact h

def keepBit (keep number : Int) : Bool := bits BinOp.and IntKind.i64 (keep / 2 ^ number.toNat) 1 == 1
def St.torn (s n : St) (c : Int) : St := ⟨n.bytes.take c.toNat ++ s.bytes.drop c.toNat, s.wr⟩
def surv (s n : St) (number keep torn cut : Int) : St :=
  if number = torn then (if 32 ≤ cut then n else s.torn n cut) else if number < 62 ∧ keepBit keep number = true then n else s
theorem surv_ok {s n : St} (hs : s.Ok) (hn : n.Ok) (number keep torn cut : Int) : (surv s n number keep torn cut).Ok := by
  unfold surv
  split
  · split
    · exact hn
    · refine ⟨by simp [St.torn, hs.1, hn.1]; omega, fun x hx => ?_⟩
      simp only [St.torn, List.mem_append] at hx
      rcases hx with hx | hx
      · exact hn.2 x (List.mem_of_mem_take hx)
      · exact hs.2 x (List.mem_of_mem_drop hx)
  · split <;> assumption

set_option maxRecDepth 100000 in
set_option maxHeartbeats 1000000 in
theorem surv_now (s n : St) (number keep torn cut : Int) (w : World) (hn : n.Ok) (h : number = torn ∧ 32 ≤ cut) :
    Calls Tryz.prog 44 #[s.val, n.val, .int .i64 number, .int .i64 keep, .int .i64 torn, .int .i64 cut] w fun e w' => e = .returned n.val ∧ Ext0 w w' := by
  obtain ⟨rfl, hc⟩ := h
  have H : SH (fun _ => False) w w [] := SH.nil _ _
  have hsz := St.size_arr hn
  have hone := St.one_cells n
  go_enter Tryz.func44, Tryz.ntmps44
  go_wp2_with (first | (refine L_alloc rfl rfl H zero89 ?_; clear H; intro g w H; (try simp only [Act.put, List.setIfInBounds_toArray, List.set_cons_succ, List.set_cons_zero, List.getElem_toArray, List.getElem_cons_succ, List.getElem_cons_zero])) | (refine L_loadrow rfl rfl H 0 rfl rfl Tryz.underlying89 rfl info89 ?hn ?_; (case hn => first | rfl | assumption | (simp only [List.size_toArray]; assumption)); (try simp only [Act.put, List.setIfInBounds_toArray, List.set_cons_succ, List.set_cons_zero, List.getElem_toArray, List.getElem_cons_succ, List.getElem_cons_zero])) | (refine L_loadrow rfl rfl H 1 rfl rfl Tryz.underlying89 rfl info89 ?hn ?_; (case hn => first | rfl | assumption | (simp only [List.size_toArray]; assumption)); (try simp only [Act.put, List.setIfInBounds_toArray, List.set_cons_succ, List.set_cons_zero, List.getElem_toArray, List.getElem_cons_succ, List.getElem_cons_zero])) | (refine L_loadrow rfl rfl H 2 rfl rfl Tryz.underlying89 rfl info89 ?hn ?_; (case hn => first | rfl | assumption | (simp only [List.size_toArray]; assumption)); (try simp only [Act.put, List.setIfInBounds_toArray, List.set_cons_succ, List.set_cons_zero, List.getElem_toArray, List.getElem_cons_succ, List.getElem_cons_zero])) | (refine L_storerow rfl rfl H 0 rfl rfl rfl info89 ?hn ?ho ?h1 ?_; (case hn => first | rfl | assumption); (case ho => first | rfl | assumption); (case h1 => first | assumption | exact St.one_cells _ | rfl); clear H; intro w H; simp only [List.set_cons_zero, List.set_cons_succ, List.setIfInBounds_toArray, Act.eval, Array.getD_eq_getD_getElem?, List.getElem?_toArray, List.getElem?_cons_succ, List.getElem?_cons_zero, Option.getD_some] at H; (try simp only [Act.put, List.setIfInBounds_toArray, List.set_cons_succ, List.set_cons_zero, List.getElem_toArray, List.getElem_cons_succ, List.getElem_cons_zero])) | (refine L_storerow rfl rfl H 1 rfl rfl rfl info89 ?hn ?ho ?h1 ?_; (case hn => first | rfl | assumption); (case ho => first | rfl | assumption); (case h1 => first | assumption | exact St.one_cells _ | rfl); clear H; intro w H; simp only [List.set_cons_zero, List.set_cons_succ, List.setIfInBounds_toArray, Act.eval, Array.getD_eq_getD_getElem?, List.getElem?_toArray, List.getElem?_cons_succ, List.getElem?_cons_zero, Option.getD_some] at H; (try simp only [Act.put, List.setIfInBounds_toArray, List.set_cons_succ, List.set_cons_zero, List.getElem_toArray, List.getElem_cons_succ, List.getElem_cons_zero])) | (refine L_storerow rfl rfl H 2 rfl rfl rfl info89 ?hn ?ho ?h1 ?_; (case hn => first | rfl | assumption); (case ho => first | rfl | assumption); (case h1 => first | assumption | exact St.one_cells _ | rfl); clear H; intro w H; simp only [List.set_cons_zero, List.set_cons_succ, List.setIfInBounds_toArray, Act.eval, Array.getD_eq_getD_getElem?, List.getElem?_toArray, List.getElem?_cons_succ, List.getElem?_cons_zero, Option.getD_some] at H; (try simp only [Act.put, List.setIfInBounds_toArray, List.set_cons_succ, List.set_cons_zero, List.getElem_toArray, List.getElem_cons_succ, List.getElem_cons_zero])) | (refine L_box rfl rfl H rfl rfl ?_; clear H; intro g w H; (try simp only [Act.eval, Array.getD_eq_getD_getElem?, List.getElem?_toArray, List.getElem?_cons_succ, List.getElem?_cons_zero, Option.getD_some, Value.cells] at H); (try simp only [Act.put, List.setIfInBounds_toArray, List.set_cons_succ, List.set_cons_zero, List.getElem_toArray, List.getElem_cons_succ, List.getElem_cons_zero])))
  (try simp only [Exit.inBlock, Exit.then])
  exact L_retrow rfl H 0 rfl rfl Tryz.underlying89 rfl info89 hsz rfl ⟨rfl, H.ext⟩

set_option maxRecDepth 100000 in
set_option maxHeartbeats 1000000 in
theorem surv_bit1 (s n : St) (number keep torn cut : Int) (w : World) (hs : s.Ok) (hn : n.Ok) (h : number ≠ torn) (h0 : 0 ≤ number) (h62 : number < 62) (hb : keepBit keep number = true) :
    Calls Tryz.prog 44 #[s.val, n.val, .int .i64 number, .int .i64 keep, .int .i64 torn, .int .i64 cut] w fun e w' => e = .returned n.val ∧ Ext0 w w' := by
  unfold keepBit at hb
  have he : (number == torn) = false := by simp [h]
  have H : SH (fun _ => False) w w [] := SH.nil _ _
  have hsz := St.size_arr hn
  have hsz2 := St.size_arr hs
  go_enter Tryz.func44, Tryz.ntmps44
  go_wp2_with (first | (refine L_alloc rfl rfl H zero89 ?_; clear H; intro g w H; (try simp only [Act.put, List.setIfInBounds_toArray, List.set_cons_succ, List.set_cons_zero, List.getElem_toArray, List.getElem_cons_succ, List.getElem_cons_zero])) | (refine L_loadrow rfl rfl H 0 rfl rfl Tryz.underlying89 rfl info89 ?hn ?_; (case hn => first | rfl | assumption | (simp only [List.size_toArray]; assumption)); (try simp only [Act.put, List.setIfInBounds_toArray, List.set_cons_succ, List.set_cons_zero, List.getElem_toArray, List.getElem_cons_succ, List.getElem_cons_zero])) | (refine L_loadrow rfl rfl H 1 rfl rfl Tryz.underlying89 rfl info89 ?hn ?_; (case hn => first | rfl | assumption | (simp only [List.size_toArray]; assumption)); (try simp only [Act.put, List.setIfInBounds_toArray, List.set_cons_succ, List.set_cons_zero, List.getElem_toArray, List.getElem_cons_succ, List.getElem_cons_zero])) | (refine L_loadrow rfl rfl H 2 rfl rfl Tryz.underlying89 rfl info89 ?hn ?_; (case hn => first | rfl | assumption | (simp only [List.size_toArray]; assumption)); (try simp only [Act.put, List.setIfInBounds_toArray, List.set_cons_succ, List.set_cons_zero, List.getElem_toArray, List.getElem_cons_succ, List.getElem_cons_zero])) | (refine L_storerow rfl rfl H 0 rfl rfl rfl info89 ?hn ?ho ?h1 ?_; (case hn => first | rfl | assumption); (case ho => first | rfl | assumption); (case h1 => first | assumption | exact St.one_cells _ | rfl); clear H; intro w H; simp only [List.set_cons_zero, List.set_cons_succ, List.setIfInBounds_toArray, Act.eval, Array.getD_eq_getD_getElem?, List.getElem?_toArray, List.getElem?_cons_succ, List.getElem?_cons_zero, Option.getD_some] at H; (try simp only [Act.put, List.setIfInBounds_toArray, List.set_cons_succ, List.set_cons_zero, List.getElem_toArray, List.getElem_cons_succ, List.getElem_cons_zero])) | (refine L_storerow rfl rfl H 1 rfl rfl rfl info89 ?hn ?ho ?h1 ?_; (case hn => first | rfl | assumption); (case ho => first | rfl | assumption); (case h1 => first | assumption | exact St.one_cells _ | rfl); clear H; intro w H; simp only [List.set_cons_zero, List.set_cons_succ, List.setIfInBounds_toArray, Act.eval, Array.getD_eq_getD_getElem?, List.getElem?_toArray, List.getElem?_cons_succ, List.getElem?_cons_zero, Option.getD_some] at H; (try simp only [Act.put, List.setIfInBounds_toArray, List.set_cons_succ, List.set_cons_zero, List.getElem_toArray, List.getElem_cons_succ, List.getElem_cons_zero])) | (refine L_storerow rfl rfl H 2 rfl rfl rfl info89 ?hn ?ho ?h1 ?_; (case hn => first | rfl | assumption); (case ho => first | rfl | assumption); (case h1 => first | assumption | exact St.one_cells _ | rfl); clear H; intro w H; simp only [List.set_cons_zero, List.set_cons_succ, List.setIfInBounds_toArray, Act.eval, Array.getD_eq_getD_getElem?, List.getElem?_toArray, List.getElem?_cons_succ, List.getElem?_cons_zero, Option.getD_some] at H; (try simp only [Act.put, List.setIfInBounds_toArray, List.set_cons_succ, List.set_cons_zero, List.getElem_toArray, List.getElem_cons_succ, List.getElem_cons_zero])) | (refine L_box rfl rfl H rfl rfl ?_; clear H; intro g w H; (try simp only [Act.eval, Array.getD_eq_getD_getElem?, List.getElem?_toArray, List.getElem?_cons_succ, List.getElem?_cons_zero, Option.getD_some, Value.cells] at H); (try simp only [Act.put, List.setIfInBounds_toArray, List.set_cons_succ, List.set_cons_zero, List.getElem_toArray, List.getElem_cons_succ, List.getElem_cons_zero])))
  (try simp only [Exit.inBlock, Exit.then])
  exact L_retrow rfl H 0 rfl rfl Tryz.underlying89 rfl info89 hsz rfl ⟨rfl, H.ext⟩
set_option maxRecDepth 100000 in
set_option maxHeartbeats 1000000 in
theorem surv_bit0 (s n : St) (number keep torn cut : Int) (w : World) (hs : s.Ok) (hn : n.Ok) (h : number ≠ torn) (h0 : 0 ≤ number) (h62 : number < 62) (hb : keepBit keep number = false) :
    Calls Tryz.prog 44 #[s.val, n.val, .int .i64 number, .int .i64 keep, .int .i64 torn, .int .i64 cut] w fun e w' => e = .returned s.val ∧ Ext0 w w' := by
  unfold keepBit at hb
  have he : (number == torn) = false := by simp [h]
  have H : SH (fun _ => False) w w [] := SH.nil _ _
  have hsz := St.size_arr hn
  have hsz2 := St.size_arr hs
  go_enter Tryz.func44, Tryz.ntmps44
  go_wp2_with (first | (refine L_alloc rfl rfl H zero89 ?_; clear H; intro g w H; (try simp only [Act.put, List.setIfInBounds_toArray, List.set_cons_succ, List.set_cons_zero, List.getElem_toArray, List.getElem_cons_succ, List.getElem_cons_zero])) | (refine L_loadrow rfl rfl H 0 rfl rfl Tryz.underlying89 rfl info89 ?hn ?_; (case hn => first | rfl | assumption | (simp only [List.size_toArray]; assumption)); (try simp only [Act.put, List.setIfInBounds_toArray, List.set_cons_succ, List.set_cons_zero, List.getElem_toArray, List.getElem_cons_succ, List.getElem_cons_zero])) | (refine L_loadrow rfl rfl H 1 rfl rfl Tryz.underlying89 rfl info89 ?hn ?_; (case hn => first | rfl | assumption | (simp only [List.size_toArray]; assumption)); (try simp only [Act.put, List.setIfInBounds_toArray, List.set_cons_succ, List.set_cons_zero, List.getElem_toArray, List.getElem_cons_succ, List.getElem_cons_zero])) | (refine L_loadrow rfl rfl H 2 rfl rfl Tryz.underlying89 rfl info89 ?hn ?_; (case hn => first | rfl | assumption | (simp only [List.size_toArray]; assumption)); (try simp only [Act.put, List.setIfInBounds_toArray, List.set_cons_succ, List.set_cons_zero, List.getElem_toArray, List.getElem_cons_succ, List.getElem_cons_zero])) | (refine L_storerow rfl rfl H 0 rfl rfl rfl info89 ?hn ?ho ?h1 ?_; (case hn => first | rfl | assumption); (case ho => first | rfl | assumption); (case h1 => first | assumption | exact St.one_cells _ | rfl); clear H; intro w H; simp only [List.set_cons_zero, List.set_cons_succ, List.setIfInBounds_toArray, Act.eval, Array.getD_eq_getD_getElem?, List.getElem?_toArray, List.getElem?_cons_succ, List.getElem?_cons_zero, Option.getD_some] at H; (try simp only [Act.put, List.setIfInBounds_toArray, List.set_cons_succ, List.set_cons_zero, List.getElem_toArray, List.getElem_cons_succ, List.getElem_cons_zero])) | (refine L_storerow rfl rfl H 1 rfl rfl rfl info89 ?hn ?ho ?h1 ?_; (case hn => first | rfl | assumption); (case ho => first | rfl | assumption); (case h1 => first | assumption | exact St.one_cells _ | rfl); clear H; intro w H; simp only [List.set_cons_zero, List.set_cons_succ, List.setIfInBounds_toArray, Act.eval, Array.getD_eq_getD_getElem?, List.getElem?_toArray, List.getElem?_cons_succ, List.getElem?_cons_zero, Option.getD_some] at H; (try simp only [Act.put, List.setIfInBounds_toArray, List.set_cons_succ, List.set_cons_zero, List.getElem_toArray, List.getElem_cons_succ, List.getElem_cons_zero])) | (refine L_storerow rfl rfl H 2 rfl rfl rfl info89 ?hn ?ho ?h1 ?_; (case hn => first | rfl | assumption); (case ho => first | rfl | assumption); (case h1 => first | assumption | exact St.one_cells _ | rfl); clear H; intro w H; simp only [List.set_cons_zero, List.set_cons_succ, List.setIfInBounds_toArray, Act.eval, Array.getD_eq_getD_getElem?, List.getElem?_toArray, List.getElem?_cons_succ, List.getElem?_cons_zero, Option.getD_some] at H; (try simp only [Act.put, List.setIfInBounds_toArray, List.set_cons_succ, List.set_cons_zero, List.getElem_toArray, List.getElem_cons_succ, List.getElem_cons_zero])) | (refine L_box rfl rfl H rfl rfl ?_; clear H; intro g w H; (try simp only [Act.eval, Array.getD_eq_getD_getElem?, List.getElem?_toArray, List.getElem?_cons_succ, List.getElem?_cons_zero, Option.getD_some, Value.cells] at H); (try simp only [Act.put, List.setIfInBounds_toArray, List.set_cons_succ, List.set_cons_zero, List.getElem_toArray, List.getElem_cons_succ, List.getElem_cons_zero])))
  (try simp only [Exit.inBlock, Exit.then])
  exact L_retrow rfl H 0 rfl rfl Tryz.underlying89 rfl info89 hsz2 rfl ⟨rfl, H.ext⟩
set_option maxRecDepth 100000 in
set_option maxHeartbeats 1000000 in
theorem surv_far (s n : St) (number keep torn cut : Int) (w : World) (hs : s.Ok) (hn : n.Ok) (h : number ≠ torn) (h62 : ¬ number < 62) :
    Calls Tryz.prog 44 #[s.val, n.val, .int .i64 number, .int .i64 keep, .int .i64 torn, .int .i64 cut] w fun e w' => e = .returned s.val ∧ Ext0 w w' := by
  have he : (number == torn) = false := by simp [h]
  have hd : decide (number < 62) = false := by simp [h62]
  have H : SH (fun _ => False) w w [] := SH.nil _ _
  have hsz := St.size_arr hn
  have hsz2 := St.size_arr hs
  go_enter Tryz.func44, Tryz.ntmps44
  go_wp2_with (first | (refine L_alloc rfl rfl H zero89 ?_; clear H; intro g w H; (try simp only [Act.put, List.setIfInBounds_toArray, List.set_cons_succ, List.set_cons_zero, List.getElem_toArray, List.getElem_cons_succ, List.getElem_cons_zero])) | (refine L_loadrow rfl rfl H 0 rfl rfl Tryz.underlying89 rfl info89 ?hn ?_; (case hn => first | rfl | assumption | (simp only [List.size_toArray]; assumption)); (try simp only [Act.put, List.setIfInBounds_toArray, List.set_cons_succ, List.set_cons_zero, List.getElem_toArray, List.getElem_cons_succ, List.getElem_cons_zero])) | (refine L_loadrow rfl rfl H 1 rfl rfl Tryz.underlying89 rfl info89 ?hn ?_; (case hn => first | rfl | assumption | (simp only [List.size_toArray]; assumption)); (try simp only [Act.put, List.setIfInBounds_toArray, List.set_cons_succ, List.set_cons_zero, List.getElem_toArray, List.getElem_cons_succ, List.getElem_cons_zero])) | (refine L_loadrow rfl rfl H 2 rfl rfl Tryz.underlying89 rfl info89 ?hn ?_; (case hn => first | rfl | assumption | (simp only [List.size_toArray]; assumption)); (try simp only [Act.put, List.setIfInBounds_toArray, List.set_cons_succ, List.set_cons_zero, List.getElem_toArray, List.getElem_cons_succ, List.getElem_cons_zero])) | (refine L_storerow rfl rfl H 0 rfl rfl rfl info89 ?hn ?ho ?h1 ?_; (case hn => first | rfl | assumption); (case ho => first | rfl | assumption); (case h1 => first | assumption | exact St.one_cells _ | rfl); clear H; intro w H; simp only [List.set_cons_zero, List.set_cons_succ, List.setIfInBounds_toArray, Act.eval, Array.getD_eq_getD_getElem?, List.getElem?_toArray, List.getElem?_cons_succ, List.getElem?_cons_zero, Option.getD_some] at H; (try simp only [Act.put, List.setIfInBounds_toArray, List.set_cons_succ, List.set_cons_zero, List.getElem_toArray, List.getElem_cons_succ, List.getElem_cons_zero])) | (refine L_storerow rfl rfl H 1 rfl rfl rfl info89 ?hn ?ho ?h1 ?_; (case hn => first | rfl | assumption); (case ho => first | rfl | assumption); (case h1 => first | assumption | exact St.one_cells _ | rfl); clear H; intro w H; simp only [List.set_cons_zero, List.set_cons_succ, List.setIfInBounds_toArray, Act.eval, Array.getD_eq_getD_getElem?, List.getElem?_toArray, List.getElem?_cons_succ, List.getElem?_cons_zero, Option.getD_some] at H; (try simp only [Act.put, List.setIfInBounds_toArray, List.set_cons_succ, List.set_cons_zero, List.getElem_toArray, List.getElem_cons_succ, List.getElem_cons_zero])) | (refine L_storerow rfl rfl H 2 rfl rfl rfl info89 ?hn ?ho ?h1 ?_; (case hn => first | rfl | assumption); (case ho => first | rfl | assumption); (case h1 => first | assumption | exact St.one_cells _ | rfl); clear H; intro w H; simp only [List.set_cons_zero, List.set_cons_succ, List.setIfInBounds_toArray, Act.eval, Array.getD_eq_getD_getElem?, List.getElem?_toArray, List.getElem?_cons_succ, List.getElem?_cons_zero, Option.getD_some] at H; (try simp only [Act.put, List.setIfInBounds_toArray, List.set_cons_succ, List.set_cons_zero, List.getElem_toArray, List.getElem_cons_succ, List.getElem_cons_zero])) | (refine L_box rfl rfl H rfl rfl ?_; clear H; intro g w H; (try simp only [Act.eval, Array.getD_eq_getD_getElem?, List.getElem?_toArray, List.getElem?_cons_succ, List.getElem?_cons_zero, Option.getD_some, Value.cells] at H); (try simp only [Act.put, List.setIfInBounds_toArray, List.set_cons_succ, List.set_cons_zero, List.getElem_toArray, List.getElem_cons_succ, List.getElem_cons_zero])))
  (try simp only [Exit.inBlock, Exit.then])
  exact L_retrow rfl H 0 rfl rfl Tryz.underlying89 rfl info89 hsz2 rfl ⟨rfl, H.ext⟩
set_option maxRecDepth 100000 in
set_option maxHeartbeats 1000000 in
theorem surv_torn (s n : St) (number keep torn cut : Int) (w : World) (hs : s.Ok) (hn : n.Ok) (h : number = torn) (hc : cut < 32) :
    Calls Tryz.prog 44 #[s.val, n.val, .int .i64 number, .int .i64 keep, .int .i64 torn, .int .i64 cut] w fun e w' => e = .returned (s.torn n cut).val ∧ Ext0 w w' := by
  subst h
  have H : SH (fun _ => False) w w [] := SH.nil _ _
  have hsz := St.size_arr hn
  have hsz2 := St.size_arr hs
  have hd : decide (32 ≤ cut) = false := by simp; omega
  go_enter Tryz.func44, Tryz.ntmps44
  go_wp2_with (first | (refine L_alloc rfl rfl H zero89 ?_; clear H; intro g w H; (try simp only [Act.put, List.setIfInBounds_toArray, List.set_cons_succ, List.set_cons_zero, List.getElem_toArray, List.getElem_cons_succ, List.getElem_cons_zero])) | (refine L_loadrow rfl rfl H 0 rfl rfl Tryz.underlying89 rfl info89 ?hn ?_; (case hn => first | rfl | assumption | (simp only [List.size_toArray]; assumption)); (try simp only [Act.put, List.setIfInBounds_toArray, List.set_cons_succ, List.set_cons_zero, List.getElem_toArray, List.getElem_cons_succ, List.getElem_cons_zero])) | (refine L_loadrow rfl rfl H 1 rfl rfl Tryz.underlying89 rfl info89 ?hn ?_; (case hn => first | rfl | assumption | (simp only [List.size_toArray]; assumption)); (try simp only [Act.put, List.setIfInBounds_toArray, List.set_cons_succ, List.set_cons_zero, List.getElem_toArray, List.getElem_cons_succ, List.getElem_cons_zero])) | (refine L_loadrow rfl rfl H 2 rfl rfl Tryz.underlying89 rfl info89 ?hn ?_; (case hn => first | rfl | assumption | (simp only [List.size_toArray]; assumption)); (try simp only [Act.put, List.setIfInBounds_toArray, List.set_cons_succ, List.set_cons_zero, List.getElem_toArray, List.getElem_cons_succ, List.getElem_cons_zero])) | (refine L_storerow rfl rfl H 0 rfl rfl rfl info89 ?hn ?ho ?h1 ?_; (case hn => first | rfl | assumption); (case ho => first | rfl | assumption); (case h1 => first | assumption | exact St.one_cells _ | rfl); clear H; intro w H; simp only [List.set_cons_zero, List.set_cons_succ, List.setIfInBounds_toArray, Act.eval, Array.getD_eq_getD_getElem?, List.getElem?_toArray, List.getElem?_cons_succ, List.getElem?_cons_zero, Option.getD_some] at H; (try simp only [Act.put, List.setIfInBounds_toArray, List.set_cons_succ, List.set_cons_zero, List.getElem_toArray, List.getElem_cons_succ, List.getElem_cons_zero])) | (refine L_storerow rfl rfl H 1 rfl rfl rfl info89 ?hn ?ho ?h1 ?_; (case hn => first | rfl | assumption); (case ho => first | rfl | assumption); (case h1 => first | assumption | exact St.one_cells _ | rfl); clear H; intro w H; simp only [List.set_cons_zero, List.set_cons_succ, List.setIfInBounds_toArray, Act.eval, Array.getD_eq_getD_getElem?, List.getElem?_toArray, List.getElem?_cons_succ, List.getElem?_cons_zero, Option.getD_some] at H; (try simp only [Act.put, List.setIfInBounds_toArray, List.set_cons_succ, List.set_cons_zero, List.getElem_toArray, List.getElem_cons_succ, List.getElem_cons_zero])) | (refine L_storerow rfl rfl H 2 rfl rfl rfl info89 ?hn ?ho ?h1 ?_; (case hn => first | rfl | assumption); (case ho => first | rfl | assumption); (case h1 => first | assumption | exact St.one_cells _ | rfl); clear H; intro w H; simp only [List.set_cons_zero, List.set_cons_succ, List.setIfInBounds_toArray, Act.eval, Array.getD_eq_getD_getElem?, List.getElem?_toArray, List.getElem?_cons_succ, List.getElem?_cons_zero, Option.getD_some] at H; (try simp only [Act.put, List.setIfInBounds_toArray, List.set_cons_succ, List.set_cons_zero, List.getElem_toArray, List.getElem_cons_succ, List.getElem_cons_zero])) | (refine L_box rfl rfl H rfl rfl ?_; clear H; intro g w H; (try simp only [Act.eval, Array.getD_eq_getD_getElem?, List.getElem?_toArray, List.getElem?_cons_succ, List.getElem?_cons_zero, Option.getD_some, Value.cells] at H); (try simp only [Act.put, List.setIfInBounds_toArray, List.set_cons_succ, List.set_cons_zero, List.getElem_toArray, List.getElem_cons_succ, List.getElem_cons_zero])))
  rename_i g1 w1 g2 w2 K1 Q1 K2 hK2
  obtain ⟨c, hcut, hc32⟩ : ∃ c : Nat, max cut 0 = (c : Int) ∧ c ≤ 32 := ⟨(max cut 0).toNat, by omega, by omega⟩
  have hct : cut.toNat = c := by omega
  have hsl : ∀ W, (Instr.sliceAt 87 (.pointer (some ⟨g1, 0, none⟩)) none (some (.int .i64 (c : Int))) none).run Tryz.prog W = .ok (.slice (some ⟨g1, 0, none⟩) c 32) W := fun W => by
    have := run_sliceAt_array_h (P := Tryz.prog) W 87 ⟨g1, 0, none⟩ (by rfl) .i64 (c : Int) (by omega) (show (c : Int) ≤ 32 by omega)
    rw [this]
    rfl
  have hn1 := hn.1
  have hs1 := hs.1
  have hrow : ((s.cells.toArray).toList.take 0 ++ (n.bytes.take c).map (Value.int .u8) ++ (s.cells.toArray).toList.drop (0 + ((n.bytes.take c).map (Value.int .u8)).length)).toArray = (s.torn n cut).cells.toArray := by
    simp only [List.take_zero, List.nil_append, Nat.zero_add, List.length_map, List.length_take, hn1, Nat.min_eq_left hc32]
    simp only [St.cells, St.torn, hct]
    rw [List.drop_append_of_le_length (by simp [hs1]; omega)]
    simp
  have hnt : (s.torn n cut).cells.toArray.size = 33 := by simp [St.cells, St.torn, hct, hs1, hn1]; omega
  have H2 : SH (fun _ => False) _ w.drew [pt g (.cells St.zero.val.cells 89 (0, 0)), pt g2 (.cells n.cells.toArray 89 (0, 0)), pt g1 (.cells s.cells.toArray 89 (0, 0))] := H.drew
  have hrun : ∀ ty, (Builtin.copy_ #[22, 22] ty #[.slice (some ⟨g1, 0, none⟩) c 32, .slice (some ⟨g2, 0, none⟩) 32 32]).run Tryz.prog w.drew = .ok (goInt ((n.bytes.take c).map (Value.int .u8)).length) (w.drew.setRow g1 (s.torn n cut).cells.toArray) := fun ty => by
    rw [← hrow]
    refine run_copy_row _ w.drew _ _ ty 5 g1 0 c 32 _ 32 32 _ 89 _ (by rfl) (by kernel_rfl) (H2.at_ 2 rfl) ?_ ?_ ?_ ?_
    · show _ = min 32 c
      simp [hn1]; omega
    · intro j v hj
      have hj2 : j < c := by
        have := (List.getElem?_eq_some_iff.1 hj).1
        simp at this; omega
      have := cell_of_row w.drew g2 j _ _ _ (H2.at_ 1 rfl)
      rw [show (⟨g2, 0, none⟩ : Addr).add j = ⟨g2, j, none⟩ by by_cases hj0 : j = 0 <;> simp [Addr.add, hj0]]
      rw [this]
      simp only [St.cells, List.getElem?_toArray]
      rw [List.getElem?_append_left (by simp [hn1]; omega), ← hj]
      simp [List.getElem?_take, hj2]
    · simp [hn1, hs1, St.cells]; omega
    · intro v hv
      simp only [List.mem_map] at hv
      obtain ⟨x, _, rfl⟩ := hv
      rfl
  have HH := H2.setRow 2 (cs := (s.torn n cut).cells.toArray) rfl
  have H1 := H.drop (L' := [pt g (.cells St.zero.val.cells 89 (0, 0)), pt g2 (.cells n.cells.toArray 89 (0, 0))]) (List.Sublist.cons_cons _ (List.Sublist.cons_cons _ (List.nil_sublist _)))
  clear hrow
  refine D_start H1 (by kernel_rfl) (fun hS => ?_)
  try simp only [Act.put, List.setIfInBounds_toArray, List.set_cons_succ, List.set_cons_zero]
  refine D_take 0 (v := ?_) rfl (by kernel_rfl) (by kernel_rfl) (by kernel_rfl) (fun _ _ _ h => h) rfl (by rfl) (fun W hS => ?_) hS ?_
  rotate_left; (focus (first | (go_simp; done) | (go_simp; with_reducible rfl) | (go_simp; rfl))); all_goals skip; (try simp only [List.set_cons_succ, List.set_cons_zero])
  refine D_take 1 (v := ?_) rfl (by kernel_rfl) (by kernel_rfl) (by kernel_rfl) (fun _ _ _ h => h) rfl (by rfl) (fun W hS => ?_) hS ?_
  rotate_left; (focus (first | (go_simp; done) | (go_simp; with_reducible rfl) | (go_simp; rfl))); all_goals skip; (try simp only [List.set_cons_succ, List.set_cons_zero])
  refine D_take 2 (v := ?_) rfl (by kernel_rfl) (by kernel_rfl) (by kernel_rfl) (fun _ _ _ h => h) rfl (by rfl) (fun W hS => ?_) hS ?_
  rotate_left; (focus (first | (go_simp; done) | (go_simp; with_reducible rfl) | (go_simp; rfl))); all_goals skip; (try simp only [List.set_cons_succ, List.set_cons_zero])
  refine D_take 3 (v := (.slice (some ⟨g1, 0, none⟩) c 32)) rfl (by kernel_rfl) (by kernel_rfl) (by kernel_rfl) (fun _ _ _ h => h) rfl (by rfl) (fun W hS => by first | (go_simp; done) | (go_simp; rw [hcut, hsl])) hS ?_; (try simp only [List.set_cons_succ, List.set_cons_zero])
  refine D_take 4 (v := ?_) rfl (by kernel_rfl) (by kernel_rfl) (by kernel_rfl) (fun _ _ _ h => h) rfl (by rfl) (fun W hS => ?_) hS ?_
  rotate_left; (focus (first | (go_simp; done) | (go_simp; with_reducible rfl) | (go_simp; rfl))); all_goals skip; (try simp only [List.set_cons_succ, List.set_cons_zero])
  refine D_take 5 (v := ?_) rfl (by kernel_rfl) (by kernel_rfl) (by kernel_rfl) (fun _ _ _ h => h) rfl (by rfl) (fun W hS => ?_) hS ?_
  rotate_left; (focus (first | (go_simp; done) | (go_simp; with_reducible rfl) | (go_simp; rfl))); all_goals skip; (try simp only [List.set_cons_succ, List.set_cons_zero])
  refine D_one 6 rfl (by kernel_rfl) (by rfl) ?_
  refine R_copy rfl rfl rfl (hrun _) ⟨HH.drop (List.Sublist.cons_cons _ (List.Sublist.cons_cons _ (List.nil_sublist _))), ?_⟩
  try simp only [Act.put, List.getElem_toArray, List.getElem_cons_succ, List.getElem_cons_zero, List.setIfInBounds_toArray, List.set_cons_succ, List.set_cons_zero]
  refine wpAnyH_done (by kernel_rfl) ?_ _
  replace H := HH
  clear HH H1 H2 hrun hsl
  have hone := St.one_cells (s.torn n cut)
  simp only [List.set_cons_succ, List.set_cons_zero] at H
  go_wp2_with (first | (refine L_loadrow rfl rfl H 0 rfl rfl Tryz.underlying89 rfl info89 ?hn ?_; (case hn => first | rfl | assumption | (simp only [List.size_toArray]; assumption)); (try simp only [Act.put, List.setIfInBounds_toArray, List.set_cons_succ, List.set_cons_zero, List.getElem_toArray, List.getElem_cons_succ, List.getElem_cons_zero])) | (refine L_loadrow rfl rfl H 1 rfl rfl Tryz.underlying89 rfl info89 ?hn ?_; (case hn => first | rfl | assumption | (simp only [List.size_toArray]; assumption)); (try simp only [Act.put, List.setIfInBounds_toArray, List.set_cons_succ, List.set_cons_zero, List.getElem_toArray, List.getElem_cons_succ, List.getElem_cons_zero])) | (refine L_loadrow rfl rfl H 2 rfl rfl Tryz.underlying89 rfl info89 ?hn ?_; (case hn => first | rfl | assumption | (simp only [List.size_toArray]; assumption)); (try simp only [Act.put, List.setIfInBounds_toArray, List.set_cons_succ, List.set_cons_zero, List.getElem_toArray, List.getElem_cons_succ, List.getElem_cons_zero])) | (refine L_storerow rfl rfl H 0 rfl rfl rfl info89 ?hn ?ho ?h1 ?_; (case hn => first | rfl | assumption); (case ho => first | rfl | assumption); (case h1 => first | assumption | exact St.one_cells _ | rfl); clear H; intro w H; simp only [List.set_cons_zero, List.set_cons_succ, List.setIfInBounds_toArray, Act.eval, Array.getD_eq_getD_getElem?, List.getElem?_toArray, List.getElem?_cons_succ, List.getElem?_cons_zero, Option.getD_some] at H; (try simp only [Act.put, List.setIfInBounds_toArray, List.set_cons_succ, List.set_cons_zero, List.getElem_toArray, List.getElem_cons_succ, List.getElem_cons_zero])) | (refine L_storerow rfl rfl H 1 rfl rfl rfl info89 ?hn ?ho ?h1 ?_; (case hn => first | rfl | assumption); (case ho => first | rfl | assumption); (case h1 => first | assumption | exact St.one_cells _ | rfl); clear H; intro w H; simp only [List.set_cons_zero, List.set_cons_succ, List.setIfInBounds_toArray, Act.eval, Array.getD_eq_getD_getElem?, List.getElem?_toArray, List.getElem?_cons_succ, List.getElem?_cons_zero, Option.getD_some] at H; (try simp only [Act.put, List.setIfInBounds_toArray, List.set_cons_succ, List.set_cons_zero, List.getElem_toArray, List.getElem_cons_succ, List.getElem_cons_zero])) | (refine L_storerow rfl rfl H 2 rfl rfl rfl info89 ?hn ?ho ?h1 ?_; (case hn => first | rfl | assumption); (case ho => first | rfl | assumption); (case h1 => first | assumption | exact St.one_cells _ | rfl); clear H; intro w H; simp only [List.set_cons_zero, List.set_cons_succ, List.setIfInBounds_toArray, Act.eval, Array.getD_eq_getD_getElem?, List.getElem?_toArray, List.getElem?_cons_succ, List.getElem?_cons_zero, Option.getD_some] at H; (try simp only [Act.put, List.setIfInBounds_toArray, List.set_cons_succ, List.set_cons_zero, List.getElem_toArray, List.getElem_cons_succ, List.getElem_cons_zero])))
  (try simp only [Exit.inBlock, Exit.then])
  exact L_retrow rfl H 0 rfl rfl Tryz.underlying89 rfl info89 hnt rfl ⟨rfl, H.ext⟩

theorem surv_any (s n : St) (number keep torn cut : Int) (w : World) (hs : s.Ok) (hn : n.Ok) (h0 : 0 ≤ number) :
    Calls Tryz.prog 44 #[s.val, n.val, .int .i64 number, .int .i64 keep, .int .i64 torn, .int .i64 cut] w fun e w' => e = .returned (surv s n number keep torn cut).val ∧ Ext0 w w' := by
  unfold surv
  split
  · rename_i h
    split
    · rename_i h2; exact surv_now s n number keep torn cut w hn ⟨h, h2⟩
    · rename_i h2; exact surv_torn s n number keep torn cut w hs hn h (by omega)
  · rename_i h
    by_cases h62 : number < 62
    · cases hb : keepBit keep number with
      | true => simp only [h62, true_and, if_true]; exact surv_bit1 s n number keep torn cut w hs hn h h0 h62 hb
      | false => simp only [h62, true_and, Bool.false_eq_true, if_false]; exact surv_bit0 s n number keep torn cut w hs hn h h0 h62 hb
    · simp only [h62, false_and, if_false]
      exact surv_far s n number keep torn cut w hs hn h h62
end Go.Proofs.YtgmeahogdjhejaaGreatDoor

namespace Go.Proofs.YtgmeahogdjhejaaGreatDoor
set_option linter.unusedVariables false
set_option linter.unusedSimpArgs false
open Go.RowKit

theorem infoz89 : (Tryz.prog.info? 89).map (fun i => (i.zero, i.size, i.bytes)) = some (some St.zero.val, 33, 40) := by kernel_rfl
theorem St.zero_ok : St.zero.Ok := ⟨by simp [St.zero], fun x hx => by simp [St.zero] at hx; omega⟩
theorem flat_rep (n : Nat) : flat (List.replicate n St.zero) = (List.replicate n St.zero.cells).flatten := by
  simp [flat, List.flatMap_replicate]

def GivesDisk (w : World) (d : DS) (e : Ending) (w' : World) : Prop := ∃ b bs bm, e = .returned (.pointer (some ⟨b, 0, none⟩)) ∧ SH (fun _ => False) w w' [DiskA b bs bm d]
/-- A new disk. -/
def DS.new (n : Nat) : DS := ⟨-1, List.replicate n St.zero, [], 0⟩
theorem SH.glue3 {M : Nat → Prop} {w0 w : World} {A B C D : Asr} {L : List Asr} (H : SH M w0 w (A :: B :: C :: L)) (hs : D.says w) (hf : ∀ i, D.fp i → A.fp i ∨ B.fp i ∨ C.fp i) : SH M w0 w (D :: L) := by
  have ha := H.apart
  simp only [List.pairwise_cons, List.mem_cons] at ha
  refine ⟨H.ext, ?_, ?_, ?_, ?_⟩
  · intro E hE; rcases List.mem_cons.1 hE with rfl | hE
    · exact hs
    · exact H.says E (by simp [hE])
  · intro E hE i hi; rcases List.mem_cons.1 hE with rfl | hE
    · rcases hf i hi with h | h | h
      · exact H.lt A (by simp) i h
      · exact H.lt B (by simp) i h
      · exact H.lt C (by simp) i h
    · exact H.lt E (by simp [hE]) i hi
  · intro E hE i hi; rcases List.mem_cons.1 hE with rfl | hE
    · rcases hf i hi with h | h | h
      · exact H.own A (by simp) i h
      · exact H.own B (by simp) i h
      · exact H.own C (by simp) i h
    · exact H.own E (by simp [hE]) i hi
  · refine List.pairwise_cons.2 ⟨fun E hE i hi hi' => ?_, ha.2.2.2⟩
    rcases hf i hi with h | h | h
    · exact ha.1 E (.inr (.inr hE)) i h hi'
    · exact ha.2.1 E (.inr hE) i h hi'
    · exact ha.2.2.1 E hE i h hi'
theorem new_end {n : Nat} {w w' : World} {g1 g2 g3 : Nat} (H : SH (fun _ => False) w w' [pt g3 (.cells #[.int .i64 (-1), .slice (some ⟨g1, 0, none⟩) n n, .map (some g2), .int .i64 0] 63), pt g2 (.map #[] 0), pt g1 (.cells (madeCells St.zero.val.cells (n * 33)) 89)]) : SH (fun _ => False) w w' [DiskA g3 g1 g2 (DS.new n)] := by
  have hflat : madeCells St.zero.val.cells (n * 33) = (flat (DS.new n).sure).toArray := by
    apply Array.toList_inj.1
    rw [madeCells_rep _ _ _ (by rfl)]
    simp only [DS.new, flat_rep]
    rfl
  have hlen : (DS.new n).sure.length = n := by simp [DS.new]
  rw [hflat] at H
  have H1 : SH (fun _ => False) w w' [pt g3 (.cells #[.int .i64 (DS.new n).fuse, .slice (some ⟨g1, 0, none⟩) (DS.new n).sure.length (DS.new n).sure.length, .map (some g2), .int .i64 (DS.new n).writes] 63 (0, 0)), pt g1 (.cells (flat (DS.new n).sure).toArray 89 (0, 0)), pt g2 (.map #[] 0)] := by
    rw [hlen]
    exact H.perm (.cons _ (.swap _ _ _))
  refine H1.glue3 (DiskA.shut (MapRel.empty _ _ _) H1) (fun i hi => ?_)
  simpa [DiskA] using hi
set_option maxRecDepth 100000 in
set_option maxHeartbeats 1000000 in
theorem new_at (sectors : Int) (n : Nat) (hmm : min (max sectors 0) 4096 = (n : Int)) (h : n ≤ 4096) (w : World) : Calls Tryz.prog 4 #[.int .i64 sectors] w (GivesDisk w (DS.new n)) := by
  obtain ⟨i0, hi, hz, hsz, hby⟩ := info_parts infoz89
  have H : SH (fun _ => False) w w [] := SH.nil _ _
  go_enter Tryz.func4, Tryz.ntmps4
  go_wp2_with (first | (refine L_box rfl rfl H rfl rfl ?_; clear H; intro g w H; (try simp only [Act.eval, Array.getD_eq_getD_getElem?, List.getElem?_toArray, List.getElem?_cons_succ, List.getElem?_cons_zero, Option.getD_some, Value.cells] at H); (try simp only [Act.put, List.setIfInBounds_toArray, List.set_cons_succ, List.set_cons_zero, List.getElem_toArray, List.getElem_cons_succ, List.getElem_cons_zero])) | (refine L_make (n := n) rfl rfl H Tryz.underlying60 hi hz rfl rfl (by rw [hby]; omega) (by simp only [maxLen]; omega) ?_; clear H; intro g w H; rw [hsz] at H) | (refine L_makeMap (h := none) rfl rfl H ?_; clear H; intro g w H))
  go_ret
  exact ⟨g, _, _, rfl, new_end H⟩
theorem new_any (sectors : Int) (w : World) : Calls Tryz.prog 4 #[.int .i64 sectors] w (GivesDisk w (DS.new (min sectors.toNat 4096))) :=
  new_at sectors _ (by omega) (by omega) w
end Go.Proofs.YtgmeahogdjhejaaGreatDoor

namespace Go.Proofs.YtgmeahogdjhejaaGreatDoor
set_option linter.unusedVariables false
set_option linter.unusedSimpArgs false
open Go.RowKit Go.Maps Go.Sort Go.Shelf

def keysL_ren : Go.Shelf.Ren := ⟨fun | 7 => 43 | 10 => 74 | n => n, fun | 23 => 61 | 26 => 3 | 3 => 89 | 28 => 85 | 0 => 0 | 27 => 84 | 33 => 95 | 4 => 4 | n => n, fun | n => n⟩
theorem keysL : Go.Proofs.SlLaysZI.n7 Tryz.prog keysL_ren where
  mixed := by kernel_rfl
  f7 := ⟨Tryz.f43.name, by decide, Tryz.func43.trans (congrArg some (by kernel_rfl))⟩
  f10 := ⟨Tryz.f74.name, by decide, Tryz.func74.trans (congrArg some (by kernel_rfl))⟩
  t0 := Tryz.underlying0
  a0 := Tryz.isAgg0
  z0 := Tryz.sizeOf0
  v0 := Tryz.zeroValue0
  t4 := Tryz.underlying4
  a4 := Tryz.isAgg4
  z4 := Tryz.sizeOf4
  v4 := Tryz.zeroValue4
  t23 := Tryz.underlying61
  a23 := Tryz.isAgg61
  z23 := Tryz.sizeOf61
  v23 := Tryz.zeroValue61
  t26 := Tryz.underlying3
  a26 := Tryz.isAgg3
  z26 := Tryz.sizeOf3
  v26 := Tryz.zeroValue3
  t27 := Tryz.underlying84
  a27 := Tryz.isAgg84
  z27 := Tryz.sizeOf84
  v27 := Tryz.zeroValue84
  t28 := Tryz.underlying85
  a28 := Tryz.isAgg85
  z28 := Tryz.sizeOf85
  v28 := Tryz.zeroValue85
  t33 := Tryz.underlying95
  a33 := Tryz.isAgg95
  z33 := Tryz.sizeOf95
  v33 := Tryz.zeroValue95
def sortedL_ren : Go.Shelf.Ren := ⟨fun | 6 => 42 | 8 => 72 | 9 => 73 | 11 => 83 | 13 => 85 | 12 => 84 | 23 => 101 | 24 => 102 | 14 => 92 | 15 => 93 | 16 => 94 | 17 => 95 | 18 => 96 | 19 => 97 | 20 => 98 | 21 => 99 | 22 => 100 | 25 => 106 | 26 => 107 | 27 => 108 | 28 => 109 | 29 => 110 | 30 => 111 | 31 => 112 | n => n, fun | 26 => 3 | 28 => 85 | 24 => 45 | 0 => 0 | 3 => 3 | 37 => 92 | 48 => 103 | 50 => 91 | 4 => 4 | 40 => 129 | 39 => 128 | 45 => 122 | 5 => 5 | 9 => 9 | 51 => 139 | 55 => 143 | 57 => 145 | 58 => 146 | 33 => 95 | n => n, fun | n => n⟩
theorem sortedL : Go.Proofs.SlLaysZI.n6 Tryz.prog sortedL_ren where
  mixed := by kernel_rfl
  f6 := ⟨Tryz.f42.name, by decide, Tryz.func42.trans (congrArg some (by kernel_rfl))⟩
  f8 := ⟨Tryz.f72.name, by decide, Tryz.func72.trans (congrArg some (by kernel_rfl))⟩
  f11 := ⟨Tryz.f83.name, by decide, Tryz.func83.trans (congrArg some (by kernel_rfl))⟩
  t0 := Tryz.underlying0
  a0 := Tryz.isAgg0
  z0 := Tryz.sizeOf0
  v0 := Tryz.zeroValue0
  t24 := Tryz.underlying45
  a24 := Tryz.isAgg45
  z24 := Tryz.sizeOf45
  v24 := Tryz.zeroValue45
  t26 := Tryz.underlying3
  a26 := Tryz.isAgg3
  z26 := Tryz.sizeOf3
  v26 := Tryz.zeroValue3
  t28 := Tryz.underlying85
  a28 := Tryz.isAgg85
  z28 := Tryz.sizeOf85
  v28 := Tryz.zeroValue85
  i26 := by kernel_rfl
def sortL_ren : Go.Shelf.Ren := ⟨fun | 5 => 73 | 8 => 85 | 7 => 84 | 19 => 101 | 20 => 102 | 10 => 92 | 11 => 93 | 12 => 94 | 13 => 95 | 14 => 96 | 15 => 97 | 16 => 98 | 17 => 99 | 18 => 100 | 30 => 106 | 31 => 107 | 32 => 108 | 33 => 109 | 34 => 110 | 35 => 111 | 40 => 112 | n => n, fun | 23 => 45 | 25 => 3 | 3 => 3 | 32 => 92 | 22 => 45 | 0 => 0 | 44 => 103 | 46 => 91 | 4 => 4 | 36 => 129 | 35 => 128 | 41 => 122 | 5 => 5 | 9 => 9 | 53 => 139 | 57 => 143 | 63 => 145 | 64 => 146 | n => n, fun | n => n⟩
theorem sortL : Go.Proofs.SlLaysM.n5 Tryz.prog sortL_ren where
  mixed := by kernel_rfl
  f5 := ⟨Tryz.f73.name, by decide, Tryz.func73.trans (congrArg some (by kernel_rfl))⟩
  f7 := ⟨Tryz.f84.name, by decide, Tryz.func84.trans (congrArg some (by kernel_rfl))⟩
  f8 := Tryz.func85.trans (congrArg some (by kernel_rfl))
  f10 := ⟨Tryz.f92.name, by decide, Tryz.func92.trans (congrArg some (by kernel_rfl))⟩
  f11 := ⟨Tryz.f93.name, by decide, Tryz.func93.trans (congrArg some (by kernel_rfl))⟩
  f12 := ⟨Tryz.f94.name, by decide, Tryz.func94.trans (congrArg some (by kernel_rfl))⟩
  f13 := ⟨Tryz.f95.name, by decide, Tryz.func95.trans (congrArg some (by kernel_rfl))⟩
  f14 := ⟨Tryz.f96.name, by decide, Tryz.func96.trans (congrArg some (by kernel_rfl))⟩
  f15 := ⟨Tryz.f97.name, by decide, Tryz.func97.trans (congrArg some (by kernel_rfl))⟩
  f16 := ⟨Tryz.f98.name, by decide, Tryz.func98.trans (congrArg some (by kernel_rfl))⟩
  f17 := ⟨Tryz.f99.name, by decide, Tryz.func99.trans (congrArg some (by kernel_rfl))⟩
  f18 := ⟨Tryz.f100.name, by decide, Tryz.func100.trans (congrArg some (by kernel_rfl))⟩
  f19 := Tryz.func101.trans (congrArg some (by kernel_rfl))
  f20 := Tryz.func102.trans (congrArg some (by kernel_rfl))
  f30 := ⟨Tryz.f106.name, by decide, Tryz.func106.trans (congrArg some (by kernel_rfl))⟩
  f31 := Tryz.func107.trans (congrArg some (by kernel_rfl))
  f32 := Tryz.func108.trans (congrArg some (by kernel_rfl))
  f33 := ⟨Tryz.f109.name, by decide, Tryz.func109.trans (congrArg some (by kernel_rfl))⟩
  f34 := ⟨Tryz.f110.name, by decide, Tryz.func110.trans (congrArg some (by kernel_rfl))⟩
  f35 := ⟨Tryz.f111.name, by decide, Tryz.func111.trans (congrArg some (by kernel_rfl))⟩
  f40 := ⟨Tryz.f112.name, by decide, Tryz.func112.trans (congrArg some (by kernel_rfl))⟩
  t0 := Tryz.underlying0
  a0 := Tryz.isAgg0
  z0 := Tryz.sizeOf0
  v0 := Tryz.zeroValue0
  t3 := Tryz.underlying3
  a3 := Tryz.isAgg3
  z3 := Tryz.sizeOf3
  v3 := Tryz.zeroValue3
  t4 := Tryz.underlying4
  a4 := Tryz.isAgg4
  z4 := Tryz.sizeOf4
  v4 := Tryz.zeroValue4
  t5 := Tryz.underlying5
  a5 := Tryz.isAgg5
  z5 := Tryz.sizeOf5
  v5 := Tryz.zeroValue5
  t9 := Tryz.underlying9
  a9 := Tryz.isAgg9
  z9 := Tryz.sizeOf9
  v9 := Tryz.zeroValue9
  t22 := Tryz.underlying45
  a22 := Tryz.isAgg45
  z22 := Tryz.sizeOf45
  v22 := Tryz.zeroValue45
  t23 := Tryz.underlying45
  a23 := Tryz.isAgg45
  z23 := Tryz.sizeOf45
  v23 := Tryz.zeroValue45
  t25 := Tryz.underlying3
  a25 := Tryz.isAgg3
  z25 := Tryz.sizeOf3
  v25 := Tryz.zeroValue3
  t32 := Tryz.underlying92
  a32 := Tryz.isAgg92
  z32 := Tryz.sizeOf92
  v32 := Tryz.zeroValue92
  t35 := Tryz.underlying128
  a35 := Tryz.isAgg128
  z35 := Tryz.sizeOf128
  v35 := Tryz.zeroValue128
  t36 := Tryz.underlying129
  a36 := Tryz.isAgg129
  z36 := Tryz.sizeOf129
  v36 := Tryz.zeroValue129
  t41 := Tryz.underlying122
  a41 := Tryz.isAgg122
  z41 := Tryz.sizeOf122
  v41 := Tryz.zeroValue122
  t44 := Tryz.underlying103
  a44 := Tryz.isAgg103
  z44 := Tryz.sizeOf103
  v44 := Tryz.zeroValue103
  t46 := Tryz.underlying91
  a46 := Tryz.isAgg91
  z46 := Tryz.sizeOf91
  v46 := Tryz.zeroValue91
  t53 := Tryz.underlying139
  a53 := Tryz.isAgg139
  z53 := Tryz.sizeOf139
  v53 := Tryz.zeroValue139
  t57 := Tryz.underlying143
  a57 := Tryz.isAgg143
  z57 := Tryz.sizeOf143
  v57 := Tryz.zeroValue143
  t63 := Tryz.underlying145
  a63 := Tryz.isAgg145
  z63 := Tryz.sizeOf145
  v63 := Tryz.zeroValue145
  t64 := Tryz.underlying146
  a64 := Tryz.isAgg146
  z64 := Tryz.sizeOf146
  v64 := Tryz.zeroValue146

theorem sortsL (m : Nat) : AnyZI.SortsIn Tryz.prog sortedL_ren Fence.wide m :=
  ⟨fun blk off cap ss W hH hblk hsz => callsIn_wide.2 (AnyM.slices_Sort_int sortL blk off cap ss W hH hblk hsz),
   fun p cap W => callsIn_wide.2 (AnyM.slices_Sort_int_none sortL p cap W)⟩

def RU : Value → Option (DataW Unit × List MemPlace) := fun _ => some (.nil, [])
def sortedKeys {V : Type} (es : List (Int × V)) : List Int := (es.map (·.1)).mergeSort (fun x y => decide (x ≤ y))
set_option maxRecDepth 100000 in
theorem own_map {V : Type} {venc : V → Value} {ents : Array MapEntry} {clock : Nat} {es : List (Int × V)} {w : World} {bm : Nat} (hr : MapRel (Value.int .i64) venc ents clock es) (hb : w.heap[bm]? = some (.map ents clock)) (hk : ∀ p ∈ es, (Lit.int .i64 p.1).wf = true) (hl : es.length ≤ maxLen) :
    ∃ D, w.ownsMap Tryz.prog 3 RU bm es.length D ∧ (intKeys D).Perm (es.map (·.1)) ∧ Maps.size D = es.length := by
  have hsz := hr.size
  have hkey : ents.toList.map (·.key) = es.map (fun p => Value.int .i64 p.1) := by
    have := congrArg (List.map Prod.fst) hr.kv; simp only [List.map_map, Function.comp_def] at this
    simpa using this
  have hmem : ∀ x ∈ ents.toList, ∃ k, x.key = .int .i64 k ∧ (Lit.int .i64 k).wf = true := fun x hx => by
    have : x.key ∈ es.map (fun p => Value.int .i64 p.1) := by rw [← hkey]; exact List.mem_map_of_mem hx
    obtain ⟨p, hp, e⟩ := List.mem_map.1 this
    exact ⟨p.1, e.symm, hk p hp⟩
  have hrd : ∀ x ∈ ents.toList, ∃ k, x.key = .int .i64 k ∧ WideElems.rd Tryz.prog 3 RU x = some (.int .i64 k, .nil) := fun x hx => by
    obtain ⟨k, h1, h2⟩ := hmem x hx
    refine ⟨k, h1, ?_⟩
    have := keyOf_int_mk (P := Tryz.prog) Tryz.underlying3 h2
    simp [WideElems.rd, h1, this, RU]
  refine ⟨_, ⟨ents, clock, hb, ⟨by rw [hsz]; exact hl, ?_, fun x hx => ?_⟩, by omega, rfl⟩, ?_, ?_⟩
  · refine ⟨hr.clock, ?_, ?_⟩
    · exact hr.born.imp (fun h => Nat.ne_of_lt h)
    · rw [hkey]
      have := hr.keys
      rw [List.Nodup, List.pairwise_map] at this ⊢
      exact this.imp (fun h e => h (by simpa using e))
  · obtain ⟨k, _, h⟩ := hrd x hx; exact ⟨_, h⟩
  · show (List.map (fun p : Lit × DataW Unit => _root_.Go.intOf p.1) _).Perm _
    refine ((WideShapes.sorted_perm _).map _).trans ?_
    rw [List.map_map]
    have : ents.toList.map (fun x => _root_.Go.intOf (WideElems.rg Tryz.prog 3 RU x).1) = es.map (·.1) := by
      have h1 : ents.toList.map (fun x => _root_.Go.intOf (WideElems.rg Tryz.prog 3 RU x).1) = (ents.toList.map (·.key)).map (fun v => match v with | .int _ k => k | _ => 0) := by
        rw [List.map_map]
        refine List.map_congr_left fun x hx => ?_
        obtain ⟨k, h1, h2⟩ := hrd x hx
        simp [WideElems.rg, h2, h1, _root_.Go.intOf]
      rw [h1, hkey, List.map_map]
      rfl
    exact List.Perm.of_eq this
  · show (List.foldr DataW.insert [] (ents.toList.map (WideElems.rg Tryz.prog 3 RU))).length = _
    rw [(WideShapes.sorted_perm _).length_eq]
    simp [hsz]

theorem keys_calls (mb : Option Nat) (W : World) : Calls Tryz.prog 43 #[.map mb] W fun e w' => e = .returned (.func (.func 74) #[] #[.pointer (some ⟨W.heap.size, 0, none⟩)]) ∧ w' = W.alloc (.cells #[.map mb] 61) :=
  (callsIn_wide (n := 6)).1 (AnyZI.keys_in keysL Fence.wide 6 trivial rfl mb W)

theorem sorted_calls {V : Type} {venc : V → Value} {ents : Array MapEntry} {clock : Nat} {es : List (Int × V)} {w : World} {bm Bm : Nat} (hr : MapRel (Value.int .i64) venc ents clock es) (hb : w.heap[bm]? = some (.map ents clock)) (hk : ∀ p ∈ es, (Lit.int .i64 p.1).wf = true) (hl : es.length ≤ 100000)
    (hB : w.heap[Bm]? = some (.cells #[.map (some bm)] 61 (0, 0))) :
    Calls Tryz.prog 42 #[.func (.func 74) #[] #[.pointer (some ⟨Bm, 0, none⟩)]] w fun e w' => ∃ v, e = .returned v ∧
      w'.ownsRow w.heap.size 3 1 v es.length ((sortedKeys es).map encZ) ∧ Below w.heap.size w w' := by
  obtain ⟨D, hown, hperm, hsize⟩ := own_map hr hb hk (by simp only [maxLen]; omega)
  have hcell : w.cell? ⟨Bm, 0, none⟩ = some (.map (some bm)) := by rw [cell_of_row w Bm 0 _ _ _ hB]; rfl
  refine (callsIn_wide (n := 6)).1 ?_
  have hseq := AnyZI.keys_gives (ρ := keysL_ren) { keysL with } Fence.wide 3 trivial rfl (by omega) Bm bm es.length D w (blk_lt' hB) hcell hown
  have cS := AnyZI.sorted_in sortedL Fence.wide 6 trivial trivial trivial trivial rfl (by omega) (sortsL _) (enters_of Tryz.func73 (by kernel_rfl) rfl) 74 #[.pointer (some ⟨Bm, 0, none⟩)] trivial (enters_of Tryz.func74 (by kernel_rfl) rfl) _ _ (by rw [hsize]; simp only [maxLen]; omega) (by rw [hsize]; omega) _ hseq
  refine cS.mono ?_
  rintro e w' ⟨v, ss, rfl, hS, hrow, _, hbel⟩
  have hp : ss.Perm (es.map (·.1)) := hS.trans hperm
  have hlen : ss.length = es.length := by simpa using hp.length_eq
  refine ⟨v, rfl, ?_, hbel⟩
  rw [hlen, mergeSort_of_perm_i hp] at hrow
  exact hrow
end Go.Proofs.YtgmeahogdjhejaaGreatDoor

namespace Go.Proofs.YtgmeahogdjhejaaGreatDoor
set_option linter.unusedVariables false
set_option linter.unusedSimpArgs false
open Go.RowKit
open Go.Sort (setMany size_setMany)

theorem R_call {P : Program} {a : Act} {w : World} {o : Oper} {f : FuncId} {args : Array Value} {K : Act → World → Prop} {Q : Exit → Act → World → Prop} {R : Ending → World → Prop} (hr : (execOp a.eval o).run P w = .ok (.enter f args) w) (hc : Calls P f args w R)
    (hk : ∀ e w', R e w' → ∃ v, e = .returned v ∧ K (a.put o.dst v) w') : o.wp P a w K Q := by
  unfold Oper.wp
  rw [hr, Oper.upon_enter]
  refine hc.mono fun e w' h => ?_
  obtain ⟨v, rfl, hK⟩ := hk e w' h
  exact hK

theorem sortedKeys_perm {V : Type} (es : List (Int × V)) : (sortedKeys es).Perm (es.map (·.1)) := List.mergeSort_perm _ _
theorem sortedKeys_length {V : Type} (es : List (Int × V)) : (sortedKeys es).length = es.length := by rw [(sortedKeys_perm es).length_eq]; simp
theorem sortedKeys_at {V : Type} (es : List (Int × V)) (k : Nat) (hk : k < es.length) : ∃ v, ((sortedKeys es).getD k 0, v) ∈ es := by
  have hm : (sortedKeys es).getD k 0 ∈ sortedKeys es := by
    rw [List.getD_eq_getElem?_getD, List.getElem?_eq_getElem (by rw [sortedKeys_length]; exact hk)]
    exact List.getElem_mem _
  have := (sortedKeys_perm es).subset hm
  obtain ⟨p, hp, e⟩ := List.mem_map.1 this
  exact ⟨p.2, by rw [← e]; exact hp⟩

/-- The sectors behind the first n keys of a crash. -/
def crashTo (d : DS) (keep torn cut : Int) : Nat → List St
  | 0 => d.sure
  | n + 1 => (crashTo d keep torn cut n).set ((sortedKeys d.pend).getD n 0).toNat (surv ((crashTo d keep torn cut n).getD ((sortedKeys d.pend).getD n 0).toNat St.zero) ((getE d.pend ((sortedKeys d.pend).getD n 0)).getD St.zero) n keep torn cut)
def DS.crash (d : DS) (keep torn cut : Int) : DS := ⟨-1, crashTo d keep torn cut d.pend.length, [], d.writes⟩

theorem crashTo_succ (d : DS) (keep torn cut : Int) (n : Nat) : crashTo d keep torn cut (n + 1) = (crashTo d keep torn cut n).set ((sortedKeys d.pend).getD n 0).toNat (surv ((crashTo d keep torn cut n).getD ((sortedKeys d.pend).getD n 0).toNat St.zero) ((getE d.pend ((sortedKeys d.pend).getD n 0)).getD St.zero) n keep torn cut) := rfl
theorem crashTo_length (d : DS) (keep torn cut : Int) : ∀ n, (crashTo d keep torn cut n).length = d.sure.length
  | 0 => rfl
  | n + 1 => by rw [crashTo, List.length_set, crashTo_length]
theorem getD_ok {ss : List St} (h : ∀ s ∈ ss, s.Ok) (i : Nat) : (ss.getD i St.zero).Ok := by
  by_cases hi : i < ss.length
  · rw [List.getD_eq_getElem?_getD, List.getElem?_eq_getElem hi]
    exact h _ (List.getElem_mem _)
  · rw [List.getD_eq_getElem?_getD, List.getElem?_eq_none (by omega)]
    exact St.zero_ok
theorem getE_ok {es : List (Int × St)} (h : ∀ p ∈ es, p.2.Ok) (i : Int) : ((getE es i).getD St.zero).Ok := by
  cases hg : getE es i with
  | none => exact St.zero_ok
  | some s => exact h _ (getE_mem hg)
theorem crashTo_ok {d : DS} (h1 : ∀ s ∈ d.sure, s.Ok) (h2 : ∀ p ∈ d.pend, p.2.Ok) (keep torn cut : Int) : ∀ n, ∀ s ∈ crashTo d keep torn cut n, s.Ok
  | 0 => h1
  | n + 1 => fun s hs => by
    rw [crashTo] at hs
    have ih := crashTo_ok h1 h2 keep torn cut n
    rcases List.mem_or_eq_of_mem_set hs with h | rfl
    · exact ih s h
    · exact surv_ok (getD_ok ih _) (getE_ok h2 _) _ _ _ _
theorem crash_nil (keep torn cut : Int) (w : World) : Calls Tryz.prog 13 #[.pointer none, .int .i64 keep, .int .i64 torn, .int .i64 cut] w fun e w' => e = .returned (.tuple #[]) ∧ w = w' := by
  go_enter Tryz.func13, Tryz.ntmps13
  go_wp2_with fail
  refine bodyPost_ret (results_none rfl _ _ _) rfl ?_
  exact ⟨rfl, rfl⟩

def DS.Good (d : DS) : Prop := (-1 ≤ d.fuse ∧ d.fuse ≤ 9223372036854775807) ∧ (∀ s ∈ d.sure, s.Ok) ∧ (∀ p ∈ d.pend, p.2.Ok ∧ 0 ≤ p.1 ∧ p.1 < d.sure.length) ∧ d.sure.length ≤ 4096 ∧ d.pend.length ≤ 100000

def CrashRel (b bs bm : Nat) (d : DS) (keep torn cut : Int) (kv : Value) (w0 : World) (ents : Array MapEntry) (clock : Nat) (vi : Value) (wr : World) : Prop :=
  ∃ k : Nat, vi = .int .i64 (k : Int) ∧ k ≤ d.pend.length ∧ SH (DiskA b bs bm d).fp w0 wr [ownA 3 1 kv d.pend.length ((sortedKeys d.pend).map (Value.int .i64)), pt b (.cells #[.int .i64 d.fuse, .slice (some ⟨bs, 0, none⟩) d.sure.length d.sure.length, .map (some bm), .int .i64 d.writes] 63 (0, 0)), pt bs (.cells (flat (crashTo d keep torn cut k)).toArray 89 (0, 0)), pt bm (.map ents clock)]

set_option maxRecDepth 100000 in
set_option maxHeartbeats 1000000 in
theorem crash_on (b bs bm : Nat) (d : DS) (keep torn cut : Int) (w0 : World) (h : (DiskA b bs bm d).says w0) (hg : d.Good) :
    Calls Tryz.prog 13 #[.pointer (some ⟨b, 0, none⟩), .int .i64 keep, .int .i64 torn, .int .i64 cut] w0 fun e w' => e = .returned (.tuple #[]) ∧ Ext (DiskA b bs bm d).fp w0 w' ∧ (DiskA b bs bm (d.crash keep torn cut)).says w' := by
  obtain ⟨ents, clock, hrel, H⟩ := DiskA.open_ h
  clear h
  have hwf : ∀ p ∈ d.pend, (Lit.int .i64 p.1).wf = true := fun p hp => by
    have h1 := (hg.2.2.1 p hp).2; have h2 := hg.2.2.2.1
    show (decide ((-9223372036854775808 : Int) ≤ p.1) && decide (p.1 ≤ (9223372036854775807 : Int))) = true
    simp only [Bool.and_eq_true, decide_eq_true_eq]
    omega
  have hlen := hg.2.2.2.2
  have hG := Lib.hid hg
  clear hg
  go_enter Tryz.func13, Tryz.ntmps13
  go_wp2_with (first | (refine L_load1 rfl rfl H 0 rfl rfl rfl Tryz.isAgg61 ?_; (try simp only [Act.put, List.setIfInBounds_toArray, List.set_cons_succ, List.set_cons_zero, List.getElem_toArray, List.getElem_cons_succ, List.getElem_cons_zero])) | (go_at_call 43; refine (keys_calls _ _).mono ?_; rintro e w' ⟨rfl, rfl⟩; replace H := H.alloc (.cells #[.map (some bm)] 61)) | (go_at_call 42; refine (sorted_calls hrel (H.at_ 3 rfl) hwf hlen (H.at_ 0 rfl)).mono ?_; rintro e w' ⟨kv, rfl, hrow, hbel⟩; obtain ⟨A, cap, rfl, hcap⟩ := (RdS.own (enc := encInt .i64) (encInt_len _) (sortedKeys_length d.pend).symm (by rw [cellsOf_int]; exact hrow)).len; rw [sortedKeys_length] at hrow hcap ⊢))
  replace H := (H.addOwn (Ext0.of_below hbel) hrow).drop (L' := [_, _, _, _]) (List.Sublist.cons_cons _ (List.sublist_cons_self _ _))
  go_loopw [19] (fun vi wr => CrashRel b bs bm d keep torn cut (.slice A d.pend.length cap) w0 ents clock vi wr) (fun vi _ => d.pend.length - (intOf vi).toNat)
  case atStart => exact ⟨0, rfl, Nat.zero_le _, H⟩
  case round =>
    clear H hrow hbel hwf
    obtain ⟨k, rfl, hk, H⟩ := hrel
    by_cases hkn : k < d.pend.length
    · obtain ⟨s', hmem⟩ := sortedKeys_at d.pend k hkn
      obtain ⟨hsok, hz0, hz1⟩ := hG.out.2.2.1 _ hmem
      have hget : getE d.pend ((sortedKeys d.pend).getD k 0) = some s' := getE_of_mem hrel.keys hmem
      have hrd := RdS.own (enc := encInt .i64) (encInt_len _) (sortedKeys_length d.pend).symm (by rw [cellsOf_int]; exact H.get 0 rfl)
      obtain ⟨gk, off, cs, T, fr, rfl, hgk, hcs⟩ := hrd.cell (j := k) (by rw [sortedKeys_length]; exact hkn)
      have hcell : wr.cell? ⟨gk, off + k, none⟩ = some (.int .i64 ((sortedKeys d.pend).getD k 0)) := by
        have := hcs 0 (by omega)
        rw [cell_of_row wr gk _ cs T fr hgk]
        rw [Nat.mul_one, Nat.add_zero] at this
        rw [this]
        simp [encInt, List.getD_eq_getElem?_getD, List.getElem?_eq_getElem (show k < (sortedKeys d.pend).length by rw [sortedKeys_length]; exact hkn)]
      have hcr := crashTo_succ d keep torn cut k
      rw [hget, Option.getD_some] at hcr
      generalize hki : (sortedKeys d.pend).getD k 0 = key at *
      obtain ⟨i, rfl⟩ := Int.eq_ofNat_of_zero_le hz0
      rw [Int.toNat_natCast] at hcr
      have hcl : (crashTo d keep torn cut k).length = d.sure.length := crashTo_length d keep torn cut k
      have hcok : ∀ s ∈ crashTo d keep torn cut k, s.Ok := crashTo_ok hG.out.2.1 (fun p hp => (hG.out.2.2.1 p hp).1) keep torn cut k
      have HCR := Lib.hid hcr
      generalize hC : crashTo d keep torn cut k = C at *
      have hil : i < C.length := by omega
      have hsi : (C.getD i St.zero).Ok := by
        rw [List.getD_eq_getElem?_getD, List.getElem?_eq_getElem hil]
        exact hcok _ (List.getElem_mem _)
      generalize hs : C.getD i St.zero = s at *
      have hso := surv_ok hsi hsok (k : Int) keep torn cut
      have hmid := flat_at C hcok i hil
      rw [hs] at hmid
      have hrun : (Instr.lookup 61 (.map (some bm)) (.int .i64 (i : Int)) false).run Tryz.prog = (Instr.lookup 61 (.map (some bm)) (.int .i64 (i : Int)) false).run Tryz.prog := rfl
      have hlk : ∀ w', w'.heap[bm]? = some (.map ents clock) → (Instr.lookup 61 (.map (some bm)) (.int .i64 (i : Int)) false).run Tryz.prog w' = .ok s'.val w' := fun w' hw' => by
        have := run_lookup_map (w := w') (keyOk_int Tryz.underlying3) Tryz.underlying61 zero89 hw' hrel i false
        simpa [hget] using this
      clear hrun
      have hi1 : i < d.sure.length := by omega
      go_wp2_with fail
      have hup := fun {w2 : World} (H2 : SH (DiskA b bs bm d).fp w0 w2 [ownA 3 1 (.slice (some ⟨gk, off, none⟩) d.pend.length cap) d.pend.length ((sortedKeys d.pend).map (Value.int .i64)), pt b (.cells #[.int .i64 d.fuse, .slice (some ⟨bs, 0, none⟩) d.sure.length d.sure.length, .map (some bm), .int .i64 d.writes] 63 (0, 0)), pt bs (.cells (flat C).toArray 89 (0, 0)), pt bm (.map ents clock)]) => H2.setMid 2 rfl (i * 33) (surv s s' k keep torn cut).cells
      rw [flat_set hcok i hil _ hso] at hup
      simp only [List.set_cons_zero, List.set_cons_succ] at hup
      have hln := length_flat hcok
      have hsp : i * 33 + 33 ≤ (flat C).toArray.size := by simp only [List.size_toArray, hln]; omega
      have H1 := H.drop (L' := [_, _, _]) (List.Sublist.cons_cons _ (List.Sublist.cons_cons _ (List.sublist_cons_self _ _)))
      clear hcell hcs hrd hgk
      refine D_start H1 (by kernel_rfl) (fun hS => ?_)
      try simp only [Act.put, List.setIfInBounds_toArray, List.set_cons_succ, List.set_cons_zero]
      refine D_take 0 (v := ?_) rfl (by kernel_rfl) (by kernel_rfl) (by kernel_rfl) (fun _ _ _ h => h) rfl (by rfl) (fun W hS => ?_) hS ?_
      rotate_left; (focus (first | (go_simp; done) | (go_simp; with_reducible rfl) | (go_simp; rfl))); all_goals skip; (try simp only [List.set_cons_succ, List.set_cons_zero])
      refine D_take 1 (v := ?_) rfl (by kernel_rfl) (by kernel_rfl) (by kernel_rfl) (fun _ _ _ h => h) rfl (by rfl) (fun W hS => ?_) hS ?_
      rotate_left; (focus (first | (go_simp; done) | (go_simp; with_reducible rfl) | (go_simp; rfl))); all_goals skip; (try simp only [List.set_cons_succ, List.set_cons_zero])
      refine D_take 2 (v := ?_) rfl (by kernel_rfl) (by kernel_rfl) (by kernel_rfl) (fun _ _ _ h => h) rfl (by rfl) (fun W hS => ?_) hS ?_
      rotate_left; (focus (first | (go_simp; done) | (go_simp; with_reducible rfl) | (go_simp; rfl))); all_goals skip; (try simp only [List.set_cons_succ, List.set_cons_zero])
      refine D_take 3 (v := ?_) rfl (by kernel_rfl) (by kernel_rfl) (by kernel_rfl) (fun _ _ _ h => h) rfl (by rfl) (fun W hS => ?_) hS ?_
      rotate_left; (focus (first | (refine R_load1 (ty := 60) (x := Operand.tmp 26) rfl hS 1 rfl rfl ?_ Tryz.isAgg60; rfl))); all_goals skip; (try simp only [List.set_cons_succ, List.set_cons_zero, List.getElem_toArray, List.getElem_cons_succ, List.getElem_cons_zero])
      refine D_take 4 (v := ?_) rfl (by kernel_rfl) (by kernel_rfl) (by kernel_rfl) (fun _ _ _ h => h) rfl (by rfl) (fun W hS => ?_) hS ?_
      rotate_left; (focus (first | (go_simp; done) | (go_simp; with_reducible rfl) | (go_simp; rfl))); all_goals skip; (try simp only [List.set_cons_succ, List.set_cons_zero])
      refine D_take 5 (v := ?_) rfl (by kernel_rfl) (by kernel_rfl) (by kernel_rfl) (fun _ _ _ h => h) rfl (by rfl) (fun W hS => ?_) hS ?_
      rotate_left; (focus (first | (go_simp; done) | (go_simp; with_reducible rfl) | (go_simp; rfl))); all_goals skip; (try simp only [List.set_cons_succ, List.set_cons_zero])
      refine D_take 6 (v := ?_) rfl (by kernel_rfl) (by kernel_rfl) (by kernel_rfl) (fun _ _ _ h => h) rfl (by rfl) (fun W hS => ?_) hS ?_
      rotate_left; (focus (first | (go_simp; done) | (go_simp; with_reducible rfl) | (go_simp; rfl))); all_goals skip; (try simp only [List.set_cons_succ, List.set_cons_zero])
      refine D_take 7 (v := ?_) rfl (by kernel_rfl) (by kernel_rfl) (by kernel_rfl) (fun _ _ _ h => h) rfl (by rfl) (fun W hS => ?_) hS ?_
      rotate_left; (focus (first | (go_simp; done) | (go_simp; with_reducible rfl) | (go_simp; rfl))); all_goals skip; (try simp only [List.set_cons_succ, List.set_cons_zero])
      refine D_take 8 (v := ?_) rfl (by kernel_rfl) (by kernel_rfl) (by kernel_rfl) (fun _ _ _ h => h) rfl (by rfl) (fun W hS => ?_) hS ?_
      rotate_left; (focus (first | (refine R_load1 (ty := 60) (x := Operand.tmp 31) rfl hS 1 rfl rfl ?_ Tryz.isAgg60; rfl))); all_goals skip; (try simp only [List.set_cons_succ, List.set_cons_zero, List.getElem_toArray, List.getElem_cons_succ, List.getElem_cons_zero])
      refine D_take 9 (v := ?_) rfl (by kernel_rfl) (by kernel_rfl) (by kernel_rfl) (fun _ _ _ h => h) rfl (by rfl) (fun W hS => ?_) hS ?_
      rotate_left; (focus (first | (go_simp; done) | (go_simp; with_reducible rfl) | (go_simp; rfl))); all_goals skip; (try simp only [List.set_cons_succ, List.set_cons_zero])
      refine D_take 10 (v := ?_) rfl (by kernel_rfl) (by kernel_rfl) (by kernel_rfl) (fun _ _ _ h => h) rfl (by rfl) (fun W hS => ?_) hS ?_
      rotate_left; (focus (first | (go_simp; done) | (go_simp; with_reducible rfl) | (go_simp; rfl))); all_goals skip; (try simp only [List.set_cons_succ, List.set_cons_zero])
      refine D_take 12 (v := ?_) rfl (by kernel_rfl) (by kernel_rfl) (by kernel_rfl) (fun _ _ _ h => h) rfl (by rfl) (fun W hS => ?_) hS ?_
      rotate_left; (focus (first | (go_simp; done) | (go_simp; with_reducible rfl) | (go_simp; rfl))); all_goals skip; (try simp only [List.set_cons_succ, List.set_cons_zero])
      refine D_take 13 (v := ?_) rfl (by kernel_rfl) (by kernel_rfl) (by kernel_rfl) (fun _ _ _ h => h) rfl (by rfl) (fun W hS => ?_) hS ?_
      rotate_left; (focus (first | (go_simp; done) | (go_simp; with_reducible rfl) | (go_simp; rfl))); all_goals skip; (try simp only [List.set_cons_succ, List.set_cons_zero])
      refine D_take 14 (v := ?_) rfl (by kernel_rfl) (by kernel_rfl) (by kernel_rfl) (fun _ _ _ h => h) rfl (by rfl) (fun W hS => ?_) hS ?_
      rotate_left; (focus (first | (go_simp; done) | (go_simp; with_reducible rfl) | (go_simp; rfl))); all_goals skip; (try simp only [List.set_cons_succ, List.set_cons_zero])
      refine D_take 15 (v := ?_) rfl (by kernel_rfl) (by kernel_rfl) (by kernel_rfl) (fun _ _ _ h => h) rfl (by rfl) (fun W hS => ?_) hS ?_
      rotate_left; (focus (first | (refine R_load1 (ty := 61) (x := Operand.tmp 38) rfl hS 1 rfl rfl ?_ Tryz.isAgg61; rfl))); all_goals skip; (try simp only [List.set_cons_succ, List.set_cons_zero, List.getElem_toArray, List.getElem_cons_succ, List.getElem_cons_zero])
      refine D_take 16 (v := ?_) rfl (by kernel_rfl) (by kernel_rfl) (by kernel_rfl) (fun _ _ _ h => h) rfl (by rfl) (fun W hS => ?_) hS ?_
      rotate_left; (focus (first | (go_simp; done) | (go_simp; with_reducible rfl) | (go_simp; rfl))); all_goals skip; (try simp only [List.set_cons_succ, List.set_cons_zero])
      refine D_take 17 (v := s'.val) rfl (by kernel_rfl) (by kernel_rfl) (by kernel_rfl) (fun _ _ _ h => h) rfl (by rfl) (fun W hS => R_lookup rfl rfl rfl (hlk _ (hS.at_ 2 rfl))) hS ?_; (try simp only [List.set_cons_succ, List.set_cons_zero])
      refine D_take 18 (v := ?_) rfl (by kernel_rfl) (by kernel_rfl) (by kernel_rfl) (fun _ _ _ h => h) rfl (by rfl) (fun W hS => ?_) hS ?_
      rotate_left; (focus (first | (go_simp; done) | (go_simp; with_reducible rfl) | (go_simp; rfl))); all_goals skip; (try simp only [List.set_cons_succ, List.set_cons_zero])
      refine D_take 19 (v := ?_) rfl (by kernel_rfl) (by kernel_rfl) (by kernel_rfl) (fun _ _ _ h => h) rfl (by rfl) (fun W hS => ?_) hS ?_
      rotate_left; (focus (first | (go_simp; done) | (go_simp; with_reducible rfl) | (go_simp; rfl))); all_goals skip; (try simp only [List.set_cons_succ, List.set_cons_zero])
      refine D_take 20 (v := ?_) rfl (by kernel_rfl) (by kernel_rfl) (by kernel_rfl) (fun _ _ _ h => h) rfl (by rfl) (fun W hS => ?_) hS ?_
      rotate_left; (focus (first | (go_simp; done) | (go_simp; with_reducible rfl) | (go_simp; rfl))); all_goals skip; (try simp only [List.set_cons_succ, List.set_cons_zero])
      refine D_take 21 (v := ?_) rfl (by kernel_rfl) (by kernel_rfl) (by kernel_rfl) (fun _ _ _ h => h) rfl (by rfl) (fun W hS => ?_) hS ?_
      rotate_left; (focus (first | (go_simp; done) | (go_simp; with_reducible rfl) | (go_simp; rfl))); all_goals skip; (try simp only [List.set_cons_succ, List.set_cons_zero])
      refine D_one 11 rfl (by kernel_rfl) (by rfl) ?_
      refine wp_of_value (R_loadmid (ty := 89) (x := .tmp 34) (b := bs) (off := i * 33) rfl rfl (H.drew.at_ 2 rfl) Tryz.underlying89 rfl info89 s.cells (St.size_cells hsi) (fun j hj => by simpa using hmid j hj)) ⟨H1.drew, ?_⟩
      try simp only [Act.put, List.getElem_toArray, List.getElem_cons_succ, List.getElem_cons_zero, List.setIfInBounds_toArray, List.set_cons_succ, List.set_cons_zero]
      refine D_one 22 rfl (by kernel_rfl) (by rfl) ?_
      refine R_call (f := 44) (args := #[s.val, s'.val, .int .i64 (k : Int), .int .i64 keep, .int .i64 torn, .int .i64 cut]) (by first | (go_simp; done) | (go_simp; rfl)) (surv_any s s' k keep torn cut _ hsi hsok (by omega)) ?_
      rintro e w2 ⟨rfl, hx⟩
      have HW := H.drew.calls hx
      have hS := HW.drop (L' := [_, _, _]) (List.Sublist.cons_cons _ (List.Sublist.cons_cons _ (List.sublist_cons_self _ _)))
      refine ⟨_, rfl, hS, ?_⟩
      replace hup := hup HW
      clear hx
      try simp only [Act.put, List.getElem_toArray, List.getElem_cons_succ, List.getElem_cons_zero, List.setIfInBounds_toArray, List.set_cons_succ, List.set_cons_zero]
      refine D_take 23 (v := ?_) rfl (by kernel_rfl) (by kernel_rfl) (by kernel_rfl) (fun _ _ _ h => h) rfl (by rfl) (fun W hS => ?_) hS ?_
      rotate_left; (focus (first | (go_simp; done) | (go_simp; with_reducible rfl) | (go_simp; rfl))); all_goals skip; (try simp only [List.set_cons_succ, List.set_cons_zero])
      refine D_one 24 rfl (by kernel_rfl) (by rfl) ?_
      refine wp_of_skip (R_storemid (ty := 89) (x := .tmp 47) (y := .tmp 46) rfl HW 2 (off := i * 33) (vs := (surv s s' k keep torn cut).cells.toArray) rfl rfl rfl info89 (St.size_arr hso) hsp (St.one_cells _)) ⟨hup.drop (List.Sublist.cons_cons _ (List.Sublist.cons_cons _ (List.sublist_cons_self _ _))), ?_⟩
      try simp only [Act.put, List.getElem_toArray, List.getElem_cons_succ, List.getElem_cons_zero, List.setIfInBounds_toArray, List.set_cons_succ, List.set_cons_zero]
      refine wpAnyH_done (by kernel_rfl) ?_ _
      go_wp2_with fail
      go_roundw
      case rel => exact ⟨k + 1, by go_num, by omega, by rw [HCR.out]; exact hup⟩
      case measure => simp [intOf]; omega
    · obtain rfl : k = d.pend.length := by omega
      clear hkn
      have hcl : (crashTo d keep torn cut d.pend.length).length = d.sure.length := crashTo_length d keep torn cut _
      have hsay := fun {w' : World} (H' : SH (DiskA b bs bm d).fp w0 w' [ownA 3 1 (.slice A d.pend.length cap) d.pend.length ((sortedKeys d.pend).map (Value.int .i64)), pt b (.cells #[.int .i64 d.fuse, .slice (some ⟨bs, 0, none⟩) d.sure.length d.sure.length, .map (some bm), .int .i64 d.writes] 63 (0, 0)), pt bs (.cells (flat (crashTo d keep torn cut d.pend.length)).toArray 89 (0, 0)), pt bm (.map #[] clock)]) =>
        (DiskA.shut (b := b) (bs := bs) (bm := bm) (d := ⟨d.fuse, crashTo d keep torn cut d.pend.length, [], d.writes⟩) (MapRel.empty _ _ clock) (L := []) (by
          show SH (DiskA b bs bm d).fp w0 w' [pt b (.cells #[.int .i64 d.fuse, .slice (some ⟨bs, 0, none⟩) (crashTo d keep torn cut d.pend.length).length (crashTo d keep torn cut d.pend.length).length, .map (some bm), .int .i64 d.writes] 63 (0, 0)), _, _]
          rw [hcl]; exact H'.drop (List.sublist_cons_self _ _)))
      go_wp2_with (first | (refine L_load1 rfl rfl H 0 rfl rfl rfl Tryz.isAgg61 ?_; (try simp only [Act.put, List.setIfInBounds_toArray, List.set_cons_succ, List.set_cons_zero, List.getElem_toArray, List.getElem_cons_succ, List.getElem_cons_zero])) | (refine L_load1 rfl rfl H 1 rfl rfl rfl Tryz.isAgg61 ?_; (try simp only [Act.put, List.setIfInBounds_toArray, List.set_cons_succ, List.set_cons_zero, List.getElem_toArray, List.getElem_cons_succ, List.getElem_cons_zero])) | (refine L_clear rfl rfl H 3 rfl rfl Tryz.underlying61 ?_; clear H; intro w H; simp only [List.set_cons_zero, List.set_cons_succ] at H; (try simp only [Act.put, List.setIfInBounds_toArray, List.set_cons_succ, List.set_cons_zero, List.getElem_toArray, List.getElem_cons_succ, List.getElem_cons_zero])) | (go_at_call 45; refine (set_any b bs bm _ (-1) _ (hsay H)).mono ?_; rintro e w' ⟨rfl, hw1, hw2⟩))
      go_end0
      exact ⟨rfl, H.ext.trans' (hw1.mono (fun i _ h => .inl h)), hw2⟩
end Go.Proofs.YtgmeahogdjhejaaGreatDoor

namespace Go.Proofs.YtgmeahogdjhejaaGreatDoor
set_option linter.unusedVariables false
set_option linter.unusedSimpArgs false
open Go.RowKit

theorem nodup_bound : ∀ (n : Nat) (l : List Int), l.Nodup → (∀ x ∈ l, 0 ≤ x ∧ x < n) → l.length ≤ n
  | 0, l, _, h => by
    cases l with
    | nil => simp
    | cons x l => have := h x (by simp); omega
  | n + 1, l, hn, h => by
    have h2 := nodup_bound n (l.erase (n : Int)) (hn.erase _) (fun x hx => by
      have h3 := h x (List.mem_of_mem_erase hx)
      have h4 : x ≠ n := ((List.Nodup.mem_erase_iff hn).1 hx).1
      omega)
    have h5 := List.length_erase (a := (n : Int)) (l := l)
    split at h5 <;> omega

structure DS.Fine (d : DS) (W : Int) : Prop where
  fuse : -1 ≤ d.fuse ∧ d.fuse ≤ 9223372036854775807
  sure : ∀ s ∈ d.sure, s.Ok
  pend : ∀ p ∈ d.pend, p.2.Ok ∧ 0 ≤ p.1 ∧ p.1 < d.sure.length
  len : d.sure.length ≤ 4096
  keys : (d.pend.map (·.1)).Nodup
  writes : 0 ≤ d.writes ∧ d.writes ≤ W
theorem DS.Fine.mono {d : DS} {W V : Int} (h : d.Fine W) (hv : W ≤ V) : d.Fine V := ⟨h.fuse, h.sure, h.pend, h.len, h.keys, h.writes.1, by have := h.writes.2; omega⟩
theorem DS.Fine.plen {d : DS} {W : Int} (h : d.Fine W) : d.pend.length ≤ d.sure.length := by
  have := nodup_bound d.sure.length (d.pend.map (·.1)) h.keys (fun x hx => by
    obtain ⟨p, hp, rfl⟩ := List.mem_map.1 hx
    exact (h.pend p hp).2)
  simpa using this
theorem DS.Fine.good {d : DS} {W : Int} (h : d.Fine W) : d.Good := ⟨h.fuse, h.sure, h.pend, h.len, by have := h.plen; have := h.len; omega⟩

def DS.has (d : DS) (i : Int) : Prop := 0 ≤ i ∧ i < d.sure.length
instance (d : DS) (i : Int) : Decidable (d.has i) := inferInstanceAs (Decidable (_ ∧ _))
/-- What Read answers. -/
def DS.readR (d : DS) (i : Int) : List Int × Int := if d.has i then ((d.is i).bytes, 0) else ([], 1)
def DS.sinceR (d : DS) (i : Int) : Int := if d.has i then (d.is i).wr else 0
def DS.writeR (d : DS) (i : Int) (xs : List Int) : DS × Int := if ¬ (d.has i ∧ xs.length = 32) then (d, 1) else if d.fuse = 0 then (d, 10) else (d.write i xs, 0)
def DS.flushR (d : DS) : DS × Int := if d.fuse = 0 then (d, 10) else (d.flush, 0)

theorem DS.spend_fuse {d : DS} (h : -1 ≤ d.fuse ∧ d.fuse ≤ 9223372036854775807) : -1 ≤ d.spend.1.fuse ∧ d.spend.1.fuse ≤ 9223372036854775807 ∧ d.spend.1.sure = d.sure ∧ d.spend.1.pend = d.pend ∧ d.spend.1.writes = d.writes := by
  unfold DS.spend
  split
  · exact ⟨h.1, h.2, rfl, rfl, rfl⟩
  · split
    · exact ⟨h.1, h.2, rfl, rfl, rfl⟩
    · refine ⟨?_, ?_, rfl, rfl, rfl⟩ <;> dsimp only <;> omega
theorem DS.Fine.new (n : Nat) (hn : n ≤ 4096) : (DS.new n).Fine 0 := ⟨by simp [DS.new], fun s hs => by rw [(List.mem_replicate.1 hs).2]; exact St.zero_ok, by simp [DS.new], by simpa [DS.new] using hn, by simp [DS.new], by simp [DS.new]⟩
theorem DS.Fine.flush {d : DS} {W : Int} (h : d.Fine W) : d.flush.Fine W := by
  have hs := DS.spend_fuse h.fuse
  refine ⟨⟨hs.1, hs.2.1⟩, applyAll_ok h.sure (fun p hp => (h.pend p hp).1), by simp [DS.flush], ?_, by simp [DS.flush], ?_⟩
  · simp only [DS.flush, applyAll_length]; exact h.len
  · show 0 ≤ d.spend.1.writes ∧ d.spend.1.writes ≤ W; rw [hs.2.2.2.2]; exact h.writes
theorem DS.Fine.flushR {d : DS} {W : Int} (h : d.Fine W) : d.flushR.1.Fine W := by
  unfold DS.flushR; split
  · exact h
  · exact h.flush
theorem mem_putE {V : Type} {es : List (Int × V)} {k : Int} {v : V} {p : Int × V} (hn : (es.map (·.1)).Nodup) (h : p ∈ putE es k v) : p = (k, v) ∨ p ∈ es := by
  have h1 := getE_of_mem (nodup_putE hn k v) (show (p.1, p.2) ∈ putE es k v from h)
  rw [getE_putE es hn] at h1
  split at h1
  · rename_i e
    left
    obtain ⟨a, b⟩ := p
    cases h1; simp only at e; subst e; rfl
  · exact .inr (getE_mem h1)
theorem DS.Fine.write {d : DS} {W : Int} (h : d.Fine W) {i : Int} {xs : List Int} (hi : d.has i) (hx : xs.length = 32) (hb : ∀ x ∈ xs, 0 ≤ x ∧ x ≤ 255) : (d.write i xs).Fine (W + 1) := by
  have hs := DS.spend_fuse h.fuse
  have hsure : (d.write i xs).sure = d.sure := hs.2.2.1
  refine ⟨⟨hs.1, hs.2.1⟩, by rw [hsure]; exact h.sure, ?_, by rw [hsure]; exact h.len, nodup_putE h.keys _ _, ?_⟩
  · intro p hp
    rw [hsure]
    rcases mem_putE h.keys hp with rfl | hp
    · exact ⟨⟨hx, hb⟩, hi⟩
    · exact h.pend p hp
  · have := h.writes; simp only [DS.write]; omega
theorem DS.Fine.writeR {d : DS} {W : Int} (h : d.Fine W) {i : Int} {xs : List Int} (hb : ∀ x ∈ xs, 0 ≤ x ∧ x ≤ 255) : (d.writeR i xs).1.Fine (W + 1) := by
  unfold DS.writeR
  split
  · exact h.mono (by omega)
  · rename_i hh
    have hh := Decidable.not_not.1 hh
    split
    · exact h.mono (by omega)
    · exact h.write hh.1 hh.2 hb
theorem DS.Fine.crash {d : DS} {W : Int} (h : d.Fine W) (keep torn cut : Int) : (d.crash keep torn cut).Fine W :=
  ⟨by simp [DS.crash], crashTo_ok h.sure (fun p hp => (h.pend p hp).1) keep torn cut _, by simp [DS.crash], by simp only [DS.crash, crashTo_length]; exact h.len, by simp [DS.crash], h.writes⟩
theorem DS.Fine.setFuse {d : DS} {W : Int} (h : d.Fine W) (n : Int) (hn : n ≤ 9223372036854775807) : (DS.mk (max n (-1)) d.sure d.pend d.writes).Fine W :=
  ⟨by dsimp only; omega, h.sure, h.pend, h.len, h.keys, h.writes⟩

section
variable {b bs bm : Nat} {d : DS} {W : Int} {M : Nat → Prop} {w0 w : World} {L : List Asr}

theorem DiskA.fp_lt {i : Nat} (h : (DiskA b bs bm d).says w) (hi : (DiskA b bs bm d).fp i) : i < w.heap.size := by
  obtain ⟨_, _, _, a4, a5, ents, clock, a6, _⟩ := h
  rcases hi with rfl | rfl | rfl
  · exact blk_lt' a4
  · exact blk_lt' a5
  · exact blk_lt' a6
theorem SH.disk (H : SH M w0 w L) (k : Nat) (hk : L[k]? = some (DiskA b bs bm d)) {w' : World} {d' : DS} (he : Ext (DiskA b bs bm d).fp w w') (hs : (DiskA b bs bm d').says w') : SH M w0 w' (L.set k (DiskA b bs bm d')) :=
  H.upd k hk he hs (fun i hi => ⟨.inl hi, DiskA.fp_lt hs hi⟩)

theorem dread (h : (DiskA b bs bm d).says w) (hf : d.Fine W) (i : Int) :
    Calls Tryz.prog 26 #[.pointer (some ⟨b, 0, none⟩), .int .i64 i] w fun e w' => ∃ v, e = .returned (.tuple #[v, .int .i64 (d.readR i).2]) ∧ w'.ownsRow w.heap.size 5 1 v (d.readR i).1.length (cellsOf (encInt .u8) (d.readR i).1) ∧ Ext0 w w' := by
  unfold DS.readR
  by_cases hi : d.has i
  · rw [if_pos hi]
    have := read_on b bs bm d i w h hf.sure (fun p hp => (hf.pend p hp).1) hi.1 hi.2
    rw [show (d.is i).bytes.length = 32 from (DS.is_ok hf.sure (fun p hp => (hf.pend p hp).1) hi.1 hi.2).1]
    exact this
  · rw [if_neg hi]
    have hth := there_any b bs bm d i w h
    rw [show decide (0 ≤ i ∧ i < d.sure.length) = false by simpa [DS.has] using hi] at hth
    refine (read_off _ i w hth).mono ?_
    rintro e w' ⟨rfl, rfl⟩
    exact ⟨_, rfl, World.ownsRow_nil _ _ _ _, Ext.refl _ _⟩
theorem dwrite (h : (DiskA b bs bm d).says w) (hf : d.Fine W) (hW : W < 9223372036854775807) (i : Int) {v : Value} {xs : List Int} (hr : RdS (encInt .u8) 1 w v xs) (hap : ∀ j, v.ownBlock = some j → ¬ (DiskA b bs bm d).fp j) :
    Calls Tryz.prog 61 #[.pointer (some ⟨b, 0, none⟩), .int .i64 i, v] w fun e w' => e = .returned (.int .i64 (d.writeR i xs).2) ∧ Ext (DiskA b bs bm d).fp w w' ∧ (DiskA b bs bm (d.writeR i xs).1).says w' := by
  have hth := there_any b bs bm d i w h
  unfold DS.writeR
  by_cases hi : d.has i
  · rw [show decide (0 ≤ i ∧ i < d.sure.length) = true by simpa [DS.has] using hi] at hth
    by_cases hx : xs.length = 32
    · rw [if_neg (by simp [hi, hx])]
      by_cases h0 : d.fuse = 0
      · rw [if_pos h0]
        obtain ⟨A, cap, rfl, _⟩ := hr.len
        rw [hx]
        refine (write_down b bs bm d i A cap w h h0 hth).mono ?_
        rintro e w' ⟨rfl, h1, h2⟩
        exact ⟨rfl, h1.mono (fun j _ hj => .inl hj), h2⟩
      · rw [if_neg h0]
        have := hf.writes
        exact write_on b bs bm d i v xs w h hf.fuse h0 hf.writes.1 (by omega) hr hx hap hth
    · rw [if_pos (by simp [hx])]
      obtain ⟨A, cap, rfl, _⟩ := hr.len
      refine (write_len _ i A _ cap w hx hth).mono ?_
      rintro e w' ⟨rfl, rfl⟩
      exact ⟨rfl, Ext.refl _ _, h⟩
  · rw [show decide (0 ≤ i ∧ i < d.sure.length) = false by simpa [DS.has] using hi] at hth
    rw [if_pos (by simp [hi])]
    refine (write_off _ i v w hth).mono ?_
    rintro e w' ⟨rfl, rfl⟩
    exact ⟨rfl, Ext.refl _ _, h⟩
theorem dflush (h : (DiskA b bs bm d).says w) (hf : d.Fine W) :
    Calls Tryz.prog 31 #[.pointer (some ⟨b, 0, none⟩)] w fun e w' => e = .returned (.int .i64 d.flushR.2) ∧ Ext (DiskA b bs bm d).fp w w' ∧ (DiskA b bs bm d.flushR.1).says w' := by
  unfold DS.flushR
  by_cases h0 : d.fuse = 0
  · rw [if_pos h0]
    refine (flush_down b bs bm d w h h0).mono ?_
    rintro e w' ⟨rfl, h1, h2⟩
    exact ⟨rfl, h1.mono (fun j _ hj => .inl hj), h2⟩
  · rw [if_neg h0]
    exact flush_on b bs bm d w h hf.fuse h0 hf.sure hf.pend
end
end Go.Proofs.YtgmeahogdjhejaaGreatDoor
