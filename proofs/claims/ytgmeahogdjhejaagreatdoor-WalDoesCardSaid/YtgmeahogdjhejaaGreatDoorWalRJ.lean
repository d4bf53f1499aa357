/- The document's disk in a list of assertions. (Printed by genwal6.py.) -/
import Derived.Test.YtgmeahogdjhejaaGreatDoorWalRG
namespace Go.Proofs.YtgmeahogdjhejaaGreatDoor
set_option linter.unusedVariables false
set_option linter.unusedSimpArgs false
open Rf (RefA RM grown row_shape row_len R_store1 infoU8 bytesA)
section
variable {b : Nat} {S : Nat → Prop} {d : DS} {M : Nat → Prop} {w0 w : World} {L : List Asr}
theorem SH.ref (H : SH M w0 w L) (k : Nat) (hk : L[k]? = some (RefA b S d)) {w' : World} {d' : DS} (he : Ext S w w') (hs : (RefA b (Rf.grown S w w') d').says w') : SH M w0 w' (L.set k (RefA b (Rf.grown S w w') d')) :=
  H.upd k hk he hs (fun i hi => ⟨hi.elim .inl (fun h => .inr h.1), RefA.lt hs i hi⟩)
theorem SH.openRef (H : SH M w0 w (RefA b S d :: L)) : ∃ r : RM, r.Ok d ∧ SH M w0 w (r.L b ++ L) := by
  obtain ⟨r, h1, h2, h3, h4, h5⟩ := H.says (RefA b S d) (by simp)
  have hp := List.pairwise_cons.1 H.apart
  refine ⟨r, h1, H.ext, ?_, ?_, ?_, ?_⟩
  · intro X hX
    rcases List.mem_append.1 hX with hX | hX
    · exact h2 X hX
    · exact H.says X (List.mem_cons_of_mem _ hX)
  · intro X hX i hi
    rcases List.mem_append.1 hX with hX | hX
    · exact H.lt (RefA b S d) (by simp) i (h3 X hX i hi)
    · exact H.lt X (List.mem_cons_of_mem _ hX) i hi
  · intro X hX i hi
    rcases List.mem_append.1 hX with hX | hX
    · exact H.own (RefA b S d) (by simp) i (h3 X hX i hi)
    · exact H.own X (List.mem_cons_of_mem _ hX) i hi
  · exact List.pairwise_append.2 ⟨h4, hp.2, fun X hX Y hY i hi hi' => hp.1 Y hY i (h3 X hX i hi) hi'⟩
theorem SH.shutRef {r : RM} (H : SH M w0 w (r.L b ++ L)) (hr : r.Ok d) : ∃ S, SH M w0 w (RefA b S d :: L) := by
  have hp := List.pairwise_append.1 H.apart
  have hin : ∀ {X}, X ∈ r.L b → X ∈ r.L b ++ L := fun h => List.mem_append.2 (.inl h)
  refine ⟨fun i => ∃ A ∈ r.L b, A.fp i, H.ext, ?_, ?_, ?_, ?_⟩
  · intro X hX
    rcases List.mem_cons.1 hX with rfl | hX
    · exact ⟨r, hr, fun A hA => H.says A (hin hA), fun A hA i hi => ⟨A, hA, hi⟩, hp.1, fun i ⟨A, hA, hi⟩ => ⟨_, Array.getElem?_eq_getElem (H.lt A (hin hA) i hi)⟩⟩
    · exact H.says X (List.mem_append.2 (.inr hX))
  · intro X hX i hi
    rcases List.mem_cons.1 hX with rfl | hX
    · obtain ⟨A, hA, hi⟩ := hi
      exact H.lt A (hin hA) i hi
    · exact H.lt X (List.mem_append.2 (.inr hX)) i hi
  · intro X hX i hi
    rcases List.mem_cons.1 hX with rfl | hX
    · obtain ⟨A, hA, hi⟩ := hi
      exact H.own A (hin hA) i hi
    · exact H.own X (List.mem_append.2 (.inr hX)) i hi
  · refine List.pairwise_cons.2 ⟨fun Y hY i hi hi' => ?_, hp.2.1⟩
    obtain ⟨A, hA, hi⟩ := hi
    exact hp.2.2 A hA Y hY i hi hi'
theorem Rf.RefA.many (h : (RefA b S d).says w) : w.cell? ⟨b, 6, none⟩ = some (.int .i64 d.writes) := by
  obtain ⟨r, hr, H⟩ := RefA.opens h
  obtain ⟨_, _, _, _, _, _, h6⟩ := RM.cellsAt (L := []) (by simpa using H)
  rw [h6, hr.m]
theorem Rf.RefA.fuseCell (h : (RefA b S d).says w) : ∃ u, w.cell? ⟨b, 5, none⟩ = some u ∧ w.frozen? ⟨b, 5, none⟩ = false := by
  obtain ⟨r, hr, H⟩ := RefA.opens h
  obtain ⟨_, _, _, _, _, h5, _⟩ := RM.cellsAt (L := []) (by simpa using H)
  exact ⟨_, h5, frozen_of_row w b 5 _ _ (H.at_ 0 rfl)⟩
theorem Rf.RM.Ok.fusedN {r : RM} (h : r.Ok d) (n : Int) (hn : -9223372036854775808 ≤ n) : (r.fused n).Ok { d with fuse := max n (-1) } :=
  ⟨h.gl, h.sl, h.g, h.s, h.age, h.old, h.wet, ⟨fun h => by show n = max n (-1); have h : 0 ≤ max n (-1) := h; omega, fun h => by show n < 0; have h : max n (-1) < 0 := h; omega, hn⟩, h.m⟩
theorem Rf.RefA.setFuse (h : (RefA b S d).says w) (n : Int) (hn : -9223372036854775808 ≤ n) : Ext S w (w.setCell ⟨b, 5, none⟩ (.int .i64 n)) ∧ (RefA b (Rf.grown S w (w.setCell ⟨b, 5, none⟩ (.int .i64 n))) { d with fuse := max n (-1) }).says (w.setCell ⟨b, 5, none⟩ (.int .i64 n)) := by
  have hlt := RefA.lt h
  obtain ⟨r, hr, H⟩ := RefA.opens h
  have H5 : SH S w (w.setCell ⟨b, 5, none⟩ (.int .i64 n)) ((r.fused n).L b) := by
    have := H.setCell (off := 5) 0 (.int .i64 n) rfl
    exact this
  exact ⟨H5.ext, RefA.closes hlt H5 (hr.fusedN n hn)⟩
end

end Go.Proofs.YtgmeahogdjhejaaGreatDoor
