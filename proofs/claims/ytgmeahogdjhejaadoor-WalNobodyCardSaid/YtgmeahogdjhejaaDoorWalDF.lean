/- The disk of the program: New. -/
import Derived.Test.YtgmeahogdjhejaaDoorWalDE
import Derived.Test.YtgmeahogdjhejaaDoorMake
namespace Go.Proofs.YtgmeahogdjhejaaDoor
set_option linter.unusedVariables false
set_option linter.unusedSimpArgs false
open Go.RowKit

theorem infoz83 : (Tryd.prog.info? 83).map (fun i => (i.zero, i.size, i.bytes)) = some (some St.zero.val, 33, 40) := by kernel_rfl
theorem St.zero_ok : St.zero.Ok := ⟨by simp [St.zero], fun x hx => by simp [St.zero] at hx; omega⟩
theorem flat_rep (n : Nat) : flat (List.replicate n St.zero) = (List.replicate n St.zero.cells).flatten := by
  simp [flat, List.flatMap_replicate]

def GivesDisk (w : World) (d : DS) (e : Ending) (w' : World) : Prop := ∃ b bs bm, e = .returned (.pointer (some ⟨b, 0, none⟩)) ∧ SH (fun _ => False) w w' [DiskA b bs bm d]
/-- A new disk. -/
def DS.new (n : Nat) : DS := ⟨-1, List.replicate n St.zero, [], 0⟩
theorem SH.glue3 {M : Nat → Prop} {w0 w : World} {A B C D : Asr} {L : List Asr} (H : SH M w0 w (A :: B :: C :: L)) (hs : D.says w) (hf : ∀ i, D.fp i → A.fp i ∨ B.fp i ∨ C.fp i) : SH M w0 w (D :: L) := by
  have ha := H.apart
  simp only [List.pairwise_cons, List.mem_cons] at ha
  refine ⟨H.ext, ?_, ?_, ?_, ?_⟩
  · intro E hE; rcases List.mem_cons.1 hE with rfl | hE
    · exact hs
    · exact H.says E (by simp [hE])
  · intro E hE i hi; rcases List.mem_cons.1 hE with rfl | hE
    · rcases hf i hi with h | h | h
      · exact H.lt A (by simp) i h
      · exact H.lt B (by simp) i h
      · exact H.lt C (by simp) i h
    · exact H.lt E (by simp [hE]) i hi
  · intro E hE i hi; rcases List.mem_cons.1 hE with rfl | hE
    · rcases hf i hi with h | h | h
      · exact H.own A (by simp) i h
      · exact H.own B (by simp) i h
      · exact H.own C (by simp) i h
    · exact H.own E (by simp [hE]) i hi
  · refine List.pairwise_cons.2 ⟨fun E hE i hi hi' => ?_, ha.2.2.2⟩
    rcases hf i hi with h | h | h
    · exact ha.1 E (.inr (.inr hE)) i h hi'
    · exact ha.2.1 E (.inr hE) i h hi'
    · exact ha.2.2.1 E hE i h hi'
theorem new_end {n : Nat} {w w' : World} {g1 g2 g3 : Nat} (H : SH (fun _ => False) w w' [pt g3 (.cells #[.int .i64 (-1), .slice (some ⟨g1, 0, none⟩) n n, .map (some g2), .int .i64 0] 58), pt g2 (.map #[] 0), pt g1 (.cells (madeCells St.zero.val.cells (n * 33)) 83)]) : SH (fun _ => False) w w' [DiskA g3 g1 g2 (DS.new n)] := by
  have hflat : madeCells St.zero.val.cells (n * 33) = (flat (DS.new n).sure).toArray := by
    apply Array.toList_inj.1
    rw [madeCells_rep _ _ _ (by rfl)]
    simp only [DS.new, flat_rep]
    rfl
  have hlen : (DS.new n).sure.length = n := by simp [DS.new]
  rw [hflat] at H
  have H1 : SH (fun _ => False) w w' [pt g3 (.cells #[.int .i64 (DS.new n).fuse, .slice (some ⟨g1, 0, none⟩) (DS.new n).sure.length (DS.new n).sure.length, .map (some g2), .int .i64 (DS.new n).writes] 58 (0, 0)), pt g1 (.cells (flat (DS.new n).sure).toArray 83 (0, 0)), pt g2 (.map #[] 0)] := by
    rw [hlen]
    exact H.perm (.cons _ (.swap _ _ _))
  refine H1.glue3 (DiskA.shut (MapRel.empty _ _ _) H1) (fun i hi => ?_)
  simpa [DiskA] using hi
set_option maxRecDepth 100000 in
set_option maxHeartbeats 1000000 in
theorem new_at (sectors : Int) (n : Nat) (hmm : min (max sectors 0) 4096 = (n : Int)) (h : n ≤ 4096) (w : World) : Calls Tryd.prog 7 #[.int .i64 sectors] w (GivesDisk w (DS.new n)) := by
  obtain ⟨i0, hi, hz, hsz, hby⟩ := info_parts infoz83
  have H : SH (fun _ => False) w w [] := SH.nil _ _
  go_enter Tryd.func7, Tryd.ntmps7
  go_wp2_with (first | (refine L_box rfl rfl H rfl rfl ?_; clear H; intro g w H; (try simp only [Act.eval, Array.getD_eq_getD_getElem?, List.getElem?_toArray, List.getElem?_cons_succ, List.getElem?_cons_zero, Option.getD_some, Value.cells] at H); (try simp only [Act.put, List.setIfInBounds_toArray, List.set_cons_succ, List.set_cons_zero, List.getElem_toArray, List.getElem_cons_succ, List.getElem_cons_zero])) | (refine L_make (n := n) rfl rfl H Tryd.underlying55 hi hz rfl rfl (by rw [hby]; omega) (by simp only [maxLen]; omega) ?_; clear H; intro g w H; rw [hsz] at H) | (refine L_makeMap (h := none) rfl rfl H ?_; clear H; intro g w H))
  go_ret
  exact ⟨g, _, _, rfl, new_end H⟩
theorem new_any (sectors : Int) (w : World) : Calls Tryd.prog 7 #[.int .i64 sectors] w (GivesDisk w (DS.new (min sectors.toNat 4096))) :=
  new_at sectors _ (by omega) (by omega) w
end Go.Proofs.YtgmeahogdjhejaaDoor
