/- The law's fixed fact: awake answers true. -/
import Derived.Test.YtjdfeagjbhdceaaLaw14B
namespace Go.Proofs.Ytjdfeagjbhdceaa
set_option linter.unusedVariables false
set_option linter.unusedSimpArgs false
open Go.RowKit

def ax7 : List Int := List.replicate 32 7
def ax8 : List Int := List.replicate 32 8
def ax0 : List Int := List.replicate 32 0
def aw0 : DS := DS.new 5
def aw1 : DS := ⟨-1, List.replicate 5 St.zero, [(3, ⟨ax7, 1⟩)], 1⟩
def aw2 : DS := ⟨-1, List.replicate 5 St.zero, [(3, ⟨ax7, 1⟩), (1, ⟨ax8, 2⟩)], 2⟩
def aw3 : DS := ⟨-1, [St.zero, ⟨ax8, 2⟩, St.zero, ⟨ax7.take 5 ++ ax0.drop 5, 0⟩, St.zero], [], 2⟩
theorem rep_bytes (n : Nat) (c : Int) (h : 0 ≤ c ∧ c ≤ 255) : ∀ x ∈ List.replicate n c, 0 ≤ x ∧ x ≤ 255 := fun x hx => by rw [(List.mem_replicate.1 hx).2]; exact h
theorem aw_w1 : aw0.writeR 3 ax7 = (aw1, 0) := rfl
theorem aw_w2 : aw1.writeR 1 ax8 = (aw2, 0) := rfl
theorem aw_sorted : sortedKeys aw2.pend = [1, 3] := by
  have h : aw2.pend.map (·.1) = [3, 1] := rfl
  unfold sortedKeys
  rw [h]
  simp [List.mergeSort, List.MergeSort.Internal.splitInTwo, List.merge]
theorem aw_c : aw2.crash 1 1 5 = aw3 := by
  have h : crashTo aw2 1 1 5 2 = aw3.sure := by
    rw [crashTo_succ, crashTo_succ, aw_sorted]
    rfl
  unfold DS.crash
  have h2 : aw2.pend.length = 2 := rfl
  rw [h2, h]
  rfl
theorem aw0_fine : aw0.Fine 10 := (DS.Fine.new 5 (by omega)).mono (by omega)
theorem aw1_fine : aw1.Fine 11 := by have := aw0_fine.writeR (i := 3) (rep_bytes 32 7 (by omega)); rw [show List.replicate 32 (7 : Int) = ax7 from rfl, aw_w1] at this; exact this
theorem aw2_fine : aw2.Fine 12 := by have := aw1_fine.writeR (i := 1) (rep_bytes 32 8 (by omega)); rw [show List.replicate 32 (8 : Int) = ax8 from rfl, aw_w2] at this; exact this
theorem aw3_fine : aw3.Fine 12 := by have := aw2_fine.crash 1 1 5; rw [aw_c] at this; exact this
theorem aw : Aw aw0 aw1 aw2 aw3 ax7 ax8 ax0 where
  f0 := aw0_fine
  f1 := aw1_fine
  f2 := aw2_fine
  f3 := aw3_fine
  l7 := rfl
  l8 := rfl
  l0 := rfl
  w1 := aw_w1
  w2 := aw_w2
  p := rfl
  c := aw_c
  r1 := rfl
  r3 := rfl
  s1 := rfl
  s3 := rfl
  ws := rfl
  sz := rfl
theorem awake_any (w0 : World) : Calls Try.prog 30 #[] w0 fun e w' => e = .returned (.bool true) ∧ Ext0 w0 w' :=
  awake_walk _ _ _ _ _ _ _ aw (fun w => new_any 5 w) (fun w => full_row 7 _ rfl w) (fun w => full_row 8 _ rfl w) (fun w => full_row 0 _ rfl w) w0
end Go.Proofs.Ytjdfeagjbhdceaa
