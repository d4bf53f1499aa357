/- The law's fixed fact: awake answers true (the plain part by the kernel). -/
import Derived.Test.YtgmeahogdjhejaaDoorWalAw
import Derived.Test.YtgmeahogdjhejaaDoorWalLw
namespace Go.Proofs.YtgmeahogdjhejaaDoor
set_option linter.unusedVariables false
set_option linter.unusedSimpArgs false
open Go.RowKit Go.Shelf

def wd0 : DS := DS.new 30
def wd1 : DS := (formatP wd0 3 10 [115]).1
def wj1 : JS := ⟨3, 10, 1, 0, 0, 0, false, false⟩
def wr2 := checkpointP wd1 wj1 [116]
def wr3 := appendP wr2.1 wr2.2.1 [97]
def wr4 := commitP wr3.1 wr3.2.1
def wr5 := appendP wr4.1 wr4.2.1 [98]
def wd6 : DS := wr5.1.crash 0 (-1) 0
theorem prod3 {α β γ : Type} (r : α × β × γ) {c : γ} (h : r.2.2 = c) : r = (r.1, r.2.1, c) := by rw [← h]
theorem aw16 : Aw16 wd0 wd1 wr2.1 wr3.1 wr4.1 wr5.1 wd6 wj1 wr2.2.1 wr3.2.1 wr4.2.1 wr5.2.1 ⟨3, 10, 2, 1, 1, 1, false, false⟩ := by
  have b := bytes1
  have f0 : wd0.Fine 0 := DS.Fine.new 30 (by omega)
  have l0 : wd0.sure.length = 30 := by kernel_rfl
  have f1 := format_fine f0 3 10 (b 115 (by omega))
  have l1 : wd1.sure.length = 30 := f1.2.trans l0
  have m1 : mayP wd1.sure.length 3 10 := by rw [l1]; exact ⟨by decide, by decide, by decide, by decide, by decide⟩
  have k1 : wj1.Ok wd1.sure.length := ⟨m1, ⟨by decide, by decide⟩, ⟨by decide, by decide⟩, by decide, by decide⟩
  have f2 : wr2.1.Fine _ ∧ wr2.1.sure.length = 30 ∧ wr2.2.1.Ok 30 := checkpoint_ok f1.1 l1 (l1 ▸ k1) (b 116 (by omega))
  have f3 : wr3.1.Fine _ ∧ wr3.1.sure.length = 30 ∧ wr3.2.1.Ok 30 := append_ok f2.1 f2.2.1 f2.2.2 (b 97 (by omega))
  have f4 : wr4.1.Fine _ ∧ wr4.1.sure.length = 30 ∧ wr4.2.1.Ok 30 := commit_ok f3.1 f3.2.1 f3.2.2
  have f5 : wr5.1.Fine _ ∧ wr5.1.sure.length = 30 ∧ wr5.2.1.Ok 30 := append_ok f4.1 f4.2.1 f4.2.2 (b 98 (by omega))
  have f6 : wd6.Fine _ := f5.1.crash 0 (-1) 0
  have l6 : wd6.sure.length = 30 := (crash_len _ _ _ _).trans f5.2.1
  have up : ∀ {d : DS} {W : Int}, d.Fine W → W ≤ 20000 → d.Fine 20000 := fun h hw => h.mono hw
  exact {
    f0 := up f0 (by omega)
    f1 := up f1.1 (by omega)
    f2 := up f2.1 (by omega)
    f3 := up f3.1 (by omega)
    f4 := up f4.1 (by omega)
    f5 := up f5.1 (by omega)
    f6 := up f6 (by omega)
    m1 := m1
    m6 := by rw [l6]; exact ⟨by decide, by decide, by decide, by decide, by decide⟩
    k1 := k1
    k2 := by rw [f2.2.1]; exact f2.2.2
    k3 := by rw [f3.2.1]; exact f3.2.2
    k4 := by rw [f4.2.1]; exact f4.2.2
    fo := Prod.ext rfl (show (formatP wd0 3 10 [115]).2 = 0 by kernel_rfl)
    o1 := by kernel_rfl
    a1 := rfl
    a2 := prod3 _ (show wr2.2.2 = 0 by kernel_rfl)
    a3 := prod3 _ (show wr3.2.2 = 0 by kernel_rfl)
    a4 := prod3 _ (show wr4.2.2 = 0 by kernel_rfl)
    a5 := prod3 _ (show wr5.2.2 = 0 by kernel_rfl)
    cr := rfl
    o6 := by kernel_rfl
    e6 := rfl
    q6 := rfl
    p6 := rfl
    l6 := rfl
    u6 := rfl }
theorem awake_any (w0 : World) : Calls Tryd.prog 14 #[] w0 fun e w' => e = .returned (.bool true) ∧ Ext0 w0 w' :=
  awake_walk aw16 (fun w => new_any 30 w) w0
end Go.Proofs.YtgmeahogdjhejaaDoor
