/- WalRoom: the walk. -/
import Derived.Test.YtgmeahogdjhejaaGreatDoorWalAwx
import Derived.Test.YtgmeahogdjhejaaGreatDoorWalK
namespace Go.Proofs.YtgmeahogdjhejaaGreatDoor
set_option linter.unusedVariables false
set_option linter.unusedSimpArgs false
open Go.RowKit Go.Shelf

set_option maxHeartbeats 1000000 in
theorem few_b (v : Value) (xs : List Int) (k : Nat) (hk : k ≤ 1000) (w : World) (hr : RdS (encInt .u8) 1 w v xs) : Calls Tryz.prog 7 #[v, .int .i64 (k : Int)] w fun e w' => (∃ u, e = .returned u ∧ RdS (encInt .u8) 1 w u (xs.take k)) ∧ w' = w := by
  obtain ⟨A, cap, rfl, hc⟩ := hr.len
  by_cases hl : k < xs.length
  · have hl' : (k : Int) < (xs.length : Int) := by omega
    obtain ⟨b, off, _, _, _, rfl, _, _⟩ := hr.cell (j := 0) (by omega)
    have hcc : k ≤ cap := by omega
    have hc0 : ¬ cap = 0 := by omega
    have h2 := sub_rd hr 0 k cap (by omega) hcc
    rw [List.drop_zero, Nat.add_zero] at h2
    have HR := Lib.hid h2
    clear hr h2
    go_enter Tryz.func7, Tryz.ntmps7
    go_wp2
    go_ret
    exact ⟨⟨_, rfl, by simpa using HR.out⟩, rfl⟩
  · have hl' : ¬ (k : Int) < (xs.length : Int) := by omega
    have HR := Lib.hid hr
    clear hr
    go_enter Tryz.func7, Tryz.ntmps7
    go_wp2
    go_ret
    exact ⟨⟨_, rfl, by rw [List.take_of_length_le (by omega)]; exact HR.out⟩, rfl⟩
def RoomR (b bs bm jb n : Nat) (w0 : World) (v13 : Value) (wr : World) : Prop :=
  ∃ (i : Nat) (d : DS) (j : JS) (W : Int), v13 = .int .i64 (i : Int) ∧ i ≤ 40 ∧ Rm n d j W ∧ j.Ok d.sure.length ∧ d.sure.length = 6 + n ∧ W ≤ 2 + 30 * i ∧ j.seq ≤ i ∧ SH (fun _ => False) w0 wr [JD b bs bm jb d j]
theorem zeros_bytes (k : Nat) : ∀ x ∈ List.replicate k (0 : Int), 0 ≤ x ∧ x ≤ 255 := fun x hx => by rw [(List.mem_replicate.1 hx).2]; omega
end Go.Proofs.YtgmeahogdjhejaaGreatDoor
