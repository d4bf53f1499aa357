/- Sums: crc.one, crc.More; sheet.Count. -/
import Derived.Test.YtgmeahogdjhejaaDoorWalO
import Derived.Test.YtgmeahogdjhejaaDoorWalLaw
namespace Go.Proofs.YtgmeahogdjhejaaDoor
set_option linter.unusedVariables false
set_option linter.unusedSimpArgs false
open Go.RowKit

theorem byte_cell {w : World} {A : Option Addr} {n c : Nat} {xs : List Int} (h : RdS (encInt .u8) 1 w (.slice A n c) xs) {j : Nat} (hj : j < xs.length) : ∃ bb off, A = some ⟨bb, off, none⟩ ∧ ∀ j (hj : j < xs.length), w.cell? ⟨bb, off + j, none⟩ = some (.int .u8 xs[j]) := by
  obtain ⟨bb, off, cs, T, fr, hA, hbb, _⟩ := h.cell hj
  refine ⟨bb, off, hA, fun j hj => ?_⟩
  obtain ⟨bb2, off2, cs2, T2, fr2, hA2, hbb2, hcs⟩ := h.cell hj
  rw [hA] at hA2
  cases hA2
  rw [cell_of_row w bb _ cs2 T2 fr2 hbb2]
  have := hcs 0 (by omega)
  rw [Nat.mul_one, Nat.add_zero] at this
  rw [this]; rfl
def OneRel (x c : Int) (w : World) (vx vi : Value) (wr : World) : Prop := ∃ k : Nat, vi = .int .i64 (k : Int) ∧ vx = .int .u32 (crcIt k (bits .xor .u32 x c)) ∧ k ≤ 8 ∧ wr = w
set_option maxRecDepth 100000 in
set_option maxHeartbeats 1000000 in
theorem crcOne_any (x c : Int) (w : World) (hc : 0 ≤ c ∧ c ≤ 255) : Calls Tryd.prog 78 #[.int .u32 x, .int .u8 c] w fun e w' => e = .returned (.int .u32 (crcByte x c)) ∧ w' = w := by
  have hw : IntKind.u32.wrap c = c := by rw [IntKind.wrap_u32]; omega
  go_enter Tryd.func78, Tryd.ntmps78
  go_wp2
  go_loopw [0, 10] (fun vx vi wr => OneRel x c w vx vi wr) (fun _ vi _ => 8 - (intOf vi).toNat)
  case atStart => exact ⟨0, rfl, rfl, by omega, rfl⟩
  case round =>
    obtain ⟨k, rfl, rfl, hk, rfl⟩ := hrel
    obtain ⟨y, hy⟩ : ∃ y, crcIt k (bits .xor .u32 x c) = y := ⟨_, rfl⟩
    rw [hy]
    have HY := Lib.hid hy
    clear hy
    by_cases hkn : k < 8
    · have hki : (k : Int) < 8 := by omega
      go_wp2
      go_roundw
      case rel => exact ⟨k + 1, by go_num, by show _ = Value.int .u32 (crcBit (crcIt k (bits .xor .u32 x c))); rw [HY.out]; unfold crcBit; simp [IntKind.wrap_u32], by omega, rfl⟩
      case measure => simp [intOf]; omega
    · obtain rfl : k = 8 := by omega
      have hq2 : ¬ (((8 : Nat) : Int) < 8) := by omega
      go_wp2
      go_ret
      exact ⟨by unfold crcByte; rw [HY.out]; simp, rfl⟩
def MoreRel (x : Int) (b : List Int) (w : World) (vx vi : Value) (wr : World) : Prop := ∃ k : Nat, vi = .int .i64 (k : Int) ∧ vx = .int .u32 (crcRun x (b.take k)) ∧ k ≤ b.length ∧ wr = w
set_option maxRecDepth 100000 in
set_option maxHeartbeats 1000000 in
theorem crcMore_any (s : Int) (v : Value) (b : List Int) (w : World) (hr : RdS (encInt .u8) 1 w v b) (hb : ∀ x ∈ b, 0 ≤ x ∧ x ≤ 255) (hl : b.length ≤ 1000000000) : Calls Tryd.prog 70 #[.int .u32 s, v] w fun e w' => e = .returned (.int .u32 (crcMore s b)) ∧ w' = w := by
  obtain ⟨A, cap, rfl, _⟩ := hr.len
  have HR := Lib.hid (And.intro hr hb)
  clear hr hb
  go_enter Tryd.func70, Tryd.ntmps70
  go_wp2
  go_loopw [5, 12] (fun vx vi wr => MoreRel (not32 s) b w vx vi wr) (fun _ vi _ => b.length - (intOf vi).toNat)
  case atStart => exact ⟨0, rfl, rfl, by omega, rfl⟩
  case round =>
    obtain ⟨k, rfl, rfl, hk, rfl⟩ := hrel
    obtain ⟨y, hy⟩ : ∃ y, crcRun (not32 s) (b.take k) = y := ⟨_, rfl⟩
    rw [hy]
    have HY := Lib.hid hy
    clear hy
    by_cases hkn : k < b.length
    · have hki : (k : Int) < (b.length : Int) := by omega
      obtain ⟨bb, off, rfl, hcs⟩ := byte_cell HR.out.1 hkn
      have hck := hcs k hkn
      have hcb := HR.out.2 b[k] (List.getElem_mem hkn)
      obtain ⟨c, hc⟩ : ∃ c, b[k] = c := ⟨_, rfl⟩
      rw [hc] at hck hcb
      have HC := Lib.hid hc
      have hone := fun {W : World} => crcOne_any y c W hcb
      clear hc hcs
      go_wp2_with (first
        | (go_at_call 78; refine hone.mono ?_; rintro e w9 ⟨rfl, rfl⟩))
      go_roundw
      case rel => exact ⟨k + 1, by go_num, by rw [List.take_add_one, List.getElem?_eq_getElem hkn, HC.out]; unfold crcRun at HY ⊢; rw [Option.toList_some, List.foldl_append, HY.out]; rfl, by omega, rfl⟩
      case measure => simp [intOf]; omega
    · obtain rfl : k = b.length := by omega
      have hq2 : ¬ ((b.length : Int) < (b.length : Int)) := by omega
      go_wp2
      go_ret
      exact ⟨by unfold crcMore not32 at *; rw [← HY.out, List.take_length]; rfl, rfl⟩
set_option maxRecDepth 100000 in
theorem count_any (n : Nat) (hn : n ≤ 65535) (w : World) : Calls Tryd.prog 39 #[.int .i64 (n : Int)] w fun e w' => e = .returned (.int .i64 (countP n : Int)) ∧ w' = w := by
  have h1 : ¬ (n : Int) < 0 := by omega
  have h2 : ¬ 65535 < (n : Int) := by omega
  have h3 : IntKind.i64.wrap ((n : Int) + 6) = (n : Int) + 6 := by rw [IntKind.wrap_i64]; omega
  have h4 : IntKind.i64.wrap ((n : Int) + 6 - 1) = (n : Int) + 5 := by rw [IntKind.wrap_i64]; omega
  go_enter Tryd.func39, Tryd.ntmps39
  go_wp2
  go_ret
  refine ⟨?_, rfl⟩
  unfold countP
  show Ending.returned _ = _
  simp only [IntKind.wrap_i64]
  congr 2
theorem count_big (n : Int) (hn : 65535 < n) (w : World) : Calls Tryd.prog 39 #[.int .i64 n] w fun e w' => e = .returned (.int .i64 0) ∧ w' = w := by
  have h1 : ¬ n < 0 := by omega
  go_enter Tryd.func39, Tryd.ntmps39
  go_wp2
  go_ret
  exact ⟨rfl, rfl⟩
end Go.Proofs.YtgmeahogdjhejaaDoor
