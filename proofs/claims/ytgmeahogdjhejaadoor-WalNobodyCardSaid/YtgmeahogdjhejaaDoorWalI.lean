/- sheet.number; bytes.Equal. -/
import Derived.Test.YtgmeahogdjhejaaDoorWalH
namespace Go.Proofs.YtgmeahogdjhejaaDoor
set_option linter.unusedVariables false
set_option linter.unusedSimpArgs false
open Go.RowKit Go.Shelf

theorem bits_or_i64_nat (a b : Nat) (ha : a < 9223372036854775808) (hb : b < 9223372036854775808) : bits .or .i64 (a : Int) (b : Int) = ((a ||| b : Nat) : Int) := by
  have hx : a ||| b < 2 ^ 63 := Nat.or_lt_two_pow (by omega) (by omega)
  have h1 : (BitVec.ofInt 64 (a : Int)).toNat = a := by
    rw [BitVec.ofInt_natCast, BitVec.toNat_ofNat]; exact Nat.mod_eq_of_lt (by omega)
  have h2 : (BitVec.ofInt 64 (b : Int)).toNat = b := by
    rw [BitVec.ofInt_natCast, BitVec.toNat_ofNat]; exact Nat.mod_eq_of_lt (by omega)
  show IntKind.i64.wrap ((BitVec.ofInt 64 (a : Int) ||| BitVec.ofInt 64 (b : Int)).toNat : Int) = _
  rw [BitVec.toNat_or, h1, h2, IntKind.wrap_i64]
  omega
theorem or_byte (x c : Int) (hx : 0 ≤ x ∧ x < 16777216) (hc : 0 ≤ c ∧ c ≤ 255) : bits .or .i64 (x * 256) c = x * 256 + c := by
  obtain ⟨a, rfl⟩ := Int.eq_ofNat_of_zero_le hx.1
  obtain ⟨b, rfl⟩ := Int.eq_ofNat_of_zero_le hc.1
  have h := bits_or_i64_nat (a * 256) b (by omega) (by omega)
  have h2 := Nat.shiftLeft_add_eq_or_of_lt (i := 8) (b := b) (by omega) a
  rw [Nat.shiftLeft_eq] at h2
  have e : ((a : Int) * 256) = ((a * 256 : Nat) : Int) := by omega
  rw [e]
  rw [show (2 : Nat) ^ 8 = 256 from rfl] at h2
  rw [h, ← h2]
  omega
theorem numB_snoc (l : List Int) (x : Int) : numB (l ++ [x]) = numB l * 256 + x := by simp [numB]
theorem numB_lt : ∀ (n : Nat) (l : List Int), l.length = n → (∀ x ∈ l, 0 ≤ x ∧ x ≤ 255) → 0 ≤ numB l ∧ numB l < 256 ^ n
  | 0, l, h, _ => by
    have : l = [] := List.eq_nil_of_length_eq_zero h
    subst this
    simp [numB]
  | n + 1, l, h, hb => by
    have hne : l ≠ [] := by intro h0; rw [h0] at h; simp at h
    obtain ⟨m, x, rfl⟩ : ∃ m x, l = m ++ [x] := ⟨l.dropLast, l.getLast hne, (List.dropLast_concat_getLast hne).symm⟩
    have h1 := numB_lt n m (by simpa using h) (fun y hy => hb y (by simp [hy]))
    have h2 := hb x (by simp)
    rw [numB_snoc, Int.pow_succ]
    omega
theorem pow_le3 (k : Nat) (h : k ≤ 3) : (256 : Int) ^ k ≤ 16777216 := by
  have : k = 0 ∨ k = 1 ∨ k = 2 ∨ k = 3 := by omega
  rcases this with rfl | rfl | rfl | rfl <;> decide
def NbRel (l : List Int) (w : World) (vn vi : Value) (wr : World) : Prop := ∃ k : Nat, vi = .int .i64 (k : Int) ∧ vn = .int .i64 (numB (l.take k)) ∧ k ≤ l.length ∧ wr = w
set_option maxRecDepth 100000 in
set_option maxHeartbeats 1000000 in
theorem number_any (v : Value) (l : List Int) (w : World) (hr : RdS (encInt .u8) 1 w v l) (hb : ∀ x ∈ l, 0 ≤ x ∧ x ≤ 255) (hl : l.length ≤ 4) : Calls Tryd.prog 49 #[v] w fun e w' => e = .returned (.int .i64 (numB l)) ∧ w' = w := by
  obtain ⟨A, cap, rfl, _⟩ := hr.len
  have HR := Lib.hid (And.intro hr hb)
  clear hr hb
  go_enter Tryd.func49, Tryd.ntmps49
  go_wp2
  go_loopw [3, 8] (fun vn vi wr => NbRel l w vn vi wr) (fun _ vi _ => l.length - (intOf vi).toNat)
  case atStart => exact ⟨0, rfl, rfl, Nat.zero_le _, rfl⟩
  case round =>
    obtain ⟨k, rfl, rfl, hk, hwr⟩ := hrel
    replace hwr := hwr.symm
    subst hwr
    obtain ⟨y, hy⟩ : ∃ y, numB (l.take k) = y := ⟨_, rfl⟩
    rw [hy]
    by_cases hkn : k < l.length
    · have hki : (k : Int) < (l.length : Int) := by omega
      obtain ⟨bb, off, rfl, hcs⟩ := byte_cell HR.out.1 hkn
      have hck := hcs k hkn
      have hcb := HR.out.2 l[k] (List.getElem_mem hkn)
      have hyb := numB_lt k (l.take k) (by rw [List.length_take]; omega) (fun x hx => HR.out.2 x (List.mem_of_mem_take hx))
      have hp := pow_le3 k (by omega)
      rw [hy] at hyb
      obtain ⟨c, hc⟩ : ∃ c, l[k] = c := ⟨_, rfl⟩
      rw [hc] at hck hcb
      have hsn : numB (l.take (k + 1)) = y * 256 + c := by
        rw [List.take_add_one, List.getElem?_eq_getElem hkn, hc, ← hy, ← numB_snoc]
        rfl
      have HSN := Lib.hid hsn
      have hor := or_byte y c (by omega) hcb
      have hw1 : IntKind.i64.wrap (y * 256) = y * 256 := by rw [IntKind.wrap_i64]; omega
      have hw2 : IntKind.i64.wrap c = c := by rw [IntKind.wrap_i64]; omega
      clear hsn hc hcs hy hyb hp hcb
      go_wp2
      go_roundw
      case rel => exact ⟨k + 1, by go_num, by rw [HSN.out, ← hor], by omega, rfl⟩
      case measure => simp [intOf]; omega
    · obtain rfl : k = l.length := by omega
      have hq2 : ¬ ((l.length : Int) < (l.length : Int)) := by omega
      rw [List.take_length] at hy
      have HY := Lib.hid hy
      clear hy
      go_wp2
      go_ret
      exact ⟨by rw [HY.out]; rfl, rfl⟩
theorem str_inj {a b : List Int} (ha : ∀ x ∈ a, 0 ≤ x ∧ x ≤ 255) (hb : ∀ x ∈ b, 0 ≤ x ∧ x ≤ 255) (h : (strOfNums a).toList = (strOfNums b).toList) : a = b := by
  rw [ByteArray.toList_eq, ByteArray.toList_eq] at h
  have h1 : a.map (fun n => UInt8.ofNat n.toNat) = b.map (fun n => UInt8.ofNat n.toNat) := by simpa [strOfNums] using h
  apply List.ext_getElem
  · simpa using congrArg List.length h1
  · intro i hi hj
    have h2 : (a.map (fun n => UInt8.ofNat n.toNat))[i]'(by simpa using hi) = (b.map (fun n => UInt8.ofNat n.toNat))[i]'(by simpa using hj) := by simp only [h1]
    simp only [List.getElem_map] at h2
    have h3 := ha a[i] (List.getElem_mem hi)
    have h4 := hb b[i] (List.getElem_mem hj)
    have h5 := congrArg UInt8.toNat h2
    simp only [UInt8.toNat_ofNat'] at h5
    omega
theorem bytesEqual_any (v u : Value) (a b : List Int) (w : World) (hv : RdS (encInt .u8) 1 w v a) (hu : RdS (encInt .u8) 1 w u b) (ha : ∀ x ∈ a, 0 ≤ x ∧ x ≤ 255) (hb : ∀ x ∈ b, 0 ≤ x ∧ x ≤ 255) :
    Calls Tryd.prog 51 #[v, u] w fun e w' => e = .returned (.bool (decide (a = b))) ∧ w' = w := by
  have h1 := run_string (src := 23) (dst := 9) hv Tryd.underlying23 Tryd.underlying5 Tryd.underlying9
  have h2 := run_string (src := 23) (dst := 9) hu Tryd.underlying23 Tryd.underlying5 Tryd.underlying9
  have hd : ((strOfNums a).toList == (strOfNums b).toList) = decide (a = b) := by
    by_cases he : a = b
    · subst he; simp
    · have : (strOfNums a).toList ≠ (strOfNums b).toList := fun h => he (str_inj ha hb h)
      simp [he, this]
  rw [← hd]
  generalize strOfNums a = s1 at *
  generalize strOfNums b = s2 at *
  clear hd hv hu ha hb
  go_enter Tryd.func51, Tryd.ntmps51
  go_wp2
  go_ret
  exact ⟨rfl, rfl⟩
end Go.Proofs.YtgmeahogdjhejaaDoor
