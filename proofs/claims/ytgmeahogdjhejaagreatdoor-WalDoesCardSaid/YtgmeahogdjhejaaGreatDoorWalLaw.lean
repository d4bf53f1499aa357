/- Records in sectors: the plain law. The sum, what is laid, what is lifted. No program in sight. -/
import Derived.Test.YtgmeahogdjhejaaGreatDoorTabLaw
import Derived.Laws.Closers25b
namespace Go.Proofs.YtgmeahogdjhejaaGreatDoor
set_option linter.unusedVariables false
set_option linter.unusedSimpArgs false
open Go.RowKit

/-- A bit more in the sum; a byte more. -/
def crcBit (x : Int) : Int := bits .xor .u32 (x / 2) (IntKind.u32.wrap (bits .and .u32 x 1 * 3988292384))
def crcIt : Nat → Int → Int
  | 0, x => x
  | n + 1, x => crcBit (crcIt n x)
def crcByte (x c : Int) : Int := crcIt 8 (bits .xor .u32 x c)
def crcRun (x : Int) (b : List Int) : Int := b.foldl crcByte x
def U32 (x : Int) : Prop := 0 ≤ x ∧ x ≤ 4294967295
theorem crcBit_rng (x : Int) : U32 (crcBit x) := ⟨bits_lo_u32 _ _ _, bits_hi_u32 _ _ _⟩
theorem crcByte_rng (x c : Int) : U32 (crcByte x c) := crcBit_rng _
theorem crcRun_rng {x : Int} (h : U32 x) (b : List Int) : U32 (crcRun x b) := by
  unfold crcRun
  induction b generalizing x with
  | nil => exact h
  | cons c b ih => exact ih (crcByte_rng x c)
def not32 (x : Int) : Int := bits .xor .u32 IntKind.u32.max x
theorem not32_rng (x : Int) : U32 (not32 x) := ⟨bits_lo_u32 _ _ _, bits_hi_u32 _ _ _⟩
def crcMore (s : Int) (b : List Int) : Int := not32 (crcRun (not32 s) b)
theorem crcMore_rng (s : Int) (b : List Int) : U32 (crcMore s b) := not32_rng _
/-- The sum of two parts. -/
def crcTwo (a b : List Int) : Int := crcMore (crcMore 0 a) b
theorem crcTwo_rng (a b : List Int) : U32 (crcTwo a b) := crcMore_rng _ b

def be4 (n : Int) : List Int := [n / 16777216 % 256, n / 65536 % 256, n / 256 % 256, n % 256]
theorem be4_len (n : Int) : (be4 n).length = 4 := rfl
theorem be8_drop4 (n : Int) : (be8 n).drop 4 = be4 n := rfl
theorem be8_drop6 (n : Int) : (be8 n).drop 6 = be2 n := rfl
def markP (e q : Int) : List Int := be4 e ++ be4 q
theorem markP_len (e q : Int) : (markP e q).length = 8 := rfl
def countP (n : Nat) : Nat := (n + 5) / 24 + 1
def matter0 (b : List Int) : List Int := be2 b.length ++ b
def matterP (e q : Int) (b : List Int) : List Int := matter0 b ++ be4 (crcTwo (markP e q) (matter0 b))
theorem matterP_len (e q : Int) (b : List Int) : (matterP e q b).length = b.length + 6 := by
  unfold matterP matter0
  simp [be2, be4]
/-- One sector. -/
def sectP (m d : List Int) (i : Nat) : List Int := ((List.range 24).map fun k => d.getD (24 * i + k) 0) ++ m
theorem sectP_len {m : List Int} (h : m.length = 8) (d : List Int) (i : Nat) : (sectP m d i).length = 32 := by simp [sectP, h]
def layP (e q : Int) (b : List Int) : List Int := (List.range (countP b.length)).flatMap (sectP (markP e q) (matterP e q b))
theorem flatR_len {f : Nat → List Int} {k : Nat} (h : ∀ i, (f i).length = k) : ∀ n, ((List.range n).flatMap f).length = n * k
  | 0 => by simp
  | n + 1 => by rw [List.range_succ, List.flatMap_append, List.length_append, flatR_len h n]; simp [h, Nat.add_mul]
theorem flatR_at {f : Nat → List Int} {k : Nat} (h : ∀ i, (f i).length = k) : ∀ n i j, i < n → j < k → ((List.range n).flatMap f)[i * k + j]? = (f i)[j]?
  | 0, i, j, hi, _ => by omega
  | n + 1, i, j, hi, hj => by
    rw [List.range_succ, List.flatMap_append]
    have hl := flatR_len h n
    by_cases hin : i < n
    · rw [List.getElem?_append_left (by rw [hl]; calc i * k + j < i * k + k := by omega
          _ = (i + 1) * k := by rw [Nat.add_mul]; omega
          _ ≤ n * k := Nat.mul_le_mul_right k hin), flatR_at h n i j hin hj]
    · obtain rfl : i = n := by omega
      rw [List.getElem?_append_right (by rw [hl]; omega), hl, Nat.add_sub_cancel_left]
      simp
theorem layP_len (e q : Int) (b : List Int) : (layP e q b).length = 32 * countP b.length := by
  unfold layP
  rw [flatR_len (fun i => sectP_len (markP_len e q) _ i), Nat.mul_comm]
def numB (l : List Int) : Int := l.foldl (fun a x => a * 256 + x) 0
theorem numB_be4 {n : Int} (h : U32 n) : numB (be4 n) = n := by
  obtain ⟨h1, h2⟩ := h
  unfold numB be4
  simp only [List.foldl_cons, List.foldl_nil]
  omega
theorem numB_be2 {n : Int} (h : 0 ≤ n ∧ n ≤ 65535) : numB (be2 n) = n := by
  unfold numB be2
  simp only [List.foldl_cons, List.foldl_nil]
  omega
/-- The bytes of a record of that length. -/
def unlayP (s : List Int) (long : Nat) : List Int := (List.range long).map fun i => s.getD (32 * ((i + 2) / 24) + (i + 2) % 24) 0
def longP (s : List Int) : Nat := (numB (s.take 2)).toNat
def epochP (s : List Int) : Int := numB ((s.drop 24).take 4)
def seqP (s : List Int) : Int := numB ((s.drop 28).take 4)
structure Rec where
  epoch : Int
  seq : Int
  bytes : List Int
  sectors : Nat
/-- The record that sectors begin with. -/
def liftP (s : List Int) : Option Rec :=
  if s.length < 32 then none
  else if s.length < 32 * countP (longP s) then none
  else if layP (epochP s) (seqP s) (unlayP s (longP s)) = s.take (32 * countP (longP s)) then some ⟨epochP s, seqP s, unlayP s (longP s), countP (longP s)⟩
  else none
theorem lay_byte (e q : Int) (b : List Int) (rest : List Int) {i j : Nat} (hi : i < countP b.length) (hj : j < 32) : (layP e q b ++ rest)[32 * i + j]? = (sectP (markP e q) (matterP e q b) i)[j]? := by
  have h1 := flatR_at (f := sectP (markP e q) (matterP e q b)) (k := 32) (fun i => sectP_len (markP_len e q) _ i) (countP b.length) i j hi hj
  have h2 := layP_len e q b
  rw [List.getElem?_append_left (by omega), Nat.mul_comm]
  exact h1
theorem sect_data {m d : List Int} {i j : Nat} (hj : j < 24) : (sectP m d i)[j]? = some (d.getD (24 * i + j) 0) := by
  unfold sectP
  rw [List.getElem?_append_left (by simp [hj]), List.getElem?_map, List.getElem?_range hj]
  rfl
theorem sect_mark {m d : List Int} {i j : Nat} : (sectP m d i)[24 + j]? = m[j]? := by
  unfold sectP
  rw [List.getElem?_append_right (by simp)]
  simp
theorem matter_at (e q : Int) (b : List Int) {i : Nat} (hi : i < b.length) : (matterP e q b).getD (i + 2) 0 = b[i] := by
  unfold matterP matter0 be2
  simp only [List.cons_append, List.nil_append, List.getD_cons_succ]
  rw [List.getD_eq_getElem?_getD, List.getElem?_append_left hi, List.getElem?_eq_getElem hi]
  rfl
theorem count_pos (n : Nat) : 0 < countP n := by unfold countP; omega
/-- What was laid is lifted. -/
theorem lift_lay {e q : Int} {b : List Int} (he : U32 e) (hq : U32 q) (hb : b.length ≤ 65535) (rest : List Int) : liftP (layP e q b ++ rest) = some ⟨e, q, b, countP b.length⟩ := by
  have hc := count_pos b.length
  have hlen : (layP e q b ++ rest).length = 32 * countP b.length + rest.length := by rw [List.length_append, layP_len]
  have h0 : ∀ j, j < 32 → (layP e q b ++ rest)[j]? = (sectP (markP e q) (matterP e q b) 0)[j]? := fun j hj => by
    have := lay_byte e q b rest (i := 0) hc hj
    rwa [Nat.mul_zero, Nat.zero_add] at this
  have htake2 : (layP e q b ++ rest).take 2 = be2 b.length := by
    apply List.ext_getElem?
    intro j
    rw [List.getElem?_take]
    by_cases hj : j < 2
    · rw [if_pos hj, h0 j (by omega), sect_data (by omega)]
      match j, hj with
      | 0, _ => rfl
      | 1, _ => rfl
    · rw [if_neg hj]
      simp [be2]
      omega
  have hmark : ∀ (k : Nat) (l : List Int), l.length = 4 → (∀ j, j < 4 → (markP e q)[k + j]? = l[j]?) → ((layP e q b ++ rest).drop (24 + k)).take 4 = l ∨ 4 < k := fun k l hl h => by
    by_cases hk : 4 < k
    · exact .inr hk
    · left
      apply List.ext_getElem?
      intro j
      rw [List.getElem?_take]
      by_cases hj : j < 4
      · rw [if_pos hj, List.getElem?_drop, h0 _ (by omega), Nat.add_assoc, sect_mark, h j hj]
      · rw [if_neg hj, List.getElem?_eq_none (by omega)]
  have he4 : epochP (layP e q b ++ rest) = e := by
    unfold epochP
    rw [(hmark 0 (be4 e) rfl (fun j hj => by unfold markP; rw [Nat.zero_add, List.getElem?_append_left (by rw [be4_len]; omega)])).resolve_right (by omega), numB_be4 he]
  have hq4 : seqP (layP e q b ++ rest) = q := by
    unfold seqP
    rw [(hmark 4 (be4 q) rfl (fun j hj => by unfold markP; rw [List.getElem?_append_right (by rw [be4_len]; omega), be4_len, Nat.add_sub_cancel_left])).resolve_right (by omega), numB_be4 hq]
  have hl : longP (layP e q b ++ rest) = b.length := by
    unfold longP
    rw [htake2, numB_be2 (by omega), Int.toNat_natCast]
  have hb2 : unlayP (layP e q b ++ rest) b.length = b := by
    apply List.ext_getElem?
    intro i
    unfold unlayP
    rw [List.getElem?_map]
    by_cases hi : i < b.length
    · rw [List.getElem?_range hi, Option.map_some, List.getD_eq_getElem?_getD, lay_byte e q b rest (by unfold countP; omega) (by omega), sect_data (by omega), Option.getD_some, show 24 * ((i + 2) / 24) + (i + 2) % 24 = i + 2 by omega, matter_at e q b hi, List.getElem?_eq_getElem hi]
    · rw [List.getElem?_eq_none (by simp; omega), List.getElem?_eq_none (by omega)]
      rfl
  unfold liftP
  rw [hl, he4, hq4, hb2, if_neg (by omega), if_neg (by omega), if_pos]
  rw [← layP_len e q b, List.take_left]
/-- Where nothing was written nothing is lifted. -/
theorem lay_zero : layP 0 0 [] ≠ List.replicate 32 0 := by
  intro h
  have h1 : (layP 0 0 []).getD 2 0 = 0 := by rw [h]; rfl
  have h2 : (layP 0 0 []).getD 2 0 ≠ 0 := by decide +kernel
  exact h2 h1
theorem lift_zero (n : Nat) : liftP (List.replicate n 0) = none := by
  unfold liftP
  by_cases h : n < 32
  · rw [if_pos (by rw [List.length_replicate]; exact h)]
  · have hl : longP (List.replicate n 0) = 0 := by
      unfold longP
      rw [List.take_replicate, Nat.min_eq_left (by omega)]
      rfl
    have he : epochP (List.replicate n 0) = 0 := by
      unfold epochP
      rw [List.drop_replicate, List.take_replicate, Nat.min_eq_left (by omega)]
      rfl
    have hq : seqP (List.replicate n 0) = 0 := by
      unfold seqP
      rw [List.drop_replicate, List.take_replicate, Nat.min_eq_left (by omega)]
      rfl
    rw [hl, he, hq, if_neg (by rw [List.length_replicate]; omega), if_neg (by rw [List.length_replicate]; unfold countP; omega), if_neg]
    rw [List.take_replicate, show min (32 * countP 0) n = 32 by unfold countP; omega]
    exact lay_zero
end Go.Proofs.YtgmeahogdjhejaaGreatDoor
