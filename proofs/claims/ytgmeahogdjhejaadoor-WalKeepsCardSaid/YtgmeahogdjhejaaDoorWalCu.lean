/- Journals: the plain law of crashes, fourth part: a checkpoint's sector of which pieces are of two records is told by its check. -/
import Derived.Test.YtgmeahogdjhejaaDoorWalCt
namespace Go.Proofs.YtgmeahogdjhejaaDoor
set_option linter.unusedVariables false
set_option linter.unusedSimpArgs false
open Go.RowKit Go.Shelf

def bitN (n : Nat) : Nat := n / 2 ^^^ (if n % 2 = 1 then 3988292384 else 0)
def itN : Nat → Nat → Nat
  | 0, x => x
  | n + 1, x => bitN (itN n x)
def byteN (s c : Nat) : Nat := itN 8 (s ^^^ c)
def runN (s : Nat) (l : List Nat) : Nat := l.foldl byteN s
theorem bitN_lt {n : Nat} (h : n < 4294967296) : bitN n < 4294967296 := by
  unfold bitN
  exact Nat.xor_lt_two_pow (n := 32) (by omega) (by split <;> omega)
theorem itN_lt {n : Nat} (h : n < 4294967296) : ∀ k, itN k n < 4294967296
  | 0 => h
  | k + 1 => bitN_lt (itN_lt h k)
theorem byteN_lt {s c : Nat} (hs : s < 4294967296) (hc : c < 256) : byteN s c < 4294967296 := itN_lt (Nat.xor_lt_two_pow (n := 32) hs (by omega)) 8
theorem crcIt_nat {n : Nat} (h : n < 4294967296) : ∀ k, crcIt k (n : Int) = (itN k n : Int)
  | 0 => rfl
  | k + 1 => by
    show crcBit (crcIt k (n : Int)) = _
    rw [crcIt_nat h k, crcBit_nat _ (itN_lt h k)]
    rfl
theorem crcByte_nat {s c : Nat} (hs : s < 4294967296) (hc : c < 256) : crcByte (s : Int) (c : Int) = (byteN s c : Int) := by
  unfold crcByte byteN
  rw [u32_xor_nat s c hs (by omega), crcIt_nat (Nat.xor_lt_two_pow (n := 32) hs (by omega))]
theorem crcRun_nat : ∀ (l : List Nat) (s : Nat), s < 4294967296 → (∀ c ∈ l, c < 256) → crcRun (s : Int) (l.map fun (c : Nat) => (c : Int)) = (runN s l : Int) ∧ runN s l < 4294967296
  | [], s, hs, _ => ⟨rfl, hs⟩
  | c :: l, s, hs, hl => by
    have hc := hl c List.mem_cons_self
    have ih := crcRun_nat l (byteN s c) (byteN_lt hs hc) (fun d hd => hl d (List.mem_cons_of_mem _ hd))
    refine ⟨?_, ih.2⟩
    show crcRun (crcByte (s : Int) (c : Int)) _ = _
    rw [crcByte_nat hs hc]
    exact ih.1
theorem xor_half (a b : Nat) : (a ^^^ b) / 2 = a / 2 ^^^ b / 2 := by
  have h : (a ^^^ b) >>> 1 = (a >>> 1) ^^^ (b >>> 1) := Nat.shiftRight_xor_distrib
  rw [Nat.shiftRight_eq_div_pow, Nat.shiftRight_eq_div_pow, Nat.shiftRight_eq_div_pow, show (2 : Nat) ^ 1 = 2 from rfl] at h
  exact h
theorem xor_odd (a b : Nat) : (a ^^^ b) % 2 = if a % 2 = b % 2 then 0 else 1 := by
  have h : (a ^^^ b) % 2 ^ 1 = (a % 2 ^ 1) ^^^ (b % 2 ^ 1) := Nat.xor_mod_two_pow
  rw [show (2 : Nat) ^ 1 = 2 from rfl] at h
  rw [h]
  rcases (show a % 2 = 0 ∨ a % 2 = 1 by omega) with ha | ha <;> rcases (show b % 2 = 0 ∨ b % 2 = 1 by omega) with hb | hb <;> rw [ha, hb] <;> rfl
theorem bitN_xor (a b : Nat) : bitN (a ^^^ b) = bitN a ^^^ bitN b := by
  unfold bitN
  rw [xor_half, xor_odd]
  rcases (show a % 2 = 0 ∨ a % 2 = 1 by omega) with ha | ha <;> rcases (show b % 2 = 0 ∨ b % 2 = 1 by omega) with hb | hb <;> rw [ha, hb]
  · simp
  · simp [Nat.xor_assoc]
  · simp only [if_true, if_false, Nat.xor_zero, show ¬ ((1 : Nat) = 0) by decide, show ¬ ((0 : Nat) = 1) by decide]
    rw [Nat.xor_assoc, Nat.xor_comm (b / 2), ← Nat.xor_assoc]
  · simp only [if_true, if_false, Nat.xor_zero, show ¬ ((0 : Nat) = 1) by decide]
    rw [Nat.xor_assoc, ← Nat.xor_assoc (3988292384 : Nat), Nat.xor_comm 3988292384 (b / 2), Nat.xor_assoc (b / 2), Nat.xor_self, Nat.xor_zero]
theorem itN_xor (a b : Nat) : ∀ k, itN k (a ^^^ b) = itN k a ^^^ itN k b
  | 0 => rfl
  | k + 1 => by
    show bitN (itN k (a ^^^ b)) = _
    rw [itN_xor a b k, bitN_xor]
    rfl
theorem byteN_xor (s t c d : Nat) : byteN (s ^^^ t) (c ^^^ d) = byteN s c ^^^ byteN t d := by
  unfold byteN
  rw [← itN_xor]
  congr 1
  rw [Nat.xor_assoc, Nat.xor_assoc, ← Nat.xor_assoc t, Nat.xor_comm t c, Nat.xor_assoc c]
theorem runN_xor : ∀ (l m : List Nat), l.length = m.length → ∀ s t, runN s l ^^^ runN t m = runN (s ^^^ t) (List.zipWith (· ^^^ ·) l m)
  | [], [], _, _, _ => rfl
  | [], _ :: _, h, _, _ => by cases h
  | _ :: _, [], h, _, _ => by cases h
  | c :: l, d :: m, h, s, t => by
    show runN (byteN s c) l ^^^ runN (byteN t d) m = runN (byteN (s ^^^ t) (c ^^^ d)) _
    rw [byteN_xor]
    exact runN_xor l m (Nat.succ.inj h) _ _
def checkA : Bool := (List.range 64).all fun y => (List.range 64).all fun n => y == 0 || runN 0 [y, 0, 0, 0, n] % 65536 != 0
def checkB : Bool := (List.range 63).all fun x => (List.range 64).all fun y => Nat.blt 255 (runN 0 [x ^^^ (x + 1), 0, 0, 0, y, 0, 0, 0, 0])
theorem checkA_ok : checkA = true := by kernel_rfl
theorem checkB_ok : checkB = true := by kernel_rfl
theorem checkA_at {y n : Nat} (hy : y < 64) (hn : n < 64) (h : y ≠ 0) : runN 0 [y, 0, 0, 0, n] % 65536 ≠ 0 := by
  have h1 := List.all_eq_true.1 checkA_ok y (List.mem_range.2 hy)
  have h2 := List.all_eq_true.1 h1 n (List.mem_range.2 hn)
  simp only [Bool.or_eq_true, beq_iff_eq, bne_iff_ne] at h2
  exact h2.resolve_left h
theorem checkB_at {x y : Nat} (hx : x < 63) (hy : y < 64) : 255 < runN 0 [x ^^^ (x + 1), 0, 0, 0, y, 0, 0, 0, 0] := by
  have h1 := List.all_eq_true.1 checkB_ok x (List.mem_range.2 hx)
  have h2 := List.all_eq_true.1 h1 y (List.mem_range.2 hy)
  exact Nat.le_of_ble_eq_true h2
/-- A state that tells a number. -/
def tellN (n : Nat) : List Int := [(0 : Int), (n : Int)]
/-- The check of such a state's record. -/
def chk (x y n : Nat) : Nat := (crcTwo (markP (x : Int) (y : Int)) (matter0 (tellN n))).toNat
theorem chk_eq {x y n : Nat} (hx : x < 256) (hy : y < 256) (hn : n < 256) : chk x y n = 4294967295 ^^^ runN 4294967295 [0, 0, 0, x, 0, 0, 0, y, 0, 2, 0, n] ∧ runN 4294967295 [0, 0, 0, x, 0, 0, 0, y, 0, 2, 0, n] < 4294967296 := by
  unfold chk
  rw [crcTwo_eq, mark_small ⟨by omega, by omega⟩ ⟨by omega, by omega⟩]
  have hm : matter0 (tellN n) = [0, 2, 0, (n : Int)] := by simp [matter0, tellN, be2]
  rw [hm]
  have h0 : not32 0 = ((4294967295 : Nat) : Int) := by decide
  have hr : crcRun (crcRun (not32 0) [0, 0, 0, (x : Int), 0, 0, 0, (y : Int)]) [0, 2, 0, (n : Int)] = crcRun (not32 0) ([0, 0, 0, x, 0, 0, 0, y, 0, 2, 0, n].map fun (c : Nat) => (c : Int)) := by simp [crcRun]
  rw [hr, h0]
  have hl := crcRun_nat [0, 0, 0, x, 0, 0, 0, y, 0, 2, 0, n] 4294967295 (by omega) (fun c hc => by
    simp only [List.mem_cons, List.not_mem_nil, or_false] at hc
    omega)
  rw [hl.1]
  refine ⟨?_, hl.2⟩
  unfold not32
  rw [show IntKind.u32.max = ((4294967295 : Nat) : Int) by decide, u32_xor_nat _ _ (by omega) hl.2, Int.toNat_natCast]
theorem byte00 : byteN 0 0 = 0 := by decide
theorem runN_zero (l : List Nat) : runN 0 (0 :: l) = runN 0 l := by
  show runN (byteN 0 0) l = _
  rw [byte00]
theorem xor_lt64 {a b : Nat} (ha : a < 64) (hb : b < 64) : a ^^^ b < 64 := Nat.xor_lt_two_pow (n := 6) ha hb
theorem xor_ne {a b : Nat} (h : a ≠ b) : a ^^^ b ≠ 0 := fun e => h (by
  have := congrArg (fun k => a ^^^ k) e
  simp only [← Nat.xor_assoc, Nat.xor_self, Nat.zero_xor, Nat.xor_zero] at this
  exact this.symm)
theorem chk_xor {x y n x' y' n' : Nat} (hx : x < 256) (hy : y < 256) (hn : n < 256) (hx' : x' < 256) (hy' : y' < 256) (hn' : n' < 256) :
    chk x y n ^^^ chk x' y' n' = runN 0 [0, 0, 0, x ^^^ x', 0, 0, 0, y ^^^ y', 0, 0, 0, n ^^^ n'] := by
  rw [(chk_eq hx hy hn).1, (chk_eq hx' hy' hn').1]
  rw [show ∀ a b : Nat, (4294967295 ^^^ a) ^^^ (4294967295 ^^^ b) = a ^^^ b from fun a b => by
    rw [Nat.xor_comm 4294967295 a, Nat.xor_assoc, ← Nat.xor_assoc 4294967295 4294967295 b, Nat.xor_self, Nat.zero_xor]]
  rw [runN_xor [0, 0, 0, x, 0, 0, 0, y, 0, 2, 0, n] [0, 0, 0, x', 0, 0, 0, y', 0, 2, 0, n'] rfl]
  simp only [List.zipWith_cons_cons, List.zipWith_nil_right, Nat.xor_self]
theorem low_bytes {a b : Nat} (h1 : a / 256 % 256 = b / 256 % 256) (h2 : a % 256 = b % 256) : (a ^^^ b) % 65536 = 0 := by
  have h : a % 65536 = b % 65536 := by omega
  rw [show (65536 : Nat) = 2 ^ 16 from rfl, Nat.xor_mod_two_pow, show (2 : Nat) ^ 16 = 65536 from rfl, h, Nat.xor_self]
theorem high_bytes {a b : Nat} (ha : a < 4294967296) (hb : b < 4294967296) (h0 : a / 16777216 % 256 = b / 16777216 % 256) (h1 : a / 65536 % 256 = b / 65536 % 256) (h2 : a / 256 % 256 = b / 256 % 256) : a ^^^ b < 256 := by
  have h : a / 256 = b / 256 := by omega
  have h3 : (a ^^^ b) / 256 = 0 := by
    have : (a ^^^ b) >>> 8 = (a >>> 8) ^^^ (b >>> 8) := Nat.shiftRight_xor_distrib
    rw [Nat.shiftRight_eq_div_pow, Nat.shiftRight_eq_div_pow, Nat.shiftRight_eq_div_pow, show (2 : Nat) ^ 8 = 256 from rfl, h, Nat.xor_self] at this
    exact this
  omega
theorem chk_lt {x y n : Nat} (hx : x < 256) (hy : y < 256) (hn : n < 256) : chk x y n < 4294967296 := by
  have h := chk_eq hx hy hn
  rw [h.1]
  exact Nat.xor_lt_two_pow (n := 32) (by decide) h.2
/-- The low bytes of the checks of one epoch tell the sequence's numbers apart. -/
theorem tells_low {x y n q1 n1 : Nat} (hx : x < 64) (hy : y < 64) (hn : n < 64) (hq1 : q1 < 64) (hn1 : n1 < 64) (hne : y ≠ q1) (h1 : chk x y n / 256 % 256 = chk x q1 n1 / 256 % 256) (h2 : chk x y n % 256 = chk x q1 n1 % 256) : False := by
  have h := low_bytes h1 h2
  rw [chk_xor (by omega) (by omega) (by omega) (by omega) (by omega) (by omega), Nat.xor_self] at h
  have h3 : runN 0 [0, 0, 0, 0, 0, 0, 0, y ^^^ q1, 0, 0, 0, n ^^^ n1] = runN 0 [y ^^^ q1, 0, 0, 0, n ^^^ n1] := by simp only [runN_zero]
  rw [h3] at h
  exact checkA_at (xor_lt64 hy hq1) (xor_lt64 hn hn1) (xor_ne hne) h
/-- The high bytes of the checks tell an epoch from the next one. -/
theorem tells_high {x y n q2 : Nat} (hx : x < 63) (hy : y < 64) (hn : n < 64) (hq2 : q2 < 64) (h0 : chk x y n / 16777216 % 256 = chk (x + 1) q2 n / 16777216 % 256) (h1 : chk x y n / 65536 % 256 = chk (x + 1) q2 n / 65536 % 256)
    (h2 : chk x y n / 256 % 256 = chk (x + 1) q2 n / 256 % 256) : False := by
  have h := high_bytes (chk_lt (by omega) (by omega) (by omega)) (chk_lt (by omega) (by omega) (by omega)) h0 h1 h2
  rw [chk_xor (by omega) (by omega) (by omega) (by omega) (by omega) (by omega), Nat.xor_self] at h
  have h3 : runN 0 [0, 0, 0, x ^^^ (x + 1), 0, 0, 0, y ^^^ q2, 0, 0, 0, 0] = runN 0 [x ^^^ (x + 1), 0, 0, 0, y ^^^ q2, 0, 0, 0, 0] := by simp only [runN_zero]
  rw [h3] at h
  have := checkB_at hx (xor_lt64 hy hq2)
  omega
end Go.Proofs.YtgmeahogdjhejaaDoor
