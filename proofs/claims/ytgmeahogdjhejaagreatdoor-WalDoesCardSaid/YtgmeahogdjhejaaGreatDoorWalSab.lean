/- The document's sum, bit by bit: the plain law. No program in sight. The document's sum: the walk. -/
import Derived.Test.YtgmeahogdjhejaaGreatDoorWalCr
namespace Go.Proofs.YtgmeahogdjhejaaGreatDoor
set_option linter.unusedVariables false
set_option linter.unusedSimpArgs false
open Go.RowKit

def stepN (n : Nat) (b : Bool) : Nat := n / 2 ^^^ (if (n.testBit 0 != b) = true then 3988292384 else 0)
theorem stepN_lt {n : Nat} (h : n < 4294967296) (b : Bool) : stepN n b < 4294967296 := by
  unfold stepN
  refine Nat.xor_lt_two_pow (n := 32) (by omega) ?_
  split <;> omega
def runN (n c : Nat) : Nat → Nat
  | 0 => n
  | j + 1 => stepN (runN n c j) (c.testBit j)
theorem runN_lt {n : Nat} (h : n < 4294967296) (c : Nat) : ∀ j, runN n c j < 4294967296
  | 0 => h
  | j + 1 => stepN_lt (runN_lt h c j) _
theorem crcIt_runN {n c : Nat} (hn : n < 4294967296) (hc : c < 4294967296) : ∀ j, crcIt j ((n ^^^ c : Nat) : Int) = ((runN n c j ^^^ (c >>> j) : Nat) : Int)
  | 0 => rfl
  | j + 1 => by
    have hs : c >>> j < 4294967296 := by rw [Nat.shiftRight_eq_div_pow]; exact Nat.lt_of_le_of_lt (Nat.div_le_self _ _) hc
    have hm : runN n c j ^^^ (c >>> j) < 4294967296 := Nat.xor_lt_two_pow (n := 32) (runN_lt hn c j) hs
    show crcBit (crcIt j _) = _
    rw [crcIt_runN hn hc j, crcBit_nat _ hm]
    congr 1
    show _ = stepN (runN n c j) (c.testBit j) ^^^ c >>> (j + 1)
    unfold stepN
    have h1 : (runN n c j ^^^ c >>> j) / 2 = runN n c j / 2 ^^^ c >>> (j + 1) := by
      show (runN n c j ^^^ c >>> j) >>> 1 = runN n c j >>> 1 ^^^ (c >>> j) >>> 1
      exact Nat.shiftRight_xor_distrib
    have h2 : ((runN n c j ^^^ c >>> j) % 2 = 1) ↔ ((runN n c j).testBit 0 != c.testBit j) = true := by
      have h3 := Nat.testBit_zero (runN n c j ^^^ c >>> j)
      rw [Nat.testBit_xor, Nat.testBit_shiftRight, Nat.add_zero] at h3
      have h4 : ((runN n c j).testBit 0 != c.testBit j) = decide ((runN n c j ^^^ c >>> j) % 2 = 1) := h3
      rw [h4, decide_eq_true_eq]
    rw [h1]
    by_cases hp : (runN n c j ^^^ c >>> j) % 2 = 1
    · rw [if_pos hp, if_pos (h2.1 hp), Nat.xor_assoc, Nat.xor_assoc, Nat.xor_comm (c >>> (j + 1))]
    · rw [if_neg hp, if_neg (fun h => hp (h2.2 h)), Nat.xor_zero, Nat.xor_zero]
/-- Step by step over a list of bytes. -/
def bitAt (b : List Int) (k : Nat) : Bool := (b.getD (k / 8) 0).toNat.testBit (k % 8)
def runB (n : Nat) (b : List Int) : Nat → Nat
  | 0 => n
  | k + 1 => stepN (runB n b k) (bitAt b k)
theorem runB_lt {n : Nat} (h : n < 4294967296) (b : List Int) : ∀ k, runB n b k < 4294967296
  | 0 => h
  | k + 1 => stepN_lt (runB_lt h b k) _
theorem runB_mid (n : Nat) (b : List Int) (j : Nat) : ∀ i, i ≤ 8 → runB n b (8 * j + i) = runN (runB n b (8 * j)) (b.getD j 0).toNat i
  | 0, _ => rfl
  | i + 1, hi => by
    show stepN (runB n b (8 * j + i)) (bitAt b (8 * j + i)) = _
    rw [runB_mid n b j i (by omega)]
    unfold bitAt
    rw [show (8 * j + i) / 8 = j by omega, show (8 * j + i) % 8 = i by omega]
    rfl
theorem runB_crc {n : Nat} (hn : n < 4294967296) {b : List Int} (hb : ∀ c ∈ b, 0 ≤ c ∧ c ≤ 255) : ∀ j, j ≤ b.length → ((runB n b (8 * j) : Nat) : Int) = crcRun (n : Int) (b.take j)
  | 0, _ => rfl
  | j + 1, hj => by
    have ih := runB_crc hn hb j (by omega)
    have hlt := runB_lt hn b (8 * j)
    obtain ⟨c, hc⟩ : ∃ c, b[j] = c := ⟨_, rfl⟩
    have hbc := hb c (by rw [← hc]; exact List.getElem_mem _)
    obtain ⟨m, rfl⟩ := Int.eq_ofNat_of_zero_le hbc.1
    have hg : b.getD j 0 = (m : Int) := by rw [List.getD_eq_getElem?_getD, List.getElem?_eq_getElem (by omega), hc]; rfl
    rw [show 8 * (j + 1) = 8 * j + 8 by omega, runB_mid n b j 8 (Nat.le_refl _), hg, Int.toNat_natCast, List.take_add_one, List.getElem?_eq_getElem (by omega), hc]
    unfold crcRun at ih ⊢
    rw [List.foldl_append, ← ih]
    show _ = crcIt 8 (bits .xor .u32 _ _)
    rw [u32_xor_nat _ _ hlt (by omega), crcIt_runN hlt (by omega) 8]
    congr 1
    rw [show m >>> 8 = 0 by rw [Nat.shiftRight_eq_div_pow]; omega, Nat.xor_zero]
/-- The bits of a number. -/
def bitsB (n : Nat) : List Bool := (List.range 32).map fun i => n.testBit i
def midB (f z : Nat → Bool) (k : Nat) : List Bool := (List.range 32).map fun i => if i < k then f i else z i
theorem midB_len (f z : Nat → Bool) (k : Nat) : (midB f z k).length = 32 := by simp [midB]
theorem midB_at (f z : Nat → Bool) (k i : Nat) (hi : i < 32) : (midB f z k)[i]? = some (if i < k then f i else z i) := by simp [midB, hi]
theorem midB_set (f z : Nat → Bool) (k : Nat) (hk : k < 32) : (midB f z k).set k (f k) = midB f z (k + 1) := by
  apply List.ext_getElem?
  intro i
  rw [List.getElem?_set]
  by_cases hik : k = i
  · subst hik
    rw [if_pos rfl, if_pos (by rw [midB_len]; exact hk), midB_at _ _ _ _ hk, if_pos (by omega)]
  · rw [if_neg hik]
    by_cases hi : i < 32
    · rw [midB_at _ _ _ _ hi, midB_at _ _ _ _ hi]
      by_cases h : i < k
      · rw [if_pos h, if_pos (by omega)]
      · rw [if_neg h, if_neg (by omega)]
    · rw [List.getElem?_eq_none (by rw [midB_len]; omega), List.getElem?_eq_none (by rw [midB_len]; omega)]
theorem midB_zero (f z : Nat → Bool) : midB f z 0 = (List.range 32).map z := by simp [midB]
theorem midB_all (f z : Nat → Bool) : midB f z 32 = (List.range 32).map f := by
  refine List.map_congr_left fun i hi => ?_
  rw [if_pos (List.mem_range.1 hi)]
theorem bitsB_at (n i : Nat) (hi : i < 32) : (bitsB n)[i]? = some (n.testBit i) := by simp [bitsB, hi]
def not32N (n : Nat) : Nat := 4294967295 ^^^ n
theorem not32_nat {n : Nat} (hn : n < 4294967296) : not32 (n : Int) = ((not32N n : Nat) : Int) := u32_xor_nat 4294967295 n (by omega) hn
theorem not32N_lt {n : Nat} (hn : n < 4294967296) : not32N n < 4294967296 := Nat.xor_lt_two_pow (n := 32) (by omega) hn
theorem not32N_bit (n : Nat) {i : Nat} (hi : i < 32) : (not32N n).testBit i = !n.testBit i := by
  unfold not32N
  rw [Nat.testBit_xor, show (4294967295 : Nat) = 2 ^ 32 - 1 from rfl, Nat.testBit_two_pow_sub_one, decide_eq_true hi]
  cases n.testBit i <;> rfl
theorem bit_and (n i : Nat) (hn : n < 4294967296) : bits .and .u32 ((n : Int) / 2 ^ i) 1 = if n.testBit i then 1 else 0 := by
  have h1 : ((n : Int) / 2 ^ i) = ((n >>> i : Nat) : Int) := by rw [Nat.shiftRight_eq_div_pow]; simp
  have h3 : n >>> i < 4294967296 := by rw [Nat.shiftRight_eq_div_pow]; exact Nat.lt_of_le_of_lt (Nat.div_le_self _ _) hn
  have h2 := u32_and_nat (n >>> i) 1 h3 (by omega)
  rw [h1, show (1 : Int) = ((1 : Nat) : Int) from rfl, h2, Nat.and_one_is_mod]
  have h4 := Nat.testBit_zero (n >>> i)
  rw [Nat.testBit_shiftRight, Nat.add_zero] at h4
  by_cases hp : n >>> i % 2 = 1
  · rw [h4, hp]; rfl
  · rw [h4, show n >>> i % 2 = 0 by omega]; rfl
theorem bit_and8 (n i : Nat) (hn : n < 256) : bits .and .u8 ((n : Int) / 2 ^ i) 1 = if n.testBit i then 1 else 0 := by
  have h1 : ((n : Int) / 2 ^ i) = ((n >>> i : Nat) : Int) := by rw [Nat.shiftRight_eq_div_pow]; simp
  have h3 : n >>> i < 256 := by rw [Nat.shiftRight_eq_div_pow]; exact Nat.lt_of_le_of_lt (Nat.div_le_self _ _) hn
  have h2 : bits .and .u8 ((n >>> i : Nat) : Int) ((1 : Nat) : Int) = ((n >>> i &&& 1 : Nat) : Int) := u8_and_nat (n >>> i) 1 h3 (by omega)
  rw [h1, show (1 : Int) = ((1 : Nat) : Int) from rfl, h2, Nat.and_one_is_mod]
  have h4 := Nat.testBit_zero (n >>> i)
  rw [Nat.testBit_shiftRight, Nat.add_zero] at h4
  by_cases hp : n >>> i % 2 = 1
  · rw [h4, hp]; rfl
  · rw [h4, show n >>> i % 2 = 0 by omega]; rfl
theorem shr_more (c i : Nat) : c >>> i = 2 * (c >>> (i + 1)) + (if c.testBit i then 1 else 0) := by
  have h4 := Nat.testBit_zero (c >>> i)
  rw [Nat.testBit_shiftRight, Nat.add_zero] at h4
  rw [h4, Nat.shiftRight_succ]
  by_cases hp : c >>> i % 2 = 1
  · rw [if_pos (decide_eq_true hp)]; omega
  · rw [if_neg (by rw [decide_eq_false hp]; decide)]; omega
/-- What a step makes, bit by bit. -/
theorem step_low {n : Nat} (hn : n < 4294967296) : midB (fun i => n.testBit (i + 1)) (fun _ => false) 31 = bitsB (n / 2) := by
  refine List.map_congr_left fun i hi => ?_
  have hi := List.mem_range.1 hi
  have h0 : (n / 2).testBit i = n.testBit (i + 1) := by
    show (n >>> 1).testBit i = _
    rw [Nat.testBit_shiftRight, Nat.add_comm 1 i]
  rw [h0]
  by_cases h : i < 31
  · rw [if_pos h]
  · rw [if_neg h]
    obtain rfl : i = 31 := by omega
    exact (Nat.testBit_lt_two_pow (by omega)).symm
def flipB (n : Nat) (k : Nat) : List Bool := midB (fun i => (n ^^^ 3988292384).testBit i) (fun i => n.testBit i) k
theorem flip_zero (n : Nat) : flipB n 0 = bitsB n := midB_zero _ _
theorem flip_all (n : Nat) : flipB n 32 = bitsB (n ^^^ 3988292384) := midB_all _ _
theorem flip_set (n k : Nat) (hk : k < 32) (h : (3988292384 : Nat).testBit k = true) : (flipB n k).set k (!n.testBit k) = flipB n (k + 1) := by
  have := midB_set (fun i => (n ^^^ 3988292384).testBit i) (fun i => n.testBit i) k hk
  rw [Nat.testBit_xor, h] at this
  unfold flipB
  rw [← this]
  cases n.testBit k <;> rfl
theorem flip_same (n k : Nat) (h : (3988292384 : Nat).testBit k = false) : flipB n k = flipB n (k + 1) := by
  unfold flipB midB
  refine List.map_congr_left fun i hi => ?_
  by_cases h1 : i < k
  · rw [if_pos h1, if_pos (by omega)]
  · rw [if_neg h1]
    by_cases h2 : i < k + 1
    · obtain rfl : i = k := by omega
      rw [if_pos h2]
      show n.testBit i = (n ^^^ 3988292384).testBit i
      rw [Nat.testBit_xor, h, Bool.xor_false]
    · rw [if_neg h2]
/-- A row of bools. -/
def bocells (xs : List Bool) : Array Value := (xs.map Value.bool).toArray
theorem bocells_size (xs : List Bool) : (bocells xs).size = xs.length := by simp [bocells]
theorem bocells_set (xs : List Bool) (i : Nat) (x : Bool) : (bocells xs).setIfInBounds i (.bool x) = bocells (xs.set i x) := by simp [bocells, List.map_set]
theorem bocells_at (xs : List Bool) (i : Nat) {x : Bool} (h : xs[i]? = some x) : (bocells xs)[i]? = some (.bool x) := by simp [bocells, h]
end Go.Proofs.YtgmeahogdjhejaaGreatDoor

namespace Go.Proofs.YtgmeahogdjhejaaGreatDoor
set_option linter.unusedVariables false
set_option linter.unusedSimpArgs false
open Go.RowKit Go.Shelf

theorem infoBo : (Tryz.prog.info? 4).map (fun i => (i.zero, i.size, i.bytes)) = some (some (.bool false), 1, 1) := by kernel_rfl
theorem made_bools (n : Nat) : madeCells (Value.bool false).cells (n * 1) = bocells (List.replicate n false) := by
  apply Array.toList_inj.1
  rw [madeCells_rep (Value.bool false).cells n 1 rfl]
  simp only [bocells, List.map_replicate]
  show (List.replicate n [Value.bool false]).flatten = _
  induction n with
  | zero => rfl
  | succ n ih => rw [List.replicate_succ, List.flatten_cons, ih, List.replicate_succ]; rfl
theorem none32 (f : Nat → Bool) : List.replicate 32 false = midB f (fun _ => false) 0 := rfl
theorem bcell {w : World} {g : Nat} {xs : List Bool} {T : TypeId} {fr : Nat × Nat} (h : w.heap[g]? = some (.cells (bocells xs) T fr)) (i : Nat) {x : Bool} (hx : xs[i]? = some x) : w.cell? ⟨g, i, none⟩ = some (.bool x) := by
  rw [cell_of_row w g i _ _ _ h]
  exact bocells_at xs i hx
theorem bne_q (a b : Bool) : (a != b) = (!a == b) := by cases a <;> cases b <;> rfl
def MoreA (g m : Nat) (w0 : World) (v6 : Value) (wr : World) : Prop :=
  ∃ k : Nat, v6 = .int .i64 (k : Int) ∧ k ≤ 32 ∧ SH (fun _ => False) w0 wr [pt g (.cells (bocells (midB (fun i => m.testBit i) (fun _ => false) k)) 4 (0, 0))]
def MoreM (m : Nat) (b : List Int) (w0 : World) (v5 v7 : Value) (wr : World) : Prop :=
  ∃ k g : Nat, v5 = .slice (some ⟨g, 0, none⟩) 32 32 ∧ v7 = .int .i64 (k : Int) ∧ k ≤ 8 * b.length ∧ SH (fun _ => False) w0 wr [pt g (.cells (bocells (bitsB (runB m b k))) 4 (0, 0))]
def MoreI (g g2 n : Nat) (w0 : World) (v11 : Value) (wr : World) : Prop :=
  ∃ k : Nat, v11 = .int .i64 (k : Int) ∧ k ≤ 31 ∧ SH (fun _ => False) w0 wr [pt g2 (.cells (bocells (midB (fun i => n.testBit (i + 1)) (fun _ => false) k)) 4 (0, 0)), pt g (.cells (bocells (bitsB n)) 4 (0, 0))]
def MoreJ (g2 n : Nat) (w0 : World) (v12 : Value) (wr : World) : Prop :=
  ∃ k : Nat, v12 = .int .i64 (k : Int) ∧ k ≤ 32 ∧ SH (fun _ => False) w0 wr [pt g2 (.cells (bocells (flipB n k)) 4 (0, 0))]
def MoreK (g2 n : Nat) (w0 : World) (v12 : Value) (wr : World) : Prop := v12 = .int .i64 0 ∧ SH (fun _ => False) w0 wr [pt g2 (.cells (bocells (bitsB n)) 4 (0, 0))]
def MoreZ (g n : Nat) (w0 : World) (v13 v14 : Value) (wr : World) : Prop :=
  ∃ k : Nat, v14 = .int .i64 ((k : Int) - 1) ∧ v13 = .int .u32 ((not32N n >>> k : Nat) : Int) ∧ k ≤ 32 ∧ SH (fun _ => False) w0 wr [pt g (.cells (bocells (bitsB n)) 4 (0, 0))]
set_option maxRecDepth 100000 in
set_option maxHeartbeats 4000000 in
theorem refMore_any (sn : Nat) (hsn : sn < 4294967296) (v : Value) (b : List Int) (w0 : World) (hr : RdS (encInt .u8) 1 w0 v b) (hb : ∀ x ∈ b, 0 ≤ x ∧ x ≤ 255) (hl : b.length ≤ 1000000) :
    Calls Tryz.prog 64 #[.int .u32 (sn : Int), v] w0 fun e w' => e = .returned (.int .u32 (crcMore (sn : Int) b)) ∧ Ext0 w0 w' := by
  obtain ⟨i0, hi, hz, hsz, hby⟩ := info_parts infoBo
  have H : SH (fun _ => False) w0 w0 [] := SH.nil _ _
  obtain ⟨A, cap, rfl, hcap⟩ := hr.len
  have hm := not32N_lt hsn
  have hbit := fun i (hi : i < 32) => not32N_bit sn hi
  have hres : crcMore (sn : Int) b = ((not32N (runB (not32N sn) b (8 * b.length)) : Nat) : Int) := by
    unfold crcMore
    rw [not32_nat hsn]
    have h1 := runB_crc hm hb b.length (Nat.le_refl _)
    rw [List.take_of_length_le (Nat.le_refl _)] at h1
    rw [← h1, not32_nat (runB_lt hm b _)]
  rw [hres]
  obtain ⟨m, hmm⟩ : ∃ m, not32N sn = m := ⟨_, rfl⟩
  rw [hmm] at hm hbit ⊢
  have HB := Lib.hid (And.intro hbit (And.intro hm (And.intro hr hb)))
  clear hres hbit hmm hm hr hb
  obtain ⟨n, hn⟩ : ∃ n, b.length = n := ⟨_, rfl⟩
  have HN := Lib.hid hn
  rw [hn] at hcap hl ⊢
  clear hn
  go_enter Tryz.func64, Tryz.ntmps64
  go_wp2_with (first
    | (refine L_make (n := 32) rfl rfl H Tryz.underlying46 hi hz rfl rfl (by rw [hby]; omega) (by simp only [maxLen]; omega) ?_; clear H; intro g w H; rw [hsz, made_bools, none32 (fun i => m.testBit i)] at H))
  have hst : MoreA g m w0 (.int .i64 0) w := ⟨0, rfl, by omega, H⟩
  clear H
  go_loopw [6] (fun v6 wr => MoreA g m w0 v6 wr) (fun vi _ => 32 - (intOf vi).toNat)
  case atStart => exact hst
  case round =>
    clear hst
    obtain ⟨k, rfl, hk, H⟩ := hrel
    by_cases hkn : k < 32
    · have hki : (k : Int) < 32 := by omega
      have hw : IntKind.i64.wrap ((k : Int) + 1) = ((k + 1 : Nat) : Int) := by rw [IntKind.wrap_i64]; omega
      have hsz2 : k < (bocells (midB (fun i => m.testBit i) (fun _ => false) k)).size := by rw [bocells_size, midB_len]; exact hkn
      have hba := bit_and sn k hsn
      have hset := midB_set (fun i => m.testBit i) (fun _ => false) k hkn
      rw [HB.out.1 k hkn] at hset
      have HS := Lib.hid hset
      clear hset
      by_cases ht : sn.testBit k = true
      · rw [ht, if_pos rfl] at hba
        have hs9 : (midB (fun i => m.testBit i) (fun _ => false) k).set k false = midB (fun i => m.testBit i) (fun _ => false) (k + 1) := by
          have := HS.out
          rw [ht] at this
          exact this
        have HS := Lib.hid hs9
        clear ht hs9
        go_wp2_with (first | (refine L_store1 rfl rfl H 0 rfl rfl rfl rfl rfl hsz2 Tryz.sizeOf4 ?_; clear H; intro w H; simp only [List.set_cons_zero, List.set_cons_succ, List.setIfInBounds_toArray, Act.eval, Array.getD_eq_getD_getElem?, List.getElem?_toArray, List.getElem?_cons_succ, List.getElem?_cons_zero, Option.getD_some] at H))
        rw [bocells_set, HS.out] at H
        go_roundw
        case rel => exact ⟨k + 1, by go_num, by omega, H⟩
        case measure => simp [intOf]; omega
      · rw [if_neg ht] at hba
        have hs9 : (midB (fun i => m.testBit i) (fun _ => false) k).set k true = midB (fun i => m.testBit i) (fun _ => false) (k + 1) := by
          have := HS.out
          rw [show sn.testBit k = false by simpa using ht] at this
          exact this
        have HS := Lib.hid hs9
        clear ht hs9
        go_wp2_with (first | (refine L_store1 rfl rfl H 0 rfl rfl rfl rfl rfl hsz2 Tryz.sizeOf4 ?_; clear H; intro w H; simp only [List.set_cons_zero, List.set_cons_succ, List.setIfInBounds_toArray, Act.eval, Array.getD_eq_getD_getElem?, List.getElem?_toArray, List.getElem?_cons_succ, List.getElem?_cons_zero, Option.getD_some] at H))
        rw [bocells_set, HS.out] at H
        go_roundw
        case rel => exact ⟨k + 1, by go_num, by omega, H⟩
        case measure => simp [intOf]; omega
    · obtain rfl : k = 32 := by omega
      have h32 : ¬ ((32 : Nat) : Int) < 32 := by omega
      have hst2 : MoreM m b w0 (.slice (some ⟨g, 0, none⟩) 32 32) (.int .i64 0) wr := ⟨0, g, rfl, rfl, Nat.zero_le _, by
        rw [midB_all] at H
        exact H⟩
      clear H
      go_wp2_with fail
      go_loopw [5, 7] (fun v5 v7 wr => MoreM m b w0 v5 v7 wr) (fun _ vi _ => 8 * n - (intOf vi).toNat)
      case atStart => exact hst2
      case round =>
        clear hst2
        obtain ⟨k, g, rfl, rfl, hk, H⟩ := hrel
        rw [HN.out] at hk
        have hm8 : IntKind.i64.wrap (8 * (n : Int)) = 8 * (n : Int) := by rw [IntKind.wrap_i64]; omega
        by_cases hkn : k < 8 * n
        · have hki : (k : Int) < 8 * (n : Int) := by omega
          have hw : IntKind.i64.wrap ((k : Int) + 1) = ((k + 1 : Nat) : Int) := by rw [IntKind.wrap_i64]; omega
          have hq1 : (k : Int).tdiv 8 = ((k / 8 : Nat) : Int) := by rw [Int.tdiv_eq_ediv_of_nonneg (by omega)]; omega
          have hq2 : (k : Int).tmod 8 = ((k % 8 : Nat) : Int) := by rw [Int.tmod_eq_emod_of_nonneg (by omega)]; omega
          have hk8 : k / 8 < b.length := by rw [HN.out]; omega
          obtain ⟨bb, off, rfl, hcells⟩ := byte_cell HB.out.2.2.1 hk8
          have hcell := fun {W : World} (e : Ext0 w0 W) => e.cell (hcells (k / 8) hk8) (fun h => h)
          obtain ⟨c, hc⟩ : ∃ c, b[k / 8] = c := ⟨_, rfl⟩
          have hcb := HB.out.2.2.2 c (by rw [← hc]; exact List.getElem_mem _)
          obtain ⟨cn, rfl⟩ := Int.eq_ofNat_of_zero_le hcb.1
          rw [hc] at hcell
          have hbit8 := bit_and8 cn (k % 8) (by omega)
          have hbA : bitAt b k = cn.testBit (k % 8) := by
            unfold bitAt
            rw [List.getD_eq_getElem?_getD, List.getElem?_eq_getElem hk8, hc]
            rfl
          obtain ⟨y, hy⟩ : ∃ y, bits .and .u8 ((cn : Int) / 2 ^ (k % 8)) 1 = y := ⟨_, rfl⟩
          have hyb : (y == 1) = bitAt b k := by
            rw [hbA, ← hy, hbit8]
            cases cn.testBit (k % 8) <;> rfl
          obtain ⟨r, hrr⟩ : ∃ r, runB m b k = r := ⟨_, rfl⟩
          have hrlt := runB_lt HB.out.2.1 b k
          rw [hrr] at H hrlt
          have hr0 := bcell (H.at_ 0 rfl) 0 (bitsB_at r 0 (by omega))
          obtain ⟨k8, hk8e⟩ : ∃ k8, k / 8 = k8 := ⟨_, rfl⟩
          obtain ⟨m8, hm8e⟩ : ∃ m8, k % 8 = m8 := ⟨_, rfl⟩
          rw [hk8e] at hq1 hcell
          rw [hm8e] at hq2 hy
          have hk8n : k8 < n := by rw [← HN.out, ← hk8e]; exact hk8
          have hm8n : m8 < 8 := by omega
          have hwk8 : IntKind.i64.wrap (k8 : Int) = (k8 : Int) := by rw [IntKind.wrap_i64]; omega
          have hwm8 : IntKind.i64.wrap (m8 : Int) = (m8 : Int) := by rw [IntKind.wrap_i64]; omega
          have hwu8 : IntKind.u64.wrap (m8 : Int) = (m8 : Int) := by rw [IntKind.wrap_u64]; omega
          have HC := Lib.hid (And.intro hyb (And.intro hrr hrlt))
          clear hcells hc hcb hbit8 hbA hyb hrr hrlt hk8 hk8e hm8e
          have hcc := hcell H.ext
          go_upto_region 11 with fail
          clear hcc hr0
          obtain ⟨q, hqq⟩ : ∃ q, (!decide (r % 2 = 1) == (y == 1)) = q := ⟨_, rfl⟩
          rw [hqq]
          have HQ := Lib.hid hqq
          clear hqq hy hq1 hq2 hwk8 hwm8 hwu8
          go_upto_region 12 with (first
            | (refine L_make (n := 32) rfl rfl H Tryz.underlying46 hi hz rfl rfl (by rw [hby]; omega) (by simp only [maxLen]; omega) ?_; clear H; intro g2 w H; rw [hsz, made_bools, none32 (fun i => r.testBit (i + 1))] at H))
          have hst3 : MoreI g g2 r w0 (.int .i64 0) w := ⟨0, rfl, by omega, H⟩
          clear H
          go_wp2_with fail
          go_loopw [11] (fun v11 wr => MoreI g g2 r w0 v11 wr) (fun vi _ => 31 - (intOf vi).toNat)
          case atStart => exact hst3
          case round =>
            clear hst3
            obtain ⟨l, rfl, hl, H⟩ := hrel
            by_cases hln : l < 31
            · have hli : (l : Int) < 31 := by omega
              have hwl : IntKind.i64.wrap ((l : Int) + 1) = ((l + 1 : Nat) : Int) := by rw [IntKind.wrap_i64]; omega
              have hsz2 : l < (bocells (midB (fun i => r.testBit (i + 1)) (fun _ => false) l)).size := by rw [bocells_size, midB_len]; omega
              have hlc := bcell (H.at_ 1 rfl) (l + 1) (bitsB_at r (l + 1) (by omega))
              have hset := midB_set (fun i => r.testBit (i + 1)) (fun _ => false) l (by omega)
              obtain ⟨l1, hl1⟩ : ∃ l1, l + 1 = l1 := ⟨_, rfl⟩
              obtain ⟨x, hx⟩ : ∃ x, r.testBit (l + 1) = x := ⟨_, rfl⟩
              simp only [hx] at hset
              rw [hx] at hlc
              rw [hl1] at hlc hwl hset
              have HS := Lib.hid hset
              have hl1n : l1 < 32 := by omega
              clear hset hx
              go_wp2_with (first | (refine L_store1 rfl rfl H 0 rfl rfl rfl rfl rfl hsz2 Tryz.sizeOf4 ?_; clear H; intro w H; simp only [List.set_cons_zero, List.set_cons_succ, List.setIfInBounds_toArray, Act.eval, Array.getD_eq_getD_getElem?, List.getElem?_toArray, List.getElem?_cons_succ, List.getElem?_cons_zero, Option.getD_some] at H))
              rw [bocells_set, HS.out] at H
              go_roundw
              case rel => exact ⟨l1, rfl, by omega, H⟩
              case measure => simp [intOf]; omega
            · obtain rfl : l = 31 := by omega
              have h31 : ¬ ((31 : Nat) : Int) < 31 := by omega
              have H2 := H.drop (L' := [_]) (.cons_cons _ (.cons _ .slnil))
              rw [step_low HC.out.2.2, ← flip_zero] at H2
              clear H
              have hst4 : MoreJ g2 (r / 2) w0 (.int .i64 0) wr := ⟨0, rfl, by omega, H2⟩
              clear H2
              by_cases hqt : q = true
              · subst hqt
                go_wp2_with fail
                go_loopw [12] (fun v12 wr => MoreJ g2 (r / 2) w0 v12 wr) (fun vi _ => 32 - (intOf vi).toNat)
                case atStart => exact hst4
                case round =>
                  clear hst4
                  obtain ⟨l, rfl, hl, H⟩ := hrel
                  by_cases hln : l < 32
                  · have hli : (l : Int) < 32 := by omega
                    have hwl : IntKind.i64.wrap ((l : Int) + 1) = ((l + 1 : Nat) : Int) := by rw [IntKind.wrap_i64]; omega
                    have hwu : IntKind.u64.wrap (l : Int) = (l : Int) := by rw [IntKind.wrap_u64]; omega
                    have hbp := bit_and 3988292384 l (by omega)
                    rw [show ((3988292384 : Nat) : Int) = 3988292384 from rfl] at hbp
                    by_cases hpb : (3988292384 : Nat).testBit l = true
                    · rw [if_pos hpb] at hbp
                      have hset := flip_set (r / 2) l hln hpb
                      have hsz2 : l < (bocells (flipB (r / 2) l)).size := by rw [bocells_size]; unfold flipB; rw [midB_len]; omega
                      have hlc := bcell (H.at_ 0 rfl) l (x := (r / 2).testBit l) (by unfold flipB; rw [midB_at _ _ _ _ hln, if_neg (Nat.lt_irrefl _)])
                      obtain ⟨x, hx⟩ : ∃ x, (r / 2).testBit l = x := ⟨_, rfl⟩
                      rw [hx] at hlc hset
                      have HS := Lib.hid hset
                      clear hset hx hpb
                      go_wp2_with (first | (refine L_store1 rfl rfl H 0 rfl rfl rfl rfl rfl hsz2 Tryz.sizeOf4 ?_; clear H; intro w H; simp only [List.set_cons_zero, List.set_cons_succ, List.setIfInBounds_toArray, Act.eval, Array.getD_eq_getD_getElem?, List.getElem?_toArray, List.getElem?_cons_succ, List.getElem?_cons_zero, Option.getD_some] at H))
                      rw [bocells_set, HS.out] at H
                      go_roundw
                      case rel => exact ⟨l + 1, by go_num, by omega, H⟩
                      case measure => simp [intOf]; omega
                    · rw [if_neg hpb] at hbp
                      have hsm := flip_same (r / 2) l (by simpa using hpb)
                      clear hpb
                      rw [hsm] at H
                      clear hsm
                      go_wp2_with fail
                      go_roundw
                      case rel => exact ⟨l + 1, by go_num, by omega, H⟩
                      case measure => simp [intOf]; omega
                  · obtain rfl : l = 32 := by omega
                    have h32b : ¬ ((32 : Nat) : Int) < 32 := by omega
                    have hres : bitsB (r / 2 ^^^ 3988292384) = bitsB (runB m b (k + 1)) := by
                      show _ = bitsB (stepN (runB m b k) (bitAt b k))
                      rw [HC.out.2.1, ← HC.out.1]
                      unfold stepN
                      rw [if_pos (by rw [Nat.testBit_zero]; exact (bne_q _ _).trans HQ.out)]
                    rw [flip_all, hres] at H
                    clear hres
                    go_wp2_with fail
                    go_roundw
                    case rel => exact ⟨k + 1, g2, rfl, by go_num, by rw [HN.out]; omega, H⟩
                    case measure => simp [intOf]; omega
              · obtain rfl : q = false := by simpa using hqt
                clear hqt
                obtain ⟨l0, he0, _, H⟩ := hst4
                obtain rfl : l0 = 0 := by
                  have he1 := he0
                  injection he1 with _ he2
                  omega
                clear he0
                have hres : bitsB (r / 2) = bitsB (runB m b (k + 1)) := by
                  show _ = bitsB (stepN (runB m b k) (bitAt b k))
                  rw [HC.out.2.1, ← HC.out.1]
                  unfold stepN
                  rw [if_neg (by rw [Nat.testBit_zero, (bne_q _ _).trans HQ.out]; decide), Nat.xor_zero]
                rw [flip_zero, hres] at H
                clear hres
                have hst6 : MoreK g2 (runB m b (k + 1)) w0 (.int .i64 0) wr := ⟨rfl, H⟩
                clear H
                go_wp2_with fail
                go_loopw [12] (fun v12 wr => MoreK g2 (runB m b (k + 1)) w0 v12 wr) (fun vi _ => 32 - (intOf vi).toNat)
                case atStart => exact hst6
                case round =>
                  clear hst6
                  obtain ⟨rfl, H⟩ := hrel
                  go_wp2_with fail
                  go_roundw
                  case rel => exact ⟨k + 1, g2, rfl, by go_num, by rw [HN.out]; omega, H⟩
                  case measure => simp [intOf]; omega
        · obtain rfl : k = 8 * n := by omega
          have hkk : ¬ ((8 * n : Nat) : Int) < 8 * (n : Int) := by omega
          have hrlt := runB_lt HB.out.2.1 b (8 * n)
          obtain ⟨r, hrr⟩ : ∃ r, runB m b (8 * n) = r := ⟨_, rfl⟩
          rw [hrr] at hrlt H
          have HR := Lib.hid hrr
          have hnl := not32N_lt hrlt
          have hnb := fun i (hi : i < 32) => not32N_bit r hi
          obtain ⟨z, hz9⟩ : ∃ z, not32N r = z := ⟨_, rfl⟩
          have hst5 : MoreZ g r w0 (.int .u32 0) (.int .i64 31) wr := ⟨32, rfl, by rw [Nat.shiftRight_eq_div_pow, Nat.div_eq_of_lt hnl]; rfl, Nat.le_refl _, H⟩
          have HZ := Lib.hid (And.intro hnl hnb)
          clear H hnl hnb hz9 hrlt hrr
          go_wp2_with fail
          go_loopw [13, 14] (fun v13 v14 wr => MoreZ g r w0 v13 v14 wr) (fun _ vi _ => (intOf vi + 1).toNat)
          case atStart => exact hst5
          case round =>
            clear hst5
            obtain ⟨l, h14, h13, hl, H⟩ := hrel
            by_cases hl0 : l = 0
            · subst hl0
              rw [show (((0 : Nat) : Int) - 1) = -1 from rfl] at h14
              rw [Nat.shiftRight_zero] at h13
              subst h14 h13
              go_wp2_with fail
              go_ret
              exact ⟨by rw [HR.out]; rfl, H.ext⟩
            · obtain ⟨j, rfl⟩ : ∃ j, l = j + 1 := ⟨l - 1, by omega⟩
              rw [show ((j + 1 : Nat) : Int) - 1 = (j : Int) by omega] at h14
              have hmr := shr_more (not32N r) j
              have hlt9 : not32N r >>> (j + 1) < 2147483648 := by
                have h9 := HZ.out.1
                rw [Nat.shiftRight_succ]
                have : not32N r >>> j ≤ not32N r := by rw [Nat.shiftRight_eq_div_pow]; exact Nat.div_le_self _ _
                omega
              rw [HZ.out.2 j (by omega)] at hmr
              have hlc := bcell (H.at_ 0 rfl) j (bitsB_at r j (by omega))
              obtain ⟨x, hx⟩ : ∃ x, r.testBit j = x := ⟨_, rfl⟩
              obtain ⟨z1, hz1⟩ : ∃ z1, not32N r >>> (j + 1) = z1 := ⟨_, rfl⟩
              obtain ⟨z0, hz0⟩ : ∃ z0, not32N r >>> j = z0 := ⟨_, rfl⟩
              rw [hx] at hmr hlc
              rw [hz1] at hmr hlt9 h13
              rw [hz0] at hmr
              subst h14 h13
              have HJ := Lib.hid hz0
              clear hx hz1 hz0
              have hw1 : IntKind.u32.wrap (2 * (z1 : Int)) = 2 * (z1 : Int) := by rw [IntKind.wrap_u32]; omega
              have hwj : IntKind.i64.wrap ((j : Int) - 1) = (j : Int) - 1 := by rw [IntKind.wrap_i64]; omega
              have hj0 : (0 : Int) ≤ (j : Int) := by omega
              have hj32 : j < 32 := by omega
              cases x
              · have hz2 : IntKind.u32.wrap (2 * (z1 : Int) + 1) = (z0 : Int) := by rw [IntKind.wrap_u32]; simp at hmr; omega
                clear hmr
                go_wp2_with fail
                go_roundw
                case rel => exact ⟨j, rfl, by rw [HJ.out], by omega, H⟩
                case measure => simp [intOf] <;> omega
              · have hz2 : 2 * (z1 : Int) = (z0 : Int) := by simp at hmr; omega
                clear hmr
                go_wp2_with fail
                go_roundw
                case rel => exact ⟨j, rfl, by rw [HJ.out], by omega, H⟩
                case measure => simp [intOf] <;> omega
/-- The same at a sum of 32 bits. -/
theorem refMoreI_any (s : Int) (hs : U32 s) (v : Value) (b : List Int) (w0 : World) (hr : RdS (encInt .u8) 1 w0 v b) (hb : ∀ x ∈ b, 0 ≤ x ∧ x ≤ 255) (hl : b.length ≤ 1000000) :
    Calls Tryz.prog 64 #[.int .u32 s, v] w0 fun e w' => e = .returned (.int .u32 (crcMore s b)) ∧ Ext0 w0 w' := by
  obtain ⟨n, rfl⟩ := Int.eq_ofNat_of_zero_le hs.1
  exact refMore_any n (by have := hs.2; omega) v b w0 hr hb hl
end Go.Proofs.YtgmeahogdjhejaaGreatDoor
