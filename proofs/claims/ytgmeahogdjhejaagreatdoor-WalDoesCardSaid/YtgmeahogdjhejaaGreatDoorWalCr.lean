/- Journals: the plain law of crashes, first part: CRC tells marks apart; what is lifted of sectors some of which are another record's. -/
import Derived.Test.YtgmeahogdjhejaaGreatDoorWalAg
import Derived.Laws.BitsAllLaws
namespace Go.Proofs.YtgmeahogdjhejaaGreatDoor
set_option linter.unusedVariables false
set_option linter.unusedSimpArgs false
open Go.RowKit Go.Shelf

theorem crcBit_nat (n : Nat) (hn : n < 4294967296) : crcBit (n : Int) = ((n / 2 ^^^ (if n % 2 = 1 then 3988292384 else 0) : Nat) : Int) := by
  unfold crcBit
  have h1 : bits .and .u32 (n : Int) 1 = ((n % 2 : Nat) : Int) := by
    have := u32_and_nat n 1 hn (by omega)
    rw [Nat.and_one_is_mod] at this
    exact this
  rw [h1]
  have h2 : ((n : Int) / 2) = ((n / 2 : Nat) : Int) := by omega
  rw [h2]
  by_cases hp : n % 2 = 1
  · rw [hp, if_pos rfl, show IntKind.u32.wrap (((1 : Nat) : Int) * 3988292384) = ((3988292384 : Nat) : Int) by rw [IntKind.wrap_u32]; omega]
    exact u32_xor_nat _ _ (by omega) (by omega)
  · have h0 : n % 2 = 0 := by omega
    rw [h0, if_neg (by omega), show IntKind.u32.wrap (((0 : Nat) : Int) * 3988292384) = ((0 : Nat) : Int) by rw [IntKind.wrap_u32]; omega]
    exact u32_xor_nat _ _ (by omega) (by omega)
theorem top_bit (n : Nat) (hn : n < 4294967296) : Nat.testBit (n / 2 ^^^ (if n % 2 = 1 then 3988292384 else 0)) 31 = decide (n % 2 = 1) := by
  rw [Nat.testBit_xor, Nat.testBit_lt_two_pow (x := n / 2) (by omega)]
  by_cases hp : n % 2 = 1
  · rw [if_pos hp, decide_eq_true hp]; rfl
  · rw [if_neg hp, decide_eq_false hp]; rfl
theorem crcBit_inj {x y : Int} (hx : U32 x) (hy : U32 y) (h : crcBit x = crcBit y) : x = y := by
  obtain ⟨n, rfl⟩ := Int.eq_ofNat_of_zero_le hx.1
  obtain ⟨m, rfl⟩ := Int.eq_ofNat_of_zero_le hy.1
  have hn : n < 4294967296 := by have := hx.2; omega
  have hm : m < 4294967296 := by have := hy.2; omega
  rw [crcBit_nat n hn, crcBit_nat m hm] at h
  have h := Int.ofNat.inj h
  have hb := congrArg (fun k => Nat.testBit k 31) h
  simp only [top_bit n hn, top_bit m hm, decide_eq_decide] at hb
  have hp : n % 2 = m % 2 := by omega
  rw [hp] at h
  have h2 := congrArg (fun k => k ^^^ (if m % 2 = 1 then 3988292384 else 0)) h
  simp only [Nat.xor_assoc, Nat.xor_self, Nat.xor_zero] at h2
  omega
theorem crcIt_rng {x : Int} (h : U32 x) : ∀ n, U32 (crcIt n x)
  | 0 => h
  | n + 1 => crcBit_rng _
theorem crcIt_inj {x y : Int} (hx : U32 x) (hy : U32 y) : ∀ n, crcIt n x = crcIt n y → x = y
  | 0, h => h
  | n + 1, h => crcIt_inj hx hy n (crcBit_inj (crcIt_rng hx n) (crcIt_rng hy n) h)
theorem xor_rng (x c : Int) : U32 (bits .xor .u32 x c) := ⟨bits_lo_u32 _ _ _, bits_hi_u32 _ _ _⟩
def Byte (c : Int) : Prop := 0 ≤ c ∧ c ≤ 255
theorem xor32 {x c : Int} (hx : U32 x) (hc : U32 c) : bits .xor .u32 x c = ((x.toNat ^^^ c.toNat : Nat) : Int) := by
  unfold U32 at hx hc
  exact u32_xor x c hx.1 (by omega) hc.1 (by omega)
theorem crcByte_injS {x y c : Int} (hx : U32 x) (hy : U32 y) (hc : Byte c) (h : crcByte x c = crcByte y c) : x = y := by
  have h1 := crcIt_inj (xor_rng x c) (xor_rng y c) 8 h
  have hc2 : U32 c := ⟨hc.1, by have := hc.2; omega⟩
  rw [xor32 hx hc2, xor32 hy hc2] at h1
  have h2 := congrArg (fun k => k ^^^ c.toNat) (Int.ofNat.inj h1)
  simp only [Nat.xor_assoc, Nat.xor_self, Nat.xor_zero] at h2
  unfold U32 at hx hy
  omega
theorem crcByte_injB {x c c' : Int} (hx : U32 x) (hc : Byte c) (hc' : Byte c') (h : crcByte x c = crcByte x c') : c = c' := by
  have h1 := crcIt_inj (xor_rng x c) (xor_rng x c') 8 h
  unfold Byte at hc hc'
  have hc2 : U32 c := ⟨hc.1, by omega⟩
  have hc3 : U32 c' := ⟨hc'.1, by omega⟩
  rw [xor32 hx hc2, xor32 hx hc3] at h1
  have h2 := congrArg (fun k => x.toNat ^^^ k) (Int.ofNat.inj h1)
  simp only [← Nat.xor_assoc, Nat.xor_self, Nat.zero_xor] at h2
  omega
theorem crcRun_inj : ∀ (b : List Int) {x y : Int}, U32 x → U32 y → (∀ c ∈ b, Byte c) → crcRun x b = crcRun y b → x = y
  | [], _, _, _, _, _, h => h
  | c :: b, x, y, hx, hy, hb, h => crcByte_injS hx hy (hb c List.mem_cons_self) (crcRun_inj b (crcByte_rng x c) (crcByte_rng y c) (fun d hd => hb d (List.mem_cons_of_mem _ hd)) h)
theorem not32_inj {x y : Int} (hx : U32 x) (hy : U32 y) (h : not32 x = not32 y) : x = y := by
  unfold not32 at h
  have hm : U32 IntKind.u32.max := ⟨by decide, by decide⟩
  rw [xor32 hm hx, xor32 hm hy] at h
  have h2 := congrArg (fun k => IntKind.u32.max.toNat ^^^ k) (Int.ofNat.inj h)
  simp only [← Nat.xor_assoc, Nat.xor_self, Nat.zero_xor] at h2
  unfold U32 at hx hy
  omega
theorem not32_not {x : Int} (hx : U32 x) : not32 (not32 x) = x := by
  unfold not32
  have hm : U32 IntKind.u32.max := ⟨by decide, by decide⟩
  rw [xor32 hm hx]
  have hlt : IntKind.u32.max.toNat ^^^ x.toNat < 4294967296 := Nat.xor_lt_two_pow (n := 32) (by decide) (by unfold U32 at hx; omega)
  rw [xor32 hm ⟨by omega, by omega⟩, Int.toNat_natCast, ← Nat.xor_assoc, Nat.xor_self, Nat.zero_xor]
  unfold U32 at hx
  omega
theorem crcTwo_eq (a b : List Int) : crcTwo a b = not32 (crcRun (crcRun (not32 0) a) b) := by
  unfold crcTwo crcMore
  rw [not32_not (crcRun_rng (not32_rng 0) a)]
def Sm (n : Int) : Prop := 0 ≤ n ∧ n < 256
theorem be4_small {n : Int} (h : Sm n) : be4 n = [0, 0, 0, n] := by
  unfold be4 Sm at *
  rw [show n / 16777216 % 256 = 0 by omega, show n / 65536 % 256 = 0 by omega, show n / 256 % 256 = 0 by omega, show n % 256 = n by omega]
theorem mark_small {e q : Int} (he : Sm e) (hq : Sm q) : markP e q = [0, 0, 0, e, 0, 0, 0, q] := by
  unfold markP
  rw [be4_small he, be4_small hq]
  rfl
/-- The check tells the sequence's numbers apart. -/
theorem crc_tells {e q q' : Int} (he : Sm e) (hq : Sm q) (hq' : Sm q') {m : List Int} (hm : ∀ c ∈ m, Byte c) (h : crcTwo (markP e q) m = crcTwo (markP e q') m) : q = q' := by
  rw [crcTwo_eq, crcTwo_eq] at h
  have h1 := not32_inj (crcRun_rng (crcRun_rng (not32_rng 0) _) m) (crcRun_rng (crcRun_rng (not32_rng 0) _) m) h
  have h2 := crcRun_inj m (crcRun_rng (not32_rng 0) _) (crcRun_rng (not32_rng 0) _) hm h1
  rw [mark_small he hq, mark_small he hq'] at h2
  have h3 : ∀ z : Int, crcRun (not32 0) [0, 0, 0, e, 0, 0, 0, z] = crcByte (crcRun (not32 0) [0, 0, 0, e, 0, 0, 0]) z := fun z => rfl
  rw [h3, h3] at h2
  unfold Sm at hq hq'
  exact crcByte_injB (crcRun_rng (not32_rng 0) _) ⟨hq.1, by omega⟩ ⟨hq'.1, by omega⟩ h2
end Go.Proofs.YtgmeahogdjhejaaGreatDoor
