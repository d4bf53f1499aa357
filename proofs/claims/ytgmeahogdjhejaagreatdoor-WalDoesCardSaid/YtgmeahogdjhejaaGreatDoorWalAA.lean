/- Sums: crc.one, crc.More; sheet.Count. Bytes put together: zeros appended; slices.Grow, slices.Clip, slices.Concat. Bytes put together: slices.Grow, slices.Concat, crc.Of; sheet.last, sheet.marked. -/
import Derived.Test.YtgmeahogdjhejaaGreatDoorWalO
import Derived.Test.YtgmeahogdjhejaaGreatDoorWalLaw
import Derived.Lib.AppendZeros
import Derived.Lib.AppendZerosOnto
import Derived.Test.YtgmeahogdjhejaaGreatDoorSlice
namespace Go.Proofs.YtgmeahogdjhejaaGreatDoor
set_option linter.unusedVariables false
set_option linter.unusedSimpArgs false
open Go.RowKit

theorem byte_cell {w : World} {A : Option Addr} {n c : Nat} {xs : List Int} (h : RdS (encInt .u8) 1 w (.slice A n c) xs) {j : Nat} (hj : j < xs.length) : ∃ bb off, A = some ⟨bb, off, none⟩ ∧ ∀ j (hj : j < xs.length), w.cell? ⟨bb, off + j, none⟩ = some (.int .u8 xs[j]) := by
  obtain ⟨bb, off, cs, T, fr, hA, hbb, _⟩ := h.cell hj
  refine ⟨bb, off, hA, fun j hj => ?_⟩
  obtain ⟨bb2, off2, cs2, T2, fr2, hA2, hbb2, hcs⟩ := h.cell hj
  rw [hA] at hA2
  cases hA2
  rw [cell_of_row w bb _ cs2 T2 fr2 hbb2]
  have := hcs 0 (by omega)
  rw [Nat.mul_one, Nat.add_zero] at this
  rw [this]; rfl
def OneRel (x c : Int) (w : World) (vx vi : Value) (wr : World) : Prop := ∃ k : Nat, vi = .int .i64 (k : Int) ∧ vx = .int .u32 (crcIt k (bits .xor .u32 x c)) ∧ k ≤ 8 ∧ wr = w
set_option maxRecDepth 100000 in
set_option maxHeartbeats 1000000 in
theorem crcOne_any (x c : Int) (w : World) (hc : 0 ≤ c ∧ c ≤ 255) : Calls Tryz.prog 104 #[.int .u32 x, .int .u8 c] w fun e w' => e = .returned (.int .u32 (crcByte x c)) ∧ w' = w := by
  have hw : IntKind.u32.wrap c = c := by rw [IntKind.wrap_u32]; omega
  go_enter Tryz.func104, Tryz.ntmps104
  go_wp2
  go_loopw [0, 10] (fun vx vi wr => OneRel x c w vx vi wr) (fun _ vi _ => 8 - (intOf vi).toNat)
  case atStart => exact ⟨0, rfl, rfl, by omega, rfl⟩
  case round =>
    obtain ⟨k, rfl, rfl, hk, rfl⟩ := hrel
    obtain ⟨y, hy⟩ : ∃ y, crcIt k (bits .xor .u32 x c) = y := ⟨_, rfl⟩
    rw [hy]
    have HY := Lib.hid hy
    clear hy
    by_cases hkn : k < 8
    · have hki : (k : Int) < 8 := by omega
      go_wp2
      go_roundw
      case rel => exact ⟨k + 1, by go_num, by show _ = Value.int .u32 (crcBit (crcIt k (bits .xor .u32 x c))); rw [HY.out]; unfold crcBit; simp [IntKind.wrap_u32], by omega, rfl⟩
      case measure => simp [intOf]; omega
    · obtain rfl : k = 8 := by omega
      have hq2 : ¬ (((8 : Nat) : Int) < 8) := by omega
      go_wp2
      go_ret
      exact ⟨by unfold crcByte; rw [HY.out]; simp, rfl⟩
def MoreRel (x : Int) (b : List Int) (w : World) (vx vi : Value) (wr : World) : Prop := ∃ k : Nat, vi = .int .i64 (k : Int) ∧ vx = .int .u32 (crcRun x (b.take k)) ∧ k ≤ b.length ∧ wr = w
set_option maxRecDepth 100000 in
set_option maxHeartbeats 1000000 in
theorem crcMore_any (s : Int) (v : Value) (b : List Int) (w : World) (hr : RdS (encInt .u8) 1 w v b) (hb : ∀ x ∈ b, 0 ≤ x ∧ x ≤ 255) (hl : b.length ≤ 1000000000) : Calls Tryz.prog 88 #[.int .u32 s, v] w fun e w' => e = .returned (.int .u32 (crcMore s b)) ∧ w' = w := by
  obtain ⟨A, cap, rfl, _⟩ := hr.len
  have HR := Lib.hid (And.intro hr hb)
  clear hr hb
  go_enter Tryz.func88, Tryz.ntmps88
  go_wp2
  go_loopw [5, 12] (fun vx vi wr => MoreRel (not32 s) b w vx vi wr) (fun _ vi _ => b.length - (intOf vi).toNat)
  case atStart => exact ⟨0, rfl, rfl, by omega, rfl⟩
  case round =>
    obtain ⟨k, rfl, rfl, hk, rfl⟩ := hrel
    obtain ⟨y, hy⟩ : ∃ y, crcRun (not32 s) (b.take k) = y := ⟨_, rfl⟩
    rw [hy]
    have HY := Lib.hid hy
    clear hy
    by_cases hkn : k < b.length
    · have hki : (k : Int) < (b.length : Int) := by omega
      obtain ⟨bb, off, rfl, hcs⟩ := byte_cell HR.out.1 hkn
      have hck := hcs k hkn
      have hcb := HR.out.2 b[k] (List.getElem_mem hkn)
      obtain ⟨c, hc⟩ : ∃ c, b[k] = c := ⟨_, rfl⟩
      rw [hc] at hck hcb
      have HC := Lib.hid hc
      have hone := fun {W : World} => crcOne_any y c W hcb
      clear hc hcs
      go_wp2_with (first
        | (go_at_call 104; refine hone.mono ?_; rintro e w9 ⟨rfl, rfl⟩))
      go_roundw
      case rel => exact ⟨k + 1, by go_num, by rw [List.take_add_one, List.getElem?_eq_getElem hkn, HC.out]; unfold crcRun at HY ⊢; rw [Option.toList_some, List.foldl_append, HY.out]; rfl, by omega, rfl⟩
      case measure => simp [intOf]; omega
    · obtain rfl : k = b.length := by omega
      have hq2 : ¬ ((b.length : Int) < (b.length : Int)) := by omega
      go_wp2
      go_ret
      exact ⟨by unfold crcMore not32 at *; rw [← HY.out, List.take_length]; rfl, rfl⟩
set_option maxRecDepth 100000 in
theorem count_any (n : Nat) (hn : n ≤ 65535) (w : World) : Calls Tryz.prog 53 #[.int .i64 (n : Int)] w fun e w' => e = .returned (.int .i64 (countP n : Int)) ∧ w' = w := by
  have h1 : ¬ (n : Int) < 0 := by omega
  have h2 : ¬ 65535 < (n : Int) := by omega
  have h3 : IntKind.i64.wrap ((n : Int) + 6) = (n : Int) + 6 := by rw [IntKind.wrap_i64]; omega
  have h4 : IntKind.i64.wrap ((n : Int) + 6 - 1) = (n : Int) + 5 := by rw [IntKind.wrap_i64]; omega
  go_enter Tryz.func53, Tryz.ntmps53
  go_wp2
  go_ret
  refine ⟨?_, rfl⟩
  unfold countP
  show Ending.returned _ = _
  simp only [IntKind.wrap_i64]
  congr 2
theorem count_big (n : Int) (hn : 65535 < n) (w : World) : Calls Tryz.prog 53 #[.int .i64 n] w fun e w' => e = .returned (.int .i64 0) ∧ w' = w := by
  have h1 : ¬ n < 0 := by omega
  go_enter Tryz.func53, Tryz.ntmps53
  go_wp2
  go_ret
  exact ⟨rfl, rfl⟩
end Go.Proofs.YtgmeahogdjhejaaGreatDoor

namespace Go.Proofs.YtgmeahogdjhejaaGreatDoor
set_option linter.unusedVariables false
set_option linter.unusedSimpArgs false
open Go.RowKit

def zB (k : Nat) : List Value := List.replicate k (.int .u8 0)
theorem zB_len (k : Nat) : (zB k).length = k := by simp [zB]
theorem zeroCells_u8 (k : Nat) : (Builtin.zeroCells (Value.int .u8 0).cells k).toList = zB k := by
  show ((Array.range (k * 1)).map fun i => (#[Value.int .u8 0] : Array Value)[i % 1]!).toList = _
  have : (fun i : Nat => (#[Value.int .u8 0] : Array Value)[i % 1]!) = fun _ => Value.int .u8 0 := by funext i; simp [Nat.mod_one]
  rw [this]
  simp [zB, List.map_const']
theorem zB_one (k : Nat) : ∀ u ∈ zB k, u.oneCell' = true := fun u hu => by rw [(List.mem_replicate.1 hu).2]; rfl
theorem ownBlock_some (g n c : Nat) : (Value.slice (some ⟨g, 0, none⟩) n c).ownBlock = some g := rfl
set_option maxRecDepth 100000 in
theorem run_appendZ {w : World} {base : Nat} {ty : TypeId} {v : Value} {n : Nat} {xs : List Value} (hown : w.ownsRow base 5 1 v n xs) (k : Nat) (hk : n + k ≤ 1000000) (hbase : base ≤ w.heap.size) :
    ∃ v' w', (Builtin.append_ #[22, 3] ty #[v, .int .i64 (k : Int)]).run Tryz.prog w = .ok v' w' ∧ w'.ownsRow base 5 1 v' (n + k) (xs ++ zB k) ∧ w.grownBy w' v.ownBlock ∧ (v'.ownBlock = v.ownBlock ∨ v'.ownBlock = some w.heap.size) := by
  obtain ⟨i0, hi, hz, hs, hb⟩ := info_parts info5
  have hu := run_underlying (P := Tryz.prog) Tryz.underlying22
  have hun := run_underlying (P := Tryz.prog) Tryz.underlying3
  have hwk : IntKind.i64.wrap (k : Int) = (k : Int) := by rw [IntKind.wrap_i64]; omega
  have hkn : ¬ (k : Int) < 0 := by omega
  have hkb : ¬ (281474976710656 : Int) < (k : Int) := by omega
  by_cases h0 : k = 0
  · subst h0
    have hr : (Builtin.append_ #[22, 3] ty #[v, .int .i64 ((0 : Nat) : Int)]).run Tryz.prog w = .ok v w := by
      rcases hown.2 with ⟨rfl, h0⟩ | ⟨g, c, cur, rfl, _, _, hle, _⟩
      · simp [Builtin.append_, hu, hun, sizeOf, typeInfo, hi, hs, hb, asInt, asIntOf, storeCells, IntKind.wrap_i64]
      · simp [Builtin.append_, hu, hun, sizeOf, typeInfo, hi, hs, hb, asInt, asIntOf, hle, storeCells, IntKind.wrap_i64]
    exact ⟨v, w, hr, by simpa [zB] using hown, ⟨rfl, rfl, rfl, Nat.le_refl _, fun _ _ _ => rfl⟩, .inl rfl⟩
  · have hG := grownCap_ge w (n + k)
    have hfresh : ∀ (olds : List Value) (c : Nat), olds.length = n → c < n + k → c ≤ 1000000 → olds = xs → ∀ (row : Array Value), row = olds.toArray ++ Builtin.zeroCells (Value.int .u8 0).cells k ++ Builtin.zeroCells (Value.int .u8 0).cells (grownCap w (n + k) c 5 - (n + k)) →
        (w.drew.alloc (.cells row 5)).ownsRow base 5 1 (.slice (some ⟨w.heap.size, 0, none⟩) (n + k) (grownCap w (n + k) c 5)) (n + k) (xs ++ zB k) := by
      intro olds c hol hc hcm hox row hrow
      have hge : n + k ≤ grownCap w (n + k) c 5 := grownCap_ge w _ _ _
      have hle : grownCap w (n + k) c 5 ≤ maxLen := grownCap_le_maxLen w (n + k) c 5 (by unfold maxLen; omega)
      have hrl : row.toList = xs ++ (zB k ++ zB (grownCap w (n + k) c 5 - (n + k))) := by
        rw [hrow, Array.toList_append, Array.toList_append, zeroCells_u8, zeroCells_u8, hox, List.append_assoc]
      have hxl : xs.length = n := by rw [← hox]; exact hol
      refine ⟨by rw [List.length_append, zB_len, hxl, Nat.mul_one], .inr ⟨w.heap.size, _, row, rfl, hbase, heap_alloc_new w.drew _, hge, hle, ?_, ?_⟩⟩
      · rw [← Array.length_toList, hrl, List.length_append, List.length_append, zB_len, zB_len, hxl]
        omega
      · rw [hrl, ← List.append_assoc, List.take_left' (by rw [List.length_append, zB_len, hxl, Nat.mul_one])]
    have hgrown : ∀ (row : Array Value) (r : Option Nat), w.grownBy (w.drew.alloc (.cells row 5)) r := fun row r =>
      ⟨rfl, rfl, rfl, by simp, fun i hi _ => (Below.heap_alloc w.drew _ i hi)⟩
    rcases hown.2 with ⟨rfl, hn0⟩ | ⟨g, c, cur, rfl, hbg, hg, hle, hcm, hcs, hrow⟩
    · subst hn0
      have hx0 : xs = [] := List.eq_nil_of_length_eq_zero (by have := hown.1; simpa using this)
      have hr := Lib.run_append_nil_zeros (P := Tryz.prog) w 22 3 ty 5 i0 _ .i64 .i64 Tryz.underlying22 Tryz.underlying3 hi hz k (by omega) (by rw [hs]; omega) (by omega) (by rw [hb]; omega)
      refine ⟨_, _, hr, ?_, hgrown _ _, .inr rfl⟩
      have := hfresh [] 0 rfl (by omega) (by omega) hx0.symm _ rfl
      simp only [Nat.zero_add] at this ⊢
      simpa using this
    · by_cases hf : n + k ≤ c
      · have hst := run_storeCells_at Tryz.prog g n 5 (zB k) 0 cur w hg (by rw [zB_len]; omega) (zB_one k)
        have hr : (Builtin.append_ #[22, 3] ty #[.slice (some ⟨g, 0, none⟩) n c, .int .i64 (k : Int)]).run Tryz.prog w = .ok (.slice (some ⟨g, 0, none⟩) (n + k) c) (w.setRow g (cur.toList.take n ++ zB k ++ cur.toList.drop (n + k)).toArray) := by
          have hadd : (⟨g, 0, none⟩ : Addr).add n = ⟨g, n, none⟩ := by by_cases hn : n = 0 <;> simp [Addr.add, hn]
          simp only [Nat.add_zero, zB_len] at hst
          simp [Builtin.append_, hu, hun, sizeOf, typeInfo, zeroValue, hi, hs, hb, asInt, asIntOf, hwk, hkn, hkb, hf, h0, hz, zeroCells_u8, hadd, hst]
        refine ⟨_, _, hr, ?_, ⟨rfl, rfl, rfl, by simp, fun i hi hn => setRow_other w g i _ (fun e => hn (by rw [e]; rfl))⟩, .inl rfl⟩
        have hxl : xs.length = n := by have := hown.1; omega
        rw [Nat.mul_one] at hrow
        refine ⟨by rw [List.length_append, zB_len, hxl, Nat.mul_one], .inr ⟨g, c, _, rfl, hbg, setRow_heap w g cur _ _ _ hg, hf, hcm, ?_, ?_⟩⟩
        · rw [List.size_toArray, List.length_append, List.length_append, List.length_take, List.length_drop, zB_len, Array.length_toList]
          omega
        · rw [Nat.mul_one, hrow, List.take_left' (by rw [List.length_append, zB_len, hxl])]
      · have hold : (Builtin.firstCells i0.size n (.slice (some ⟨g, 0, none⟩) n c)).run Tryz.prog w.drew = .ok xs.toArray w.drew := by
          rw [hs]
          exact run_firstCells_some (P := Tryz.prog) w.drew 1 n ⟨g, 0, none⟩ n c xs hown.1 (fun j v hj => by
            have hj2 : j < xs.length := (List.getElem?_eq_some_iff.1 hj).1
            have hadd : (⟨g, 0, none⟩ : Addr).add j = ⟨g, j, none⟩ := by by_cases hn : j = 0 <;> simp [Addr.add, hn]
            rw [hadd]
            show w.cell? ⟨g, j, none⟩ = some v
            rw [cell_of_row w g j cur _ _ hg, ← Array.getElem?_toList]
            rw [← hrow, List.getElem?_take] at hj
            split at hj
            · exact hj
            · cases hj)
        have hr := Lib.run_append_grow_zeros (P := Tryz.prog) w 22 3 ty 5 i0 _ .i64 .i64 Tryz.underlying22 Tryz.underlying3 hi hz (some ⟨g, 0, none⟩) n c xs hold k (by omega) (by rw [hs]; omega) (by omega) (by omega) (by rw [hb]; omega) (by rw [hb]; exact growslice_fits (by omega) (by omega))
        refine ⟨_, _, hr, ?_, hgrown _ _, .inr rfl⟩
        exact hfresh xs c (by have := hown.1; omega) (by omega) (by omega) rfl _ rfl
section
variable {w w0 : World} {M : Nat → Prop} {L : List Asr} {a : Act} {o : Oper} {Q : Exit → Act → World → Prop} {K : Act → World → Prop}
/-- 'append(s, make([]byte, k)...)', s of the call's own. -/
theorem W_appendZ {s x : Operand} (ho : o.op = .call { callee := .builtin .append, args := #[s, x], argTypes := #[22, 3] }) (H : SH M w0 w L) (i : Nat)
    {v : Value} {n : Nat} {xs : List Value} (hA : L[i]? = some (ownA 5 1 v n xs)) (hs : a.eval s = v) {k : Nat} (hx : a.eval x = .int .i64 (k : Int)) (hk : n + k ≤ 1000000)
    (kk : ∀ v' w', SH M w0 w' (L.set i (ownA 5 1 v' (n + k) (xs ++ zB k))) → K (a.put o.dst v') w') : o.wp Tryz.prog a w K Q := by
  obtain ⟨v', w', hr, hown, hg, hat⟩ := run_appendZ (ty := o.type) (H.get i hA) k hk (Nat.zero_le _)
  unfold Oper.wp execOp
  simp only [ho, resolve, invoke, builtin, Sem.run_bind, Sem.run_pure, Result.andThen_ok, List.map_toArray, List.map_cons, List.map_nil, hs, hx, hr]
  refine kk v' w' (H.upd i hA ((Ext.of_grown hg).mono (fun j _ hj => ?_)) hown (fun j hj => ?_))
  · exact hj.symm
  · refine ⟨?_, (hown.lt j hj).2⟩
    rcases hat with h | h
    · exact .inl (show v.ownBlock = some j from h.symm.trans hj)
    · have hj' : v'.ownBlock = some j := hj
      rw [h] at hj'; cases hj'; exact .inr (Nat.le_refl _)
end
end Go.Proofs.YtgmeahogdjhejaaGreatDoor

namespace Go.Proofs.YtgmeahogdjhejaaGreatDoor
set_option linter.unusedVariables false
set_option linter.unusedSimpArgs false
open Go.RowKit

theorem infoU8 : (Tryz.prog.info? 5).map (fun i => (i.zero, i.size, i.bytes)) = some (some (.int .u8 0), 1, 1) := by kernel_rfl
section
variable {w w0 : World} {M : Nat → Prop} {L : List Asr} {a : Act} {o : Oper} {ops : Array Oper} {rest : List Oper} {Q : Exit → Act → World → Prop}
theorem L_appendZ (hgd : o.guard = none) {s x : Operand} (ho : o.op = .call { callee := .builtin .append, args := #[s, x], argTypes := #[22, 3] }) (H : SH M w0 w L) (i : Nat)
    {v : Value} {n : Nat} {xs : List Value} (hA : L[i]? = some (ownA 5 1 v n xs)) (hs : a.eval s = v) {k : Nat} (hx : a.eval x = .int .i64 (k : Int)) (hk : n + k ≤ 1000000)
    (kk : ∀ v' w', SH M w0 w' (L.set i (ownA 5 1 v' (n + k) (xs ++ zB k))) → wpList Tryz.prog ops Q rest (a.put o.dst v') w') : wpList Tryz.prog ops Q (o :: rest) a w :=
  wpList_plain hgd fun K hK => W_appendZ ho H i hA hs hx hk (fun v' w' h => hK _ _ (kk v' w' h))
end
theorem own_zero {w : World} {base g n c : Nat} {T : TypeId} {xs : List Value} (h : w.ownsRow base T 1 (.slice (some ⟨g, 0, none⟩) n c) n xs) : w.ownsRow base T 1 (.slice (some ⟨g, 0, none⟩) 0 c) 0 [] := by
  rcases h.2 with ⟨h, _⟩ | ⟨g', c', cur, he, h1, h2, h3, h4, h5, h6⟩
  · cases h
  · cases he
    exact ⟨rfl, .inr ⟨g, c, cur, rfl, h1, h2, Nat.zero_le _, h4, h5, by simp⟩⟩
theorem own_some {w : World} {base : Nat} {T : TypeId} {k : Nat} {v : Value} {n : Nat} {xs : List Value} (h : w.ownsRow base T k v n xs) (hn : 0 < n) : ∃ g c, v = .slice (some ⟨g, 0, none⟩) n c ∧ n ≤ c := by
  rcases h.2 with ⟨_, h0⟩ | ⟨g, c, cur, he, _, _, h3, _⟩
  · omega
  · exact ⟨g, c, he, h3⟩
def GivesRoom (w : World) (e : Ending) (w' : World) : Prop := ∃ v, e = .returned v ∧ w'.ownsRow w.heap.size 5 1 v 0 [] ∧ Ext0 w w'
set_option maxRecDepth 100000 in
set_option maxHeartbeats 1000000 in
theorem grow_any (n : Nat) (hn : 0 < n) (hn2 : n ≤ 1000000) (w : World) : Calls Tryz.prog 86 #[.slice none 0 0, .int .i64 (n : Int)] w (GivesRoom w) := by
  have H := (SH.nil (fun _ => False) w).addNil 5 1
  have h1 : ¬ (n : Int) < 0 := by omega
  have h2 : IntKind.i64.wrap (n : Int) = (n : Int) := by rw [IntKind.wrap_i64]; omega
  have h3 : (0 : Int) < (n : Int) := by omega
  go_enter Tryz.func86, Tryz.ntmps86
  go_wp2_with (first
    | (refine L_appendZ rfl rfl H 0 rfl rfl rfl (by omega) ?_; clear H; intro v w2 H; simp only [List.set_cons_zero, Nat.zero_add, List.nil_append] at H; obtain ⟨g, c, rfl, hc⟩ := own_some (H.get 0 rfl) hn; have hcc : ¬ c = 0 := (by omega)))
  go_ret
  exact ⟨_, rfl, own_zero (H.retOwn 0 rfl (fun _ _ h => h)), H.ext⟩
/-- Slices of bytes, one behind the other in a row. -/
structure Parts (w : World) (g : Nat) (ps : List (Value × List Int)) : Prop where
  row : w.heap[g]? = some (.cells (ps.map (·.1)).toArray 22 (0, 0))
  reads : ∀ p ∈ ps, RdS (encInt .u8) 1 w p.1 p.2
  bytes : ∀ p ∈ ps, ∀ x ∈ p.2, 0 ≤ x ∧ x ≤ 255
theorem Parts.keep {w w' : World} {g : Nat} {ps : List (Value × List Int)} (h : Parts w g ps) (e : Ext0 w w') : Parts w' g ps := ⟨e.block0 h.row, fun p hp => (h.reads p hp).keep e, h.bytes⟩
theorem Parts.at_ {w : World} {g : Nat} {ps : List (Value × List Int)} (h : Parts w g ps) {k : Nat} (hk : k < ps.length) : ∃ A c, w.cell? ⟨g, k, none⟩ = some (.slice A ps[k].2.length c) ∧ RdS (encInt .u8) 1 w (.slice A ps[k].2.length c) ps[k].2 := by
  obtain ⟨A, c, he, _⟩ := (h.reads _ (List.getElem_mem hk)).len
  have h1 := h.reads _ (List.getElem_mem hk)
  rw [he] at h1
  refine ⟨A, c, ?_, h1⟩
  rw [cell_of_row w g k _ _ _ h.row]
  simp [List.getElem?_map, hk, he]
def flatB (ps : List (Value × List Int)) : List Int := ps.flatMap (·.2)
theorem flatB_snoc (ps : List (Value × List Int)) {k : Nat} (hk : k < ps.length) : flatB (ps.take (k + 1)) = flatB (ps.take k) ++ ps[k].2 := by
  unfold flatB
  rw [List.take_add_one, List.getElem?_eq_getElem hk, List.flatMap_append]
  simp
theorem flatB_take (ps : List (Value × List Int)) (k : Nat) : (flatB (ps.take k)).length ≤ (flatB ps).length := by
  conv => rhs; rw [← List.take_append_drop k ps]
  unfold flatB
  rw [List.flatMap_append, List.length_append]
  omega
def CcRel1 (ps : List (Value × List Int)) (w : World) (vs vi : Value) (wr : World) : Prop := ∃ k : Nat, vi = .int .i64 (k : Int) ∧ vs = .int .i64 ((flatB (ps.take k)).length : Int) ∧ k ≤ ps.length ∧ wr = w
def CcRel2 (ps : List (Value × List Int)) (w0 : World) (vs vi : Value) (wr : World) : Prop := ∃ k : Nat, vi = .int .i64 (k : Int) ∧ k ≤ ps.length ∧ SH (fun _ => False) w0 wr [ownA 5 1 vs (flatB (ps.take k)).length (cellsOf (encInt .u8) (flatB (ps.take k)))]
/-- Bytes in memory of the call's own. -/
def GivesNew (w : World) (xs : List Int) (e : Ending) (w' : World) : Prop := ∃ v, e = .returned v ∧ w'.ownsRow w.heap.size 5 1 v xs.length (cellsOf (encInt .u8) xs) ∧ Ext0 w w'
set_option maxRecDepth 100000 in
set_option maxHeartbeats 2000000 in
theorem concat_any (g : Nat) (ps : List (Value × List Int)) (w0 : World) (h : Parts w0 g ps) (hp : ps.length ≤ 1000) (h0 : 0 < (flatB ps).length) (hl : (flatB ps).length ≤ 1000000) :
    Calls Tryz.prog 76 #[.slice (some ⟨g, 0, none⟩) ps.length ps.length] w0 (GivesNew w0 (flatB ps)) := by
  have HP := Lib.hid h
  have HL := Lib.hid (And.intro h0 hl)
  have hgr := fun {W : World} => grow_any (flatB ps).length h0 hl W
  clear h h0 hl
  go_enter Tryz.func76, Tryz.ntmps76
  go_wp2
  go_loopw [3, 11] (fun vs vi wr => CcRel1 ps w0 vs vi wr) (fun _ vi _ => ps.length - (intOf vi).toNat)
  case atStart => exact ⟨0, rfl, rfl, Nat.zero_le _, rfl⟩
  case round =>
    obtain ⟨k, rfl, rfl, hk, hwr⟩ := hrel
    replace hwr := hwr.symm
    subst hwr
    by_cases hkn : k < ps.length
    · have hki : (k : Int) < (ps.length : Int) := by omega
      obtain ⟨A, c, hc, _⟩ := HP.out.at_ hkn
      have hsn := congrArg List.length (flatB_snoc ps hkn)
      rw [List.length_append] at hsn
      have ht := flatB_take ps (k + 1)
      obtain ⟨m, hm⟩ : ∃ m, ps[k].2.length = m := ⟨_, rfl⟩
      obtain ⟨s, hs⟩ : ∃ s, (flatB (ps.take k)).length = s := ⟨_, rfl⟩
      rw [hm] at hc
      rw [hs]
      rw [hm, hs] at hsn
      have hlt := HL.out.2
      have hw1 : IntKind.i64.wrap ((s : Int) + (m : Int)) = (s : Int) + (m : Int) := by rw [IntKind.wrap_i64]; omega
      have hw2 : ¬ ((s : Int) + (m : Int)) < 0 := by omega
      have HSN := Lib.hid hsn
      clear hsn ht hm hs hlt
      go_wp2
      go_roundw
      case rel => exact ⟨k + 1, by go_num, by rw [HSN.out]; rfl, by omega, rfl⟩
      case measure => simp [intOf]; omega
    · obtain rfl : k = ps.length := by omega
      have hq2 : ¬ ((ps.length : Int) < (ps.length : Int)) := by omega
      rw [List.take_length]
      go_wp2_with (first
        | (go_at_call 86; refine hgr.mono ?_; rintro e w1 ⟨v, rfl, ho, hE⟩))
      have H := (SH.nil (fun _ => False) w0).addOwn hE ho
      clear ho hE hgr
      go_loopw [6, 27] (fun vs vi wr => CcRel2 ps w0 vs vi wr) (fun _ vi _ => ps.length - (intOf vi).toNat)
      case atStart => exact ⟨0, rfl, Nat.zero_le _, H⟩
      case round =>
        clear H
        obtain ⟨k, rfl, hk, H⟩ := hrel
        by_cases hkn : k < ps.length
        · have hki : (k : Int) < (ps.length : Int) := by omega
          obtain ⟨A, c, hc, hrd⟩ := (HP.out.keep H.ext).at_ hkn
          have hsn := flatB_snoc ps hkn
          have hsl := congrArg List.length hsn
          rw [List.length_append] at hsl
          have ht := flatB_take ps (k + 1)
          have hb1 : ((flatB (ps.take k)).length + ps[k].2.length) * 1 ≤ 140737488355328 := by have := HL.out.2; omega
          have hm1 : (flatB (ps.take k)).length + ps[k].2.length ≤ maxLen := by have := HL.out.2; unfold maxLen; omega
          obtain ⟨ys, hys⟩ : ∃ ys, ps[k].2 = ys := ⟨_, rfl⟩
          rw [hys] at hc hrd hb1 hm1
          have HSN := Lib.hid (And.intro hsn hsl)
          have HYS := Lib.hid hys
          clear hsn hsl ht hys
          go_wp2_with (first
            | (refine L_append (encInt_len .u8) (encInt_one .u8) rfl rfl Tryz.underlying22 infoU8 rfl (by decide) H 0 rfl rfl rfl hrd hb1 hm1 ?_; clear H; intro v2 w H hnn; clear hnn; simp only [List.set_cons_zero] at H))
          go_roundw
          case rel => exact ⟨k + 1, by go_num, by omega, by rw [HSN.out.2, HSN.out.1, HYS.out, cellsOf_append]; exact H⟩
          case measure => simp [intOf]; omega
        · obtain rfl : k = ps.length := by omega
          rw [List.take_length] at H
          go_wp2
          go_ret
          exact ⟨_, rfl, H.retOwn 0 rfl (fun _ _ h => h), H.ext⟩
theorem crc_snoc (ps : List (Value × List Int)) {k : Nat} (hk : k < ps.length) (s : Int) : (ps.take (k + 1)).foldl (fun x p => crcMore x p.2) s = crcMore ((ps.take k).foldl (fun x p => crcMore x p.2) s) ps[k].2 := by
  rw [List.take_add_one, List.getElem?_eq_getElem hk, List.foldl_append]
  simp
def OfRel (ps : List (Value × List Int)) (w : World) (vs vi : Value) (wr : World) : Prop := ∃ k : Nat, vi = .int .i64 (k : Int) ∧ vs = .int .u32 ((ps.take k).foldl (fun x p => crcMore x p.2) 0) ∧ k ≤ ps.length ∧ wr = w
set_option maxRecDepth 100000 in
set_option maxHeartbeats 2000000 in
theorem crcOf_any (g : Nat) (ps : List (Value × List Int)) (w0 : World) (h : Parts w0 g ps) (hp : ps.length ≤ 1000) (hl : ∀ p ∈ ps, p.2.length ≤ 1000000) :
    Calls Tryz.prog 78 #[.slice (some ⟨g, 0, none⟩) ps.length ps.length] w0 fun e w' => e = .returned (.int .u32 (ps.foldl (fun x p => crcMore x p.2) 0)) ∧ w' = w0 := by
  have HP := Lib.hid h
  have HL := Lib.hid hl
  clear h hl
  go_enter Tryz.func78, Tryz.ntmps78
  go_wp2
  go_loopw [3, 8] (fun vs vi wr => OfRel ps w0 vs vi wr) (fun _ vi _ => ps.length - (intOf vi).toNat)
  case atStart => exact ⟨0, rfl, rfl, Nat.zero_le _, rfl⟩
  case round =>
    obtain ⟨k, rfl, rfl, hk, hwr⟩ := hrel
    replace hwr := hwr.symm
    subst hwr
    by_cases hkn : k < ps.length
    · have hki : (k : Int) < (ps.length : Int) := by omega
      obtain ⟨A, c, hc, hrd⟩ := HP.out.at_ hkn
      have hmem := List.getElem_mem hkn
      have hsn := crc_snoc ps hkn 0
      obtain ⟨s, hs⟩ : ∃ s, (ps.take k).foldl (fun x p => crcMore x p.2) 0 = s := ⟨_, rfl⟩
      have hmore := fun {W : World} (hr : RdS (encInt .u8) 1 W (.slice A ps[k].2.length c) ps[k].2) => crcMore_any s _ ps[k].2 W hr (HP.out.bytes _ hmem) (by have := HL.out _ hmem; omega)
      obtain ⟨ys, hys⟩ : ∃ ys, ps[k].2 = ys := ⟨_, rfl⟩
      rw [hys] at hc hrd hmore hsn
      rw [hs] at hsn ⊢
      have HSN := Lib.hid hsn
      clear hsn hys hs hmem
      go_wp2_with (first
        | (go_at_call 88; refine (hmore hrd).mono ?_; rintro e w9 ⟨rfl, hw9⟩; replace hw9 := hw9.symm; subst hw9))
      go_roundw
      case rel => exact ⟨k + 1, by go_num, by rw [HSN.out], by omega, rfl⟩
      case measure => simp [intOf]; omega
    · obtain rfl : k = ps.length := by omega
      have hq2 : ¬ ((ps.length : Int) < (ps.length : Int)) := by omega
      rw [List.take_length]
      go_wp2
      go_ret
      exact ⟨rfl, rfl⟩
end Go.Proofs.YtgmeahogdjhejaaGreatDoor
