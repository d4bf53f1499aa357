/- Arguments of the laws of tables: blocks and ints; what With and Without leave. -/
import Derived.Test.YtoaieodcdbbndaaTabR
import Derived.Test.YtoaieodcdbbndaaTabRo
import Derived.Deep.RegionWith
import Derived.WalkKit
import Derived.ProofKit
import Derived.OpenShut
import Derived.ShutString
import Derived.ChangeOld
import Derived.Below
namespace Go.Proofs.Ytoaieodcdbbndaa
set_option linter.unusedVariables false
set_option linter.unusedSimpArgs false
open Go.RowKit

section
open Go.ChangeShapes Go.WideShapes Go.Deep
theorem slice_len {H : Type} {enc : TypeId × Value → H} {P : Program} {w : World} {t e : TypeId} {A : Option Addr} {len cap : Nat} {d : DataW H} {ps : List MemPlace} (ht : P.underlying t = some (.slice e)) (h : DataW.Trod enc P w 0 (fun _ => true) true t (.slice A len cap) d ps) : len ≤ maxLen := by
  obtain ⟨fuel, hf⟩ := h
  rcases open_slice ht hf with ⟨hcs, _⟩ | ⟨a, len', cap', m, n, D, Pl, hcs, _, hl, hc, _⟩
  · simp [Value.cells] at hcs
    obtain ⟨_, rfl, _⟩ := hcs
    exact Nat.zero_le _
  · simp [Value.cells] at hcs
    obtain ⟨_, rfl, rfl⟩ := hcs
    omega
def IntsIn (w : World) (v : Value) : Prop := ∃ xs : List Int, RdS (encInt .i64) 1 w v xs ∧ xs.length ≤ maxLen
set_option maxRecDepth 100000 in
theorem ints_arg {H : Type} {enc : TypeId × Value → H} {w : World} {r : Reach} {base : Nat} {v : Value} {d : DataW H} {ps : List MemPlace} (hv : Value.okWide Try.prog w r base 46 v) (h : DataW.Trod enc Try.prog w 0 (fun _ => true) true 46 v d ps) : IntsIn w v := by
  obtain ⟨A, len, cap, rfl⟩ := okWide_slice Try.underlying46 hv
  have hl := slice_len Try.underlying46 h
  obtain ⟨xs, hr, _⟩ := rds_of_slice (enc' := encInt .i64) (k := 1) (Ok := fun _ => True) Try.underlying46 c1_int (by omega) (fun n cs x h => by
    obtain ⟨a, e, _, wf⟩ := DataW.trod_int Try.underlying3 h
    exact ⟨a, e, trivial⟩) h
  obtain ⟨_, _, he, _⟩ := hr.len
  simp only [Value.slice.injEq] at he
  exact ⟨xs, hr, by rw [← he.2.1]; exact hl⟩
def BlkIn (w : World) (v : Value) : Prop := ∃ p : BV, v = blkV p ∧ RdS (encInt .u8) 1 w p.wv p.2.wrap ∧ p.2.Num ∧ ∀ x ∈ p.2.wrap, 0 ≤ x ∧ x ≤ 255
set_option maxRecDepth 100000 in
open Go.Joins in
theorem blk_arg {H : Type} {enc : TypeId × Value → H} {w : World} {r : Reach} {base : Nat} {v : Value} {d : DataW H} {ps : List MemPlace} (hv : Value.okWide Try.prog w r base 45 v) (h : DataW.Trod enc Try.prog w 0 (fun _ => true) true 45 v d ps) : BlkIn w v := by
  obtain ⟨cs, rfl, _⟩ := okWide_struct Try.underlying45 hv
  obtain ⟨n, hf⟩ := h
  obtain ⟨p, hp, h1, h2, h3⟩ := blk_of n _ _ hf
  refine ⟨p, ?_, h1, h2, h3⟩
  unfold blkV
  congr 1
  exact Array.toList_inj.1 hp
end
theorem withL_mem {bs : List Blk} {x b : Blk} (h : b ∈ withL bs x) : b ∈ bs ∨ b = x := by
  unfold withL at h
  split at h
  · rcases List.mem_append.1 h with h | h
    · exact .inl (List.mem_of_mem_take h)
    · rcases List.mem_cons.1 h with h | h
      · exact .inr h
      · exact .inl (List.mem_of_mem_drop h)
  · exact List.mem_or_eq_of_mem_set h
theorem withL_len (bs : List Blk) (x : Blk) : (withL bs x).length ≤ bs.length + 1 := by
  unfold withL
  split
  · rw [List.length_append, List.length_cons, List.length_take, List.length_drop]
    omega
  · rw [List.length_set]; omega
theorem outL_mem {bs : List Blk} {ids : List Int} {b : Blk} (h : b ∈ outL bs ids) : b ∈ bs := (List.mem_filter.1 h).1
theorem outL_len (bs : List Blk) (ids : List Int) : (outL bs ids).length ≤ bs.length := List.length_filter_le _ _
theorem cutT_fit2 {t : Tab} (h : ∀ b ∈ t.bs, b.Num ∧ ∀ x ∈ b.wrap, 0 ≤ x ∧ x ≤ 255) : ∀ b ∈ (cutT t).bs, b.Fit := fun b hb => by
  obtain ⟨c, hc, rfl⟩ := List.mem_map.1 hb
  have hc2 := h c (List.mem_of_mem_take hc)
  refine ⟨?_, fun x hx => hc2.2 x (List.mem_of_mem_take hx)⟩
  show (c.wrap.take 80).length ≤ 1000
  rw [List.length_take]
  omega
theorem take_len80 {f f80 : List Int} (h : f.take 80 = f80) : f.take f80.length = f80 := by
  subst h
  rw [List.length_take]
  rcases Nat.le_total 80 f.length with h | h
  · rw [Nat.min_eq_left h]
  · rw [Nat.min_eq_right h, List.take_length, List.take_of_length_le h]
theorem one6s (a b c d e : Int) (A : Option Addr) (n m : Nat) : (#[Value.int .i64 a, .int .i64 b, .int .i64 c, .int .i64 d, .int .i64 e, .slice A n m] : Array Value).all (·.oneCell') = true := by simp [Value.oneCell']
end Go.Proofs.Ytoaieodcdbbndaa
