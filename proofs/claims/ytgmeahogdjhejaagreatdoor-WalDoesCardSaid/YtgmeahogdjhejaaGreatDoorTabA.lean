/- Numbers and texts put down as bytes: octet.Int, octet.Text; the document's. -/
import Derived.Test.YtgmeahogdjhejaaGreatDoorTabLaw
import Derived.Test.YtgmeahogdjhejaaGreatDoorMake
import Derived.Test.YtgmeahogdjhejaaGreatDoorProg
import Derived.Laws.CopyRow
import Derived.Laws.IdiomCopy
import Derived.Laws.OwnMore
import Derived.Lib.AppendStr
import Derived.Lib.Hide
import Derived.Deep.RegionWith
import Derived.Deep.LoopGhost
import Derived.WalkKit
namespace Go.Proofs.YtgmeahogdjhejaaGreatDoor
set_option linter.unusedVariables false
set_option linter.unusedSimpArgs false
open Go.RowKit

theorem made_bytes (n : Nat) : madeCells (Value.int .u8 0).cells (n * 1) = bcells (List.replicate n 0) := by
  apply Array.toList_inj.1
  rw [madeCells_rep (Value.int .u8 0).cells n 1 rfl]
  simp only [bcells, List.map_replicate]
  show (List.replicate n [Value.int .u8 0]).flatten = _
  induction n with
  | zero => rfl
  | succ n ih => rw [List.replicate_succ, List.flatten_cons, ih]; rfl
/-- A row of bytes of one's own, at the head of its block. -/
def GivesBytes (w : World) (xs : List Int) (e : Ending) (w' : World) : Prop := ∃ g, e = .returned (.slice (some ⟨g, 0, none⟩) xs.length xs.length) ∧ SH (fun _ => False) w w' [pt g (.cells (bcells xs) 5 (0, 0))]
/-- Bytes that may be read. -/
def GivesB (w : World) (xs : List Int) (e : Ending) (w' : World) : Prop := ∃ v, e = .returned v ∧ RdS (encInt .u8) 1 w' v xs ∧ Ext0 w w'
theorem info5 : (Tryz.prog.info? 5).map (fun i => (i.zero, i.size, i.bytes)) = some (some (.int .u8 0), 1, 1) := by kernel_rfl

section
variable {P : Program} {w w0 : World} {M : Nat → Prop} {L : List Asr} {a : Act} {ops : Array Oper} {rest : List Oper} {o : Oper} {Q : Exit → Act → World → Prop}
theorem run_copyB {dT sT ty e : TypeId} (hu : P.underlying dT = some (.slice e)) (hs : (P.info? e).map (·.size) = some 1) {g n cap : Nat} {cur : Array Value} {T : TypeId} {v : Value} {xs : List Int}
    (hg : w.heap[g]? = some (.cells cur T (0, 0))) (hr : RdS (encInt .u8) 1 w v xs) (hn : xs.length ≤ n) (hc : n ≤ cur.size) :
    (Builtin.copy_ #[dT, sT] ty #[.slice (some ⟨g, 0, none⟩) n cap, v]).run P w = .ok (goInt xs.length) (w.setRow g (cellsOf (encInt .u8) xs ++ cur.toList.drop xs.length).toArray) := by
  obtain ⟨A, c, rfl, _⟩ := hr.len
  by_cases hne : xs = []
  · subst hne
    rw [run_copy_none (P := P) w dT sT ty e _ _ _ _ _ _ hu hs (by simp)]
    simp only [List.length_nil, cellsOf, List.flatMap_nil, List.nil_append, List.drop_zero, Array.toArray_toList]
    rw [setRow_self w g cur T _ hg]
    rfl
  · obtain ⟨ad, rfl, _, hnews⟩ := hr.news (encInt_len .u8) hne
    have hl : (cellsOf (encInt .u8) xs).length = xs.length := by rw [length_cellsOf (encInt_len .u8)]; simp
    have := run_copy_row P w dT sT ty e g 0 n cap ad xs.length c cur T (cellsOf (encInt .u8) xs) hu hs hg (by rw [hl]; simp [Nat.min_eq_left hn]) hnews (by rw [hl]; omega) (fun u hu => by obtain ⟨y, _, hy⟩ := List.mem_flatMap.1 hu; exact encInt_one .u8 y u hy)
    rw [this, hl]
    simp
/-- 'copy(b, xs)', b a row of one's own. -/
theorem L_copyB (hgd : o.guard = none) {d s : Operand} {t t' e : TypeId} (ho : o.op = .call { callee := .builtin .copy, args := #[d, s], argTypes := #[t, t'] }) (hu : P.underlying t = some (.slice e)) (hs : (P.info? e).map (·.size) = some 1)
    (H : SH M w0 w L) (i : Nat) {g n cap : Nat} {cs : List Int} {T : TypeId} (hA : L[i]? = some (pt g (.cells (bcells cs) T (0, 0)))) {v : Value} {xs : List Int} (hd : a.eval d = .slice (some ⟨g, 0, none⟩) n cap) (hv : a.eval s = v) (hr : RdS (encInt .u8) 1 w v xs) (hn : xs.length ≤ n) (hc : n ≤ cs.length)
    (k : ∀ w', SH M w0 w' (L.set i (pt g (.cells (bcells (xs ++ cs.drop xs.length)) T (0, 0)))) → wpList P ops Q rest (a.put o.dst (.int .i64 xs.length)) w') : wpList P ops Q (o :: rest) a w := by
  have hrun := run_copyB (P := P) (sT := t') (ty := o.type) hu hs (H.at_ i hA) (cap := cap) hr hn (by rw [bcells_size]; exact hc)
  refine wpList_plain hgd fun K hK => ?_
  unfold Oper.wp execOp
  simp only [ho, resolve, invoke, builtin, Sem.run_bind, Sem.run_pure, Result.andThen_ok, List.map_toArray, List.map_cons, List.map_nil, hd, hv, hrun]
  refine hK _ _ (k _ ?_)
  have h1 := H.setRow (cs := (cellsOf (encInt .u8) xs ++ (bcells cs).toList.drop xs.length).toArray) i hA
  have h2 : (cellsOf (encInt .u8) xs ++ (bcells cs).toList.drop xs.length).toArray = bcells (xs ++ cs.drop xs.length) := by
    rw [cellsOf_int]
    simp [bcells]
  rw [h2] at h1
  rw [h2]
  exact h1
/-- 'append(b, s..)', s a string: behind it, of all assertions, that on b alone is left. -/
theorem L_appendStr (hgd : o.guard = none) {sl x : Operand} {t u e : TypeId} (ho : o.op = .call { callee := .builtin .append, args := #[sl, x], argTypes := #[t, u] })
    (ht : P.underlying t = some (.slice e)) (hu : P.underlying u = some .string) (hinfo : (P.info? e).map (fun i => (i.zero, i.size, i.bytes)) = some (some (.int .u8 0), 1, 1))
    (H : SH (fun _ => False) w0 w L) (i : Nat) {v : Value} {n : Nat} {xs : List Value} (hA : L[i]? = some (ownA e 1 v n xs)) (hs : a.eval sl = v) {s : ByteArray} (hx : a.eval x = .string s) (hb : n + s.size ≤ 140737488355328) (hm : n + s.size ≤ maxLen)
    (k : ∀ v' w', SH (fun _ => False) w0 w' [ownA e 1 v' (n + s.size) (xs ++ Lib.strCells s)] → wpList P ops Q rest (a.put o.dst v') w') : wpList P ops Q (o :: rest) a w := by
  obtain ⟨ii, hi, hz0, hz1, hz2⟩ := info_parts hinfo
  have hown := H.retOwn i hA (fun _ _ h => h)
  refine Lib.wpList_append_own_string w hgd sl x t u ho w0.heap.size e ii ht hu hi hz0 hz1 hz2 v n xs hs hown s hx hm hb H.ext.size (fun v' w' h1 h2 _ => k v' w' ?_)
  have hE : Ext0 w0 w' := H.ext.trans (Ext.of_grown h2) (fun j hj hN => by
    have := (hown.lt j hN.symm).1
    omega)
  refine ⟨hE, ?_, ?_, ?_, List.pairwise_singleton _ _⟩
  · intro X hX; rw [List.mem_singleton.1 hX]; exact ownsRow_weak h1 (fun _ _ => Nat.zero_le _)
  · intro X hX j hj; rw [List.mem_singleton.1 hX] at hj; exact (h1.lt j hj).2
  · intro X hX j hj; rw [List.mem_singleton.1 hX] at hj; exact .inr (h1.lt j hj).1
end
theorem strCells_nums {xs : List Int} (h : ∀ x ∈ xs, 0 ≤ x ∧ x ≤ 255) : Lib.strCells (strOfNums xs) = cellsOf (encInt .u8) xs := by
  rw [cellsOf_int]
  unfold Lib.strCells strOfNums
  simp only [List.map_map]
  refine List.map_congr_left fun x hx => ?_
  have := h x hx
  simp only [Function.comp_apply, UInt8.toNat_ofNat']
  congr 1
  omega
theorem strOfNums_size (xs : List Int) : (strOfNums xs).size = xs.length := by simp [strOfNums, ByteArray.size]

/-- The bytes of a number, so many of them, the highest first. -/
def beN (m : Int) (size : Nat) : List Int := (List.range size).map fun i => m / 2 ^ (8 * (size - 1 - i)) % 256
theorem beN_len (m : Int) (size : Nat) : (beN m size).length = size := by simp [beN]
theorem beN_eight (n : Int) : beN (n % 18446744073709551616) 8 = be8 n := by
  simp only [beN, be8, List.range_succ, List.range_zero, List.nil_append, List.map_append, List.map_cons, List.map_nil, List.cons_append]
  simp only [List.cons.injEq, and_true]
  refine ⟨?_, ?_, ?_, ?_, ?_, ?_, ?_, ?_⟩ <;> simp <;> omega
theorem beN_two (n : Int) : beN n 2 = be2 n := by
  simp only [beN, be2, List.range_succ, List.range_zero, List.nil_append, List.map_append, List.map_cons, List.map_nil, List.cons_append]
  simp
end Go.Proofs.YtgmeahogdjhejaaGreatDoor
