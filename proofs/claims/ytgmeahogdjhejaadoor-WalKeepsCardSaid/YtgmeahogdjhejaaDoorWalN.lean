/- extent.read: sectors of a disk. -/
import Derived.Test.YtgmeahogdjhejaaDoorWalM
import Derived.Shelf.Bytes.WriteAny
import Derived.Shelf.Bytes.Bytes
namespace Go.Proofs.YtgmeahogdjhejaaDoor
set_option linter.unusedVariables false
set_option linter.unusedSimpArgs false
open Go.RowKit Go.Shelf

def bufWL_ren : Go.Shelf.Ren := ⟨fun | 180 => 54 | 251 => 66 | 252 => 67 | 181 => 74 | 184 => 75 | 290 => 76 | 324 => 90 | n => n, fun | 130 => 110 | 37 => 23 | 3 => 3 | 75 => 98 | 0 => 0 | 93 => 95 | 91 => 93 | 131 => 111 | 4 => 4 | 20 => 20 | 5 => 5 | 80 => 141 | 9 => 9 | n => n, fun | 14 => 0 | n => n⟩
theorem bufWL : Go.Proofs.LaysM.n180 Tryd.prog bufWL_ren where
  mixed := by kernel_rfl
  f180 := Tryd.func54.trans (congrArg some (by kernel_rfl))
  f181 := Tryd.func74.trans (congrArg some (by kernel_rfl))
  f184 := Tryd.func75.trans (congrArg some (by kernel_rfl))
  f251 := Tryd.func66.trans (congrArg some (by kernel_rfl))
  f252 := Tryd.func67.trans (congrArg some (by kernel_rfl))
  f290 := Tryd.func76.trans (congrArg some (by kernel_rfl))
  f324 := Tryd.func90.trans (congrArg some (by kernel_rfl))
  t0 := Tryd.underlying0
  a0 := Tryd.isAgg0
  z0 := Tryd.sizeOf0
  v0 := Tryd.zeroValue0
  t3 := Tryd.underlying3
  a3 := Tryd.isAgg3
  z3 := Tryd.sizeOf3
  v3 := Tryd.zeroValue3
  t4 := Tryd.underlying4
  a4 := Tryd.isAgg4
  z4 := Tryd.sizeOf4
  v4 := Tryd.zeroValue4
  t20 := Tryd.underlying20
  a20 := Tryd.isAgg20
  z20 := Tryd.sizeOf20
  v20 := Tryd.zeroValue20
  t37 := Tryd.underlying23
  a37 := Tryd.isAgg23
  z37 := Tryd.sizeOf23
  v37 := Tryd.zeroValue23
  t75 := Tryd.underlying98
  a75 := Tryd.isAgg98
  z75 := Tryd.sizeOf98
  v75 := Tryd.zeroValue98
  t91 := Tryd.underlying93
  a91 := Tryd.isAgg93
  z91 := Tryd.sizeOf93
  v91 := Tryd.zeroValue93
  t93 := Tryd.underlying95
  a93 := Tryd.isAgg95
  z93 := Tryd.sizeOf95
  v93 := Tryd.zeroValue95
  t130 := Tryd.underlying110
  a130 := Tryd.isAgg110
  z130 := Tryd.sizeOf110
  v130 := Tryd.zeroValue110
  t131 := Tryd.underlying111
  a131 := Tryd.isAgg111
  z131 := Tryd.sizeOf111
  v131 := Tryd.zeroValue111
  g14 := by kernel_rfl
  t5 := Tryd.underlying5
  a5 := Tryd.isAgg5
  z5 := Tryd.sizeOf5
  v5 := Tryd.zeroValue5
  t9 := Tryd.underlying9
  a9 := Tryd.isAgg9
  z9 := Tryd.sizeOf9
  v9 := Tryd.zeroValue9
  t80 := Tryd.underlying141
  a80 := Tryd.isAgg141
  z80 := Tryd.sizeOf141
  v80 := Tryd.zeroValue141
  i0 := by kernel_rfl
  i3 := by kernel_rfl
  i4 := by kernel_rfl
  i5 := by kernel_rfl
  i9 := by kernel_rfl
  i20 := by kernel_rfl
  i37 := by kernel_rfl
  i75 := by kernel_rfl
  i80 := by kernel_rfl
  i91 := by kernel_rfl
  i93 := by kernel_rfl
  i130 := by kernel_rfl
  i131 := by kernel_rfl
  m14 := by kernel_rfl
def bufBL_ren : Go.Shelf.Ren := ⟨fun | 183 => 55 | n => n, fun | 130 => 110 | 37 => 23 | 0 => 0 | 93 => 95 | 3 => 3 | 5 => 5 | 91 => 93 | n => n, fun | n => n⟩
theorem bufBL : Go.Proofs.LaysM.n183 Tryd.prog bufBL_ren where
  mixed := by kernel_rfl
  f183 := Tryd.func55.trans (congrArg some (by kernel_rfl))
  t0 := Tryd.underlying0
  a0 := Tryd.isAgg0
  z0 := Tryd.sizeOf0
  v0 := Tryd.zeroValue0
  t3 := Tryd.underlying3
  a3 := Tryd.isAgg3
  z3 := Tryd.sizeOf3
  v3 := Tryd.zeroValue3
  t37 := Tryd.underlying23
  a37 := Tryd.isAgg23
  z37 := Tryd.sizeOf23
  v37 := Tryd.zeroValue23
  t93 := Tryd.underlying95
  a93 := Tryd.isAgg95
  z93 := Tryd.sizeOf95
  v93 := Tryd.zeroValue95
  t130 := Tryd.underlying110
  a130 := Tryd.isAgg110
  z130 := Tryd.sizeOf110
  v130 := Tryd.zeroValue110
  t5 := Tryd.underlying5
  a5 := Tryd.isAgg5
  z5 := Tryd.sizeOf5
  v5 := Tryd.zeroValue5
  t91 := Tryd.underlying93
  a91 := Tryd.isAgg93
  z91 := Tryd.sizeOf93
  v91 := Tryd.zeroValue93
  i0 := by kernel_rfl
  i3 := by kernel_rfl
  i5 := by kernel_rfl
  i37 := by kernel_rfl
  i91 := by kernel_rfl
  i93 := by kernel_rfl
  i130 := by kernel_rfl

theorem DS.between_snoc (d : DS) (a k : Nat) : d.between a (k + 1) = d.between a k ++ d.sec (a + k) := by
  unfold DS.between
  rw [List.range_succ, List.flatMap_append, List.flatMap_cons, List.flatMap_nil, List.append_nil]
theorem buf_keep {T e : TypeId} {B b : Nat} {bs : List Value} {w w' : World} (h : Lib.IsBuffer T e B b bs w) (hE : Ext0 w w') : Lib.IsBuffer T e B b bs w' := by
  obtain ⟨hB, v, lr, h1, h2, h3⟩ := h
  exact ⟨hB, v, lr, hE.block0 h1, ⟨h2.1, by rcases h2.2 with hn | ⟨g, cap, cur, rfl, hb, hg, r⟩; exact .inl hn; exact .inr ⟨g, cap, cur, rfl, hb, hE.block0 hg, r⟩⟩, h3⟩
theorem own_someB {w : World} {base : Nat} {T : TypeId} {k : Nat} {v : Value} {n : Nat} {xs : List Value} (h : w.ownsRow base T k v n xs) (hn : 0 < n) : ∃ g c, v = .slice (some ⟨g, 0, none⟩) n c ∧ base ≤ g := by
  rcases h.2 with ⟨_, h0⟩ | ⟨g, c, cur, he, hb, _⟩
  · omega
  · exact ⟨g, c, he, hb⟩
theorem own_src {w : World} {base g c n : Nat} {T : TypeId} {xs : List Value} (h : w.ownsRow base T 1 (.slice (some ⟨g, 0, none⟩) n c) n xs) : ∀ (j : Nat) (v : Value), xs[j]? = some v → w.cell? ((⟨g, 0, none⟩ : Addr).add j) = some v := by
  intro j v hv
  rcases h.2 with ⟨h, _⟩ | ⟨g', c', cur, he, _, hg, _, _, _, ht⟩
  · cases h
  · cases he
    rw [show (⟨g, 0, none⟩ : Addr).add j = ⟨g, j, none⟩ by simp [Addr.add]; exact fun h => h.symm, cell_of_row _ _ _ _ _ _ hg]
    rw [← ht, List.getElem?_take] at hv
    split at hv
    · rw [← hv, Array.getElem?_toList]
    · cases hv
theorem own_base {w : World} {base base' : Nat} {T : TypeId} {k : Nat} {v : Value} {n : Nat} {xs : List Value} (h : w.ownsRow base T k v n xs) (hb : base' ≤ base) : w.ownsRow base' T k v n xs :=
  ⟨h.1, h.2.elim .inl fun ⟨g, cap, cur, h1, h2, h3⟩ => .inr ⟨g, cap, cur, h1, Nat.le_trans hb h2, h3⟩⟩
def GivesOwnB (w : World) (xs : List Int) (e : Ending) (w' : World) : Prop := ∃ v, e = .returned v ∧ w'.ownsRow w.heap.size 5 1 v xs.length (cellsOf (encInt .u8) xs) ∧ Ext0 w w'
def ReadsR (d : DS) (g a n : Nat) (w1 : World) (vi : Value) (wr : World) : Prop :=
  ∃ k : Nat, k ≤ n ∧ vi = .int .i64 ((a + k : Nat) : Int) ∧ Lib.IsBuffer 95 5 g g (cellsOf (encInt .u8) (d.between a k)) wr ∧ Below g w1 wr
set_option maxRecDepth 100000 in
set_option maxHeartbeats 4000000 in
theorem eread_any {b bs bm : Nat} {d : DS} {W0 : Int} (w0 : World) (h : (DiskA b bs bm d).says w0) (hf : d.Fine W0) (a n : Nat) (p q : Int) (hp : p = (a : Int)) (hq : q = ((a + n : Nat) : Int)) (hn : a + n ≤ d.sure.length) :
    Calls Tryd.prog 33 #[extV b p q] w0 (GivesOwnB w0 (d.between a n)) := by
  have hlen := hf.len
  have HF := Lib.hid (And.intro hf (And.intro hp hq))
  clear hp hq
  go_enter Tryd.func33, Tryd.ntmps33
  unfold extV
  go_upto_region 2 with fail
  have hg1 : ((w0.alloc (.cells #[.pointer (some ⟨b, 0, none⟩), .int .i64 p, .int .i64 q] 64)).alloc (.cells #[.slice none 0 0, .int .i64 0, .int .i8 0] 95)).heap[w0.heap.size]? = some (.cells #[.pointer (some ⟨b, 0, none⟩), .int .i64 p, .int .i64 q] 64 (0, 0)) := by
    rw [Below.heap_alloc _ _ _ (by simp)]
    exact World.alloc_heap_new w0 _
  have hbuf : ((w0.alloc (.cells #[.pointer (some ⟨b, 0, none⟩), .int .i64 p, .int .i64 q] 64)).alloc (.cells #[.slice none 0 0, .int .i64 0, .int .i8 0] 95)).heap[w0.heap.size + 1]? = some (.cells #[.slice none 0 0, .int .i64 0, .int .i8 0] 95 (0, 0)) := by
    have := World.alloc_heap_new (w0.alloc (.cells #[.pointer (some ⟨b, 0, none⟩), .int .i64 p, .int .i64 q] 64)) (.cells #[.slice none 0 0, .int .i64 0, .int .i8 0] 95)
    simpa using this
  have hE1 : Ext0 w0 ((w0.alloc (.cells #[.pointer (some ⟨b, 0, none⟩), .int .i64 p, .int .i64 q] 64)).alloc (.cells #[.slice none 0 0, .int .i64 0, .int .i8 0] 95)) := (Ext.alloc _ _ _).trans' (Ext.alloc _ _ _)
  have hs1 : ((w0.alloc (.cells #[.pointer (some ⟨b, 0, none⟩), .int .i64 p, .int .i64 q] 64)).alloc (.cells #[.slice none 0 0, .int .i64 0, .int .i8 0] 95)).heap.size = w0.heap.size + 2 := by simp
  generalize ((w0.alloc (.cells #[.pointer (some ⟨b, 0, none⟩), .int .i64 p, .int .i64 q] 64)).alloc (.cells #[.slice none 0 0, .int .i64 0, .int .i8 0] 95)) = w1 at *
  have c1 : w1.cell? ⟨w0.heap.size, 1, none⟩ = some (.int .i64 p) := by rw [cell_of_row _ _ _ _ _ _ hg1]; rfl
  go_wp2_with fail
  go_loopw [4] (ReadsR d (w0.heap.size + 1) a n w1) (fun vi _ => a + n - (intOf vi).toNat)
  case atStart => exact ⟨0, Nat.zero_le _, by rw [HF.out.2.1]; rfl, ⟨Nat.le_refl _, _, _, hbuf, World.ownsRow_nil _ _ _ _, by simp [Value.ownBlock]⟩, Below.refl _ _⟩
  case round =>
    obtain ⟨k, hk, rfl, hB, hbel⟩ := hrel
    have hg2 : wr.heap[w0.heap.size]? = some (.cells #[.pointer (some ⟨b, 0, none⟩), .int .i64 p, .int .i64 q] 64 (0, 0)) := (hbel.block _ (by omega)).trans hg1
    have c0 : wr.cell? ⟨w0.heap.size, 0, none⟩ = some (.pointer (some ⟨b, 0, none⟩)) := by rw [cell_of_row _ _ _ _ _ _ hg2]; rfl
    have c2 : wr.cell? ⟨w0.heap.size, 2, none⟩ = some (.int .i64 q) := by rw [cell_of_row _ _ _ _ _ _ hg2]; rfl
    have hqv := HF.out.2.2
    have hsz := hbel.size
    obtain ⟨i, hi⟩ : ∃ i : Int, ((a + k : Nat) : Int) = i := ⟨_, rfl⟩
    rw [hi]
    by_cases hlt : k < n
    · have hiq : i < q := by omega
      have hwi : IntKind.i64.wrap (i + 1) = i + 1 := by rw [IntKind.wrap_i64]; omega
      have hdis : (DiskA b bs bm d).says wr := (DiskA b bs bm d).keep w0 wr (fun j hj => by
        have := DiskA.fp_lt h hj
        rw [hbel.block j (by omega), hE1.block j this (fun e => e)]) h
      have hr := dread hdis hf i
      have hhas : d.has i := ⟨by omega, by omega⟩
      have hok := DS.is_ok hf.sure (fun p hp => (hf.pend p hp).1) hhas.1 hhas.2
      have hrd : d.readR i = (d.sec (a + k), 0) := by
        unfold DS.readR
        rw [if_pos hhas]
        unfold DS.sec
        rw [hi]
      have hsl : (d.sec (a + k)).length = 32 := by unfold DS.sec; rw [hi]; exact hok.1
      rw [hrd] at hr
      rw [hsl] at hr
      obtain ⟨sc, hsc⟩ : ∃ sc, cellsOf (encInt .u8) (d.sec (a + k)) = sc := ⟨_, rfl⟩
      obtain ⟨bc, hbc⟩ : ∃ bc, cellsOf (encInt .u8) (d.between a k) = bc := ⟨_, rfl⟩
      have hscl : sc.length = 32 := by rw [← hsc, cellsOf_int, List.length_map, hsl]
      have hone : ∀ xs : List Int, ∀ v ∈ cellsOf (encInt .u8) xs, v.oneCell' = true := fun xs v hv => by
        rw [cellsOf_int] at hv
        obtain ⟨z, _, rfl⟩ := List.mem_map.1 hv
        rfl
      have hone1 := hone (d.between a k)
      have hone2 := hone (d.sec (a + k))
      have hbl : bc.length ≤ 200000 := by
        have hlb : ∀ m, m ≤ n → (d.between a m).length = 32 * m := fun m => by
          induction m with
          | zero => intro _; rfl
          | succ m ih =>
            intro hm
            have ho := DS.is_ok hf.sure (fun p hp => (hf.pend p hp).1) (i := ((a + m : Nat) : Int)) (by omega) (by omega)
            rw [DS.between_snoc, List.length_append, ih (by omega), show (d.sec (a + m)).length = 32 from ho.1]
            omega
        rw [← hbc, cellsOf_int, List.length_map, hlb k hk]
        omega
      have hsnoc : cellsOf (encInt .u8) (d.between a (k + 1)) = bc ++ sc := by rw [DS.between_snoc, cellsOf_append, hbc, hsc]
      rw [hbc] at hB hone1
      rw [hsc] at hr hone2
      have HS := Lib.hid (And.intro hi (And.intro hsnoc (And.intro hsc hsl)))
      clear hrd hhas hok hsl hsc hbc hone hsnoc hi hqv hdis
      go_wp2_with (first
        | (go_at_call 53; refine hr.mono ?_; rintro e1 w2 ⟨v, rfl, ho, hE⟩; obtain ⟨gv, cv, rfl, hgv⟩ := own_someB ho (by omega))
        | (go_at_call 54; refine (Any.Buffer_Write_any bufWL (w0.heap.size + 1) (w0.heap.size + 1) bc sc ⟨gv, 0, none⟩ 32 cv w2 (buf_keep hB hE) (by have := hE.size; omega) hone1 hscl (by show gv ≠ _; omega) (own_src ho) hone2 (by omega)).mono ?_; rintro e1 w3 ⟨rfl, hB3, hbel3, _⟩))
      go_roundw
      case rel => exact ⟨k + 1, hlt, by have := HS.out.1; go_num, by rw [HS.out.2.1]; exact hB3, hbel.trans (Below.trans ⟨hE.os, hE.tape, hE.output, hE.size, fun i hi => hE.block i (by omega) (fun e => e)⟩ (hbel3.mono (by omega)))⟩
      case measure => simp [intOf]; have := HS.out; omega
    · have hkn : k = n := by omega
      subst hkn
      have hiq : ¬ i < q := by omega
      go_wp2_with (first
        | (go_at_call 55; refine (Any.Buffer_Bytes bufBL (w0.heap.size + 1) (w0.heap.size + 1) _ wr hB).mono ?_; rintro e1 w3 ⟨v, rfl, ho, m, rfl⟩))
      go_ret
      have hx : Ext0 w0 wr := ⟨hbel.os.trans hE1.os, hbel.tape.trans hE1.tape, hbel.output.trans hE1.output, by omega, fun i hi _ => (hbel.block i (by omega)).trans (hE1.block i hi (fun e => e))⟩
      rw [show (cellsOf (encInt .u8) (d.between a k)).length = (d.between a k).length by rw [cellsOf_int, List.length_map]] at ho
      exact ⟨v, rfl, own_base ho (Nat.le_succ _), hx.trans0 (Ext.drewN _ _ _)⟩
end Go.Proofs.YtgmeahogdjhejaaDoor
