/- extent.read: sectors of a disk. -/
import Derived.Test.YtgmeahogdjhejaaGreatDoorWalM
import Derived.Shelf.Bytes.WriteAny
import Derived.Shelf.Bytes.Bytes
namespace Go.Proofs.YtgmeahogdjhejaaGreatDoor
set_option linter.unusedVariables false
set_option linter.unusedSimpArgs false
open Go.RowKit Go.Shelf

def bufWL_ren : Go.Shelf.Ren := ⟨fun | 180 => 70 | 251 => 81 | 252 => 82 | 181 => 89 | 184 => 90 | 290 => 91 | 324 => 105 | n => n, fun | 130 => 121 | 37 => 22 | 3 => 3 | 75 => 111 | 0 => 0 | 93 => 109 | 91 => 107 | 131 => 122 | 4 => 4 | 20 => 20 | 5 => 5 | 80 => 149 | 9 => 9 | n => n, fun | 14 => 0 | n => n⟩
theorem bufWL : Go.Proofs.LaysM.n180 Tryz.prog bufWL_ren where
  mixed := by kernel_rfl
  f180 := Tryz.func70.trans (congrArg some (by kernel_rfl))
  f181 := Tryz.func89.trans (congrArg some (by kernel_rfl))
  f184 := Tryz.func90.trans (congrArg some (by kernel_rfl))
  f251 := Tryz.func81.trans (congrArg some (by kernel_rfl))
  f252 := Tryz.func82.trans (congrArg some (by kernel_rfl))
  f290 := Tryz.func91.trans (congrArg some (by kernel_rfl))
  f324 := Tryz.func105.trans (congrArg some (by kernel_rfl))
  t0 := Tryz.underlying0
  a0 := Tryz.isAgg0
  z0 := Tryz.sizeOf0
  v0 := Tryz.zeroValue0
  t3 := Tryz.underlying3
  a3 := Tryz.isAgg3
  z3 := Tryz.sizeOf3
  v3 := Tryz.zeroValue3
  t4 := Tryz.underlying4
  a4 := Tryz.isAgg4
  z4 := Tryz.sizeOf4
  v4 := Tryz.zeroValue4
  t20 := Tryz.underlying20
  a20 := Tryz.isAgg20
  z20 := Tryz.sizeOf20
  v20 := Tryz.zeroValue20
  t37 := Tryz.underlying22
  a37 := Tryz.isAgg22
  z37 := Tryz.sizeOf22
  v37 := Tryz.zeroValue22
  t75 := Tryz.underlying111
  a75 := Tryz.isAgg111
  z75 := Tryz.sizeOf111
  v75 := Tryz.zeroValue111
  t91 := Tryz.underlying107
  a91 := Tryz.isAgg107
  z91 := Tryz.sizeOf107
  v91 := Tryz.zeroValue107
  t93 := Tryz.underlying109
  a93 := Tryz.isAgg109
  z93 := Tryz.sizeOf109
  v93 := Tryz.zeroValue109
  t130 := Tryz.underlying121
  a130 := Tryz.isAgg121
  z130 := Tryz.sizeOf121
  v130 := Tryz.zeroValue121
  t131 := Tryz.underlying122
  a131 := Tryz.isAgg122
  z131 := Tryz.sizeOf122
  v131 := Tryz.zeroValue122
  g14 := by kernel_rfl
  t5 := Tryz.underlying5
  a5 := Tryz.isAgg5
  z5 := Tryz.sizeOf5
  v5 := Tryz.zeroValue5
  t9 := Tryz.underlying9
  a9 := Tryz.isAgg9
  z9 := Tryz.sizeOf9
  v9 := Tryz.zeroValue9
  t80 := Tryz.underlying149
  a80 := Tryz.isAgg149
  z80 := Tryz.sizeOf149
  v80 := Tryz.zeroValue149
  i0 := by kernel_rfl
  i3 := by kernel_rfl
  i4 := by kernel_rfl
  i5 := by kernel_rfl
  i9 := by kernel_rfl
  i20 := by kernel_rfl
  i37 := by kernel_rfl
  i75 := by kernel_rfl
  i80 := by kernel_rfl
  i91 := by kernel_rfl
  i93 := by kernel_rfl
  i130 := by kernel_rfl
  i131 := by kernel_rfl
  m14 := by kernel_rfl
def bufBL_ren : Go.Shelf.Ren := ⟨fun | 183 => 71 | n => n, fun | 130 => 121 | 37 => 22 | 0 => 0 | 93 => 109 | 3 => 3 | 5 => 5 | 91 => 107 | n => n, fun | n => n⟩
theorem bufBL : Go.Proofs.LaysM.n183 Tryz.prog bufBL_ren where
  mixed := by kernel_rfl
  f183 := Tryz.func71.trans (congrArg some (by kernel_rfl))
  t0 := Tryz.underlying0
  a0 := Tryz.isAgg0
  z0 := Tryz.sizeOf0
  v0 := Tryz.zeroValue0
  t3 := Tryz.underlying3
  a3 := Tryz.isAgg3
  z3 := Tryz.sizeOf3
  v3 := Tryz.zeroValue3
  t37 := Tryz.underlying22
  a37 := Tryz.isAgg22
  z37 := Tryz.sizeOf22
  v37 := Tryz.zeroValue22
  t93 := Tryz.underlying109
  a93 := Tryz.isAgg109
  z93 := Tryz.sizeOf109
  v93 := Tryz.zeroValue109
  t130 := Tryz.underlying121
  a130 := Tryz.isAgg121
  z130 := Tryz.sizeOf121
  v130 := Tryz.zeroValue121
  t5 := Tryz.underlying5
  a5 := Tryz.isAgg5
  z5 := Tryz.sizeOf5
  v5 := Tryz.zeroValue5
  t91 := Tryz.underlying107
  a91 := Tryz.isAgg107
  z91 := Tryz.sizeOf107
  v91 := Tryz.zeroValue107
  i0 := by kernel_rfl
  i3 := by kernel_rfl
  i5 := by kernel_rfl
  i37 := by kernel_rfl
  i91 := by kernel_rfl
  i93 := by kernel_rfl
  i130 := by kernel_rfl

theorem DS.between_snoc (d : DS) (a k : Nat) : d.between a (k + 1) = d.between a k ++ d.sec (a + k) := by
  unfold DS.between
  rw [List.range_succ, List.flatMap_append, List.flatMap_cons, List.flatMap_nil, List.append_nil]
theorem buf_keep {T e : TypeId} {B b : Nat} {bs : List Value} {w w' : World} (h : Lib.IsBuffer T e B b bs w) (hE : Ext0 w w') : Lib.IsBuffer T e B b bs w' := by
  obtain ⟨hB, v, lr, h1, h2, h3⟩ := h
  exact ⟨hB, v, lr, hE.block0 h1, ⟨h2.1, by rcases h2.2 with hn | ⟨g, cap, cur, rfl, hb, hg, r⟩; exact .inl hn; exact .inr ⟨g, cap, cur, rfl, hb, hE.block0 hg, r⟩⟩, h3⟩
theorem own_someB {w : World} {base : Nat} {T : TypeId} {k : Nat} {v : Value} {n : Nat} {xs : List Value} (h : w.ownsRow base T k v n xs) (hn : 0 < n) : ∃ g c, v = .slice (some ⟨g, 0, none⟩) n c ∧ base ≤ g := by
  rcases h.2 with ⟨_, h0⟩ | ⟨g, c, cur, he, hb, _⟩
  · omega
  · exact ⟨g, c, he, hb⟩
theorem own_src {w : World} {base g c n : Nat} {T : TypeId} {xs : List Value} (h : w.ownsRow base T 1 (.slice (some ⟨g, 0, none⟩) n c) n xs) : ∀ (j : Nat) (v : Value), xs[j]? = some v → w.cell? ((⟨g, 0, none⟩ : Addr).add j) = some v := by
  intro j v hv
  rcases h.2 with ⟨h, _⟩ | ⟨g', c', cur, he, _, hg, _, _, _, ht⟩
  · cases h
  · cases he
    rw [show (⟨g, 0, none⟩ : Addr).add j = ⟨g, j, none⟩ by simp [Addr.add]; exact fun h => h.symm, cell_of_row _ _ _ _ _ _ hg]
    rw [← ht, List.getElem?_take] at hv
    split at hv
    · rw [← hv, Array.getElem?_toList]
    · cases hv
theorem own_base {w : World} {base base' : Nat} {T : TypeId} {k : Nat} {v : Value} {n : Nat} {xs : List Value} (h : w.ownsRow base T k v n xs) (hb : base' ≤ base) : w.ownsRow base' T k v n xs :=
  ⟨h.1, h.2.elim .inl fun ⟨g, cap, cur, h1, h2, h3⟩ => .inr ⟨g, cap, cur, h1, Nat.le_trans hb h2, h3⟩⟩
def GivesOwnB (w : World) (xs : List Int) (e : Ending) (w' : World) : Prop := ∃ v, e = .returned v ∧ w'.ownsRow w.heap.size 5 1 v xs.length (cellsOf (encInt .u8) xs) ∧ Ext0 w w'
def ReadsR (d : DS) (g a n : Nat) (w1 : World) (vi : Value) (wr : World) : Prop :=
  ∃ k : Nat, k ≤ n ∧ vi = .int .i64 ((a + k : Nat) : Int) ∧ Lib.IsBuffer 109 5 g g (cellsOf (encInt .u8) (d.between a k)) wr ∧ Below g w1 wr
set_option maxRecDepth 100000 in
set_option maxHeartbeats 4000000 in
theorem eread_any {b bs bm : Nat} {d : DS} {W0 : Int} (w0 : World) (h : (DiskA b bs bm d).says w0) (hf : d.Fine W0) (a n : Nat) (p q : Int) (hp : p = (a : Int)) (hq : q = ((a + n : Nat) : Int)) (hn : a + n ≤ d.sure.length) :
    Calls Tryz.prog 38 #[extV b p q] w0 (GivesOwnB w0 (d.between a n)) := by
  have hlen := hf.len
  have HF := Lib.hid (And.intro hf (And.intro hp hq))
  clear hp hq
  go_enter Tryz.func38, Tryz.ntmps38
  unfold extV
  go_upto_region 2 with fail
  have hg1 : ((w0.alloc (.cells #[.pointer (some ⟨b, 0, none⟩), .int .i64 p, .int .i64 q] 68)).alloc (.cells #[.slice none 0 0, .int .i64 0, .int .i8 0] 109)).heap[w0.heap.size]? = some (.cells #[.pointer (some ⟨b, 0, none⟩), .int .i64 p, .int .i64 q] 68 (0, 0)) := by
    rw [Below.heap_alloc _ _ _ (by simp)]
    exact World.alloc_heap_new w0 _
  have hbuf : ((w0.alloc (.cells #[.pointer (some ⟨b, 0, none⟩), .int .i64 p, .int .i64 q] 68)).alloc (.cells #[.slice none 0 0, .int .i64 0, .int .i8 0] 109)).heap[w0.heap.size + 1]? = some (.cells #[.slice none 0 0, .int .i64 0, .int .i8 0] 109 (0, 0)) := by
    have := World.alloc_heap_new (w0.alloc (.cells #[.pointer (some ⟨b, 0, none⟩), .int .i64 p, .int .i64 q] 68)) (.cells #[.slice none 0 0, .int .i64 0, .int .i8 0] 109)
    simpa using this
  have hE1 : Ext0 w0 ((w0.alloc (.cells #[.pointer (some ⟨b, 0, none⟩), .int .i64 p, .int .i64 q] 68)).alloc (.cells #[.slice none 0 0, .int .i64 0, .int .i8 0] 109)) := (Ext.alloc _ _ _).trans' (Ext.alloc _ _ _)
  have hs1 : ((w0.alloc (.cells #[.pointer (some ⟨b, 0, none⟩), .int .i64 p, .int .i64 q] 68)).alloc (.cells #[.slice none 0 0, .int .i64 0, .int .i8 0] 109)).heap.size = w0.heap.size + 2 := by simp
  generalize ((w0.alloc (.cells #[.pointer (some ⟨b, 0, none⟩), .int .i64 p, .int .i64 q] 68)).alloc (.cells #[.slice none 0 0, .int .i64 0, .int .i8 0] 109)) = w1 at *
  have c1 : w1.cell? ⟨w0.heap.size, 1, none⟩ = some (.int .i64 p) := by rw [cell_of_row _ _ _ _ _ _ hg1]; rfl
  go_wp2_with fail
  go_loopw [4] (ReadsR d (w0.heap.size + 1) a n w1) (fun vi _ => a + n - (intOf vi).toNat)
  case atStart => exact ⟨0, Nat.zero_le _, by rw [HF.out.2.1]; rfl, ⟨Nat.le_refl _, _, _, hbuf, World.ownsRow_nil _ _ _ _, by simp [Value.ownBlock]⟩, Below.refl _ _⟩
  case round =>
    obtain ⟨k, hk, rfl, hB, hbel⟩ := hrel
    have hg2 : wr.heap[w0.heap.size]? = some (.cells #[.pointer (some ⟨b, 0, none⟩), .int .i64 p, .int .i64 q] 68 (0, 0)) := (hbel.block _ (by omega)).trans hg1
    have c0 : wr.cell? ⟨w0.heap.size, 0, none⟩ = some (.pointer (some ⟨b, 0, none⟩)) := by rw [cell_of_row _ _ _ _ _ _ hg2]; rfl
    have c2 : wr.cell? ⟨w0.heap.size, 2, none⟩ = some (.int .i64 q) := by rw [cell_of_row _ _ _ _ _ _ hg2]; rfl
    have hqv := HF.out.2.2
    have hsz := hbel.size
    obtain ⟨i, hi⟩ : ∃ i : Int, ((a + k : Nat) : Int) = i := ⟨_, rfl⟩
    rw [hi]
    by_cases hlt : k < n
    · have hiq : i < q := by omega
      have hwi : IntKind.i64.wrap (i + 1) = i + 1 := by rw [IntKind.wrap_i64]; omega
      have hdis : (DiskA b bs bm d).says wr := (DiskA b bs bm d).keep w0 wr (fun j hj => by
        have := DiskA.fp_lt h hj
        rw [hbel.block j (by omega), hE1.block j this (fun e => e)]) h
      have hr := dread hdis hf i
      have hhas : d.has i := ⟨by omega, by omega⟩
      have hok := DS.is_ok hf.sure (fun p hp => (hf.pend p hp).1) hhas.1 hhas.2
      have hrd : d.readR i = (d.sec (a + k), 0) := by
        unfold DS.readR
        rw [if_pos hhas]
        unfold DS.sec
        rw [hi]
      have hsl : (d.sec (a + k)).length = 32 := by unfold DS.sec; rw [hi]; exact hok.1
      rw [hrd] at hr
      rw [hsl] at hr
      obtain ⟨sc, hsc⟩ : ∃ sc, cellsOf (encInt .u8) (d.sec (a + k)) = sc := ⟨_, rfl⟩
      obtain ⟨bc, hbc⟩ : ∃ bc, cellsOf (encInt .u8) (d.between a k) = bc := ⟨_, rfl⟩
      have hscl : sc.length = 32 := by rw [← hsc, cellsOf_int, List.length_map, hsl]
      have hone : ∀ xs : List Int, ∀ v ∈ cellsOf (encInt .u8) xs, v.oneCell' = true := fun xs v hv => by
        rw [cellsOf_int] at hv
        obtain ⟨z, _, rfl⟩ := List.mem_map.1 hv
        rfl
      have hone1 := hone (d.between a k)
      have hone2 := hone (d.sec (a + k))
      have hbl : bc.length ≤ 200000 := by
        have hlb : ∀ m, m ≤ n → (d.between a m).length = 32 * m := fun m => by
          induction m with
          | zero => intro _; rfl
          | succ m ih =>
            intro hm
            have ho := DS.is_ok hf.sure (fun p hp => (hf.pend p hp).1) (i := ((a + m : Nat) : Int)) (by omega) (by omega)
            rw [DS.between_snoc, List.length_append, ih (by omega), show (d.sec (a + m)).length = 32 from ho.1]
            omega
        rw [← hbc, cellsOf_int, List.length_map, hlb k hk]
        omega
      have hsnoc : cellsOf (encInt .u8) (d.between a (k + 1)) = bc ++ sc := by rw [DS.between_snoc, cellsOf_append, hbc, hsc]
      rw [hbc] at hB hone1
      rw [hsc] at hr hone2
      have HS := Lib.hid (And.intro hi (And.intro hsnoc (And.intro hsc hsl)))
      clear hrd hhas hok hsl hsc hbc hone hsnoc hi hqv hdis
      go_wp2_with (first
        | (go_at_call 26; refine hr.mono ?_; rintro e1 w2 ⟨v, rfl, ho, hE⟩; obtain ⟨gv, cv, rfl, hgv⟩ := own_someB ho (by omega))
        | (go_at_call 70; refine (Any.Buffer_Write_any bufWL (w0.heap.size + 1) (w0.heap.size + 1) bc sc ⟨gv, 0, none⟩ 32 cv w2 (buf_keep hB hE) (by have := hE.size; omega) hone1 hscl (by show gv ≠ _; omega) (own_src ho) hone2 (by omega)).mono ?_; rintro e1 w3 ⟨rfl, hB3, hbel3, _⟩))
      go_roundw
      case rel => exact ⟨k + 1, hlt, by have := HS.out.1; go_num, by rw [HS.out.2.1]; exact hB3, hbel.trans (Below.trans ⟨hE.os, hE.tape, hE.output, hE.size, fun i hi => hE.block i (by omega) (fun e => e)⟩ (hbel3.mono (by omega)))⟩
      case measure => simp [intOf]; have := HS.out; omega
    · have hkn : k = n := by omega
      subst hkn
      have hiq : ¬ i < q := by omega
      go_wp2_with (first
        | (go_at_call 71; refine (Any.Buffer_Bytes bufBL (w0.heap.size + 1) (w0.heap.size + 1) _ wr hB).mono ?_; rintro e1 w3 ⟨v, rfl, ho, m, rfl⟩))
      go_ret
      have hx : Ext0 w0 wr := ⟨hbel.os.trans hE1.os, hbel.tape.trans hE1.tape, hbel.output.trans hE1.output, by omega, fun i hi _ => (hbel.block i (by omega)).trans (hE1.block i hi (fun e => e))⟩
      rw [show (cellsOf (encInt .u8) (d.between a k)).length = (d.between a k).length by rw [cellsOf_int, List.length_map]] at ho
      exact ⟨v, rfl, own_base ho (Nat.le_succ _), hx.trans0 (Ext.drewN _ _ _)⟩
end Go.Proofs.YtgmeahogdjhejaaGreatDoor
