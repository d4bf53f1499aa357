/- The disk of the program: the sorted keys of its map. -/
import Derived.Test.YtjdfeagjbhdceaaDiskF
import Derived.Shelf.SlIterI.Nil
import Derived.Shelf.SortM.Plain
import Derived.Shelf.SortM.SortNone
import Derived.Shelf.SlGeneric
import Derived.OwnWalkIn
import Derived.LoopNIn
namespace Go.Proofs.Ytjdfeagjbhdceaa
set_option linter.unusedVariables false
set_option linter.unusedSimpArgs false
open Go.RowKit Go.Maps Go.Sort Go.Shelf

def keysL_ren : Go.Shelf.Ren := ⟨fun | 7 => 51 | 10 => 64 | n => n, fun | 23 => 78 | 26 => 3 | 3 => 83 | 28 => 87 | 0 => 0 | 27 => 86 | 33 => 84 | 4 => 4 | n => n, fun | n => n⟩
theorem keysL : Go.Proofs.SlLaysZI.n7 Try.prog keysL_ren where
  mixed := by kernel_rfl
  f7 := ⟨Try.f51.name, by decide, Try.func51.trans (congrArg some (by kernel_rfl))⟩
  f10 := ⟨Try.f64.name, by decide, Try.func64.trans (congrArg some (by kernel_rfl))⟩
  t0 := Try.underlying0
  a0 := Try.isAgg0
  z0 := Try.sizeOf0
  v0 := Try.zeroValue0
  t4 := Try.underlying4
  a4 := Try.isAgg4
  z4 := Try.sizeOf4
  v4 := Try.zeroValue4
  t23 := Try.underlying78
  a23 := Try.isAgg78
  z23 := Try.sizeOf78
  v23 := Try.zeroValue78
  t26 := Try.underlying3
  a26 := Try.isAgg3
  z26 := Try.sizeOf3
  v26 := Try.zeroValue3
  t27 := Try.underlying86
  a27 := Try.isAgg86
  z27 := Try.sizeOf86
  v27 := Try.zeroValue86
  t28 := Try.underlying87
  a28 := Try.isAgg87
  z28 := Try.sizeOf87
  v28 := Try.zeroValue87
  t33 := Try.underlying84
  a33 := Try.isAgg84
  z33 := Try.sizeOf84
  v33 := Try.zeroValue84
def sortedL_ren : Go.Shelf.Ren := ⟨fun | 6 => 50 | 8 => 62 | 9 => 63 | 11 => 69 | 13 => 71 | 12 => 70 | 23 => 83 | 24 => 84 | 14 => 74 | 15 => 75 | 16 => 76 | 17 => 77 | 18 => 78 | 19 => 79 | 20 => 80 | 21 => 81 | 22 => 82 | 25 => 93 | 26 => 94 | 27 => 95 | 28 => 96 | 29 => 97 | 30 => 68 | 31 => 101 | n => n, fun | 26 => 3 | 28 => 87 | 24 => 60 | 0 => 0 | 3 => 3 | 37 => 92 | 48 => 120 | 50 => 91 | 4 => 4 | 40 => 113 | 39 => 112 | 45 => 25 | 5 => 5 | 9 => 9 | 51 => 127 | 55 => 131 | 57 => 135 | 58 => 136 | 33 => 84 | n => n, fun | n => n⟩
theorem sortedL : Go.Proofs.SlLaysZI.n6 Try.prog sortedL_ren where
  mixed := by kernel_rfl
  f6 := ⟨Try.f50.name, by decide, Try.func50.trans (congrArg some (by kernel_rfl))⟩
  f8 := ⟨Try.f62.name, by decide, Try.func62.trans (congrArg some (by kernel_rfl))⟩
  f11 := ⟨Try.f69.name, by decide, Try.func69.trans (congrArg some (by kernel_rfl))⟩
  t0 := Try.underlying0
  a0 := Try.isAgg0
  z0 := Try.sizeOf0
  v0 := Try.zeroValue0
  t24 := Try.underlying60
  a24 := Try.isAgg60
  z24 := Try.sizeOf60
  v24 := Try.zeroValue60
  t26 := Try.underlying3
  a26 := Try.isAgg3
  z26 := Try.sizeOf3
  v26 := Try.zeroValue3
  t28 := Try.underlying87
  a28 := Try.isAgg87
  z28 := Try.sizeOf87
  v28 := Try.zeroValue87
  i26 := by kernel_rfl
def sortL_ren : Go.Shelf.Ren := ⟨fun | 5 => 63 | 8 => 71 | 7 => 70 | 19 => 83 | 20 => 84 | 10 => 74 | 11 => 75 | 12 => 76 | 13 => 77 | 14 => 78 | 15 => 79 | 16 => 80 | 17 => 81 | 18 => 82 | 30 => 93 | 31 => 94 | 32 => 95 | 33 => 96 | 34 => 97 | 35 => 68 | 40 => 101 | n => n, fun | 23 => 60 | 25 => 3 | 3 => 3 | 32 => 92 | 22 => 60 | 0 => 0 | 44 => 120 | 46 => 91 | 4 => 4 | 36 => 113 | 35 => 112 | 41 => 25 | 5 => 5 | 9 => 9 | 53 => 127 | 57 => 131 | 63 => 135 | 64 => 136 | n => n, fun | n => n⟩
theorem sortL : Go.Proofs.SlLaysM.n5 Try.prog sortL_ren where
  mixed := by kernel_rfl
  f5 := ⟨Try.f63.name, by decide, Try.func63.trans (congrArg some (by kernel_rfl))⟩
  f7 := ⟨Try.f70.name, by decide, Try.func70.trans (congrArg some (by kernel_rfl))⟩
  f8 := Try.func71.trans (congrArg some (by kernel_rfl))
  f10 := ⟨Try.f74.name, by decide, Try.func74.trans (congrArg some (by kernel_rfl))⟩
  f11 := ⟨Try.f75.name, by decide, Try.func75.trans (congrArg some (by kernel_rfl))⟩
  f12 := ⟨Try.f76.name, by decide, Try.func76.trans (congrArg some (by kernel_rfl))⟩
  f13 := ⟨Try.f77.name, by decide, Try.func77.trans (congrArg some (by kernel_rfl))⟩
  f14 := ⟨Try.f78.name, by decide, Try.func78.trans (congrArg some (by kernel_rfl))⟩
  f15 := ⟨Try.f79.name, by decide, Try.func79.trans (congrArg some (by kernel_rfl))⟩
  f16 := ⟨Try.f80.name, by decide, Try.func80.trans (congrArg some (by kernel_rfl))⟩
  f17 := ⟨Try.f81.name, by decide, Try.func81.trans (congrArg some (by kernel_rfl))⟩
  f18 := ⟨Try.f82.name, by decide, Try.func82.trans (congrArg some (by kernel_rfl))⟩
  f19 := Try.func83.trans (congrArg some (by kernel_rfl))
  f20 := Try.func84.trans (congrArg some (by kernel_rfl))
  f30 := ⟨Try.f93.name, by decide, Try.func93.trans (congrArg some (by kernel_rfl))⟩
  f31 := Try.func94.trans (congrArg some (by kernel_rfl))
  f32 := Try.func95.trans (congrArg some (by kernel_rfl))
  f33 := ⟨Try.f96.name, by decide, Try.func96.trans (congrArg some (by kernel_rfl))⟩
  f34 := ⟨Try.f97.name, by decide, Try.func97.trans (congrArg some (by kernel_rfl))⟩
  f35 := ⟨Try.f68.name, by decide, Try.func68.trans (congrArg some (by kernel_rfl))⟩
  f40 := ⟨Try.f101.name, by decide, Try.func101.trans (congrArg some (by kernel_rfl))⟩
  t0 := Try.underlying0
  a0 := Try.isAgg0
  z0 := Try.sizeOf0
  v0 := Try.zeroValue0
  t3 := Try.underlying3
  a3 := Try.isAgg3
  z3 := Try.sizeOf3
  v3 := Try.zeroValue3
  t4 := Try.underlying4
  a4 := Try.isAgg4
  z4 := Try.sizeOf4
  v4 := Try.zeroValue4
  t5 := Try.underlying5
  a5 := Try.isAgg5
  z5 := Try.sizeOf5
  v5 := Try.zeroValue5
  t9 := Try.underlying9
  a9 := Try.isAgg9
  z9 := Try.sizeOf9
  v9 := Try.zeroValue9
  t22 := Try.underlying60
  a22 := Try.isAgg60
  z22 := Try.sizeOf60
  v22 := Try.zeroValue60
  t23 := Try.underlying60
  a23 := Try.isAgg60
  z23 := Try.sizeOf60
  v23 := Try.zeroValue60
  t25 := Try.underlying3
  a25 := Try.isAgg3
  z25 := Try.sizeOf3
  v25 := Try.zeroValue3
  t32 := Try.underlying92
  a32 := Try.isAgg92
  z32 := Try.sizeOf92
  v32 := Try.zeroValue92
  t35 := Try.underlying112
  a35 := Try.isAgg112
  z35 := Try.sizeOf112
  v35 := Try.zeroValue112
  t36 := Try.underlying113
  a36 := Try.isAgg113
  z36 := Try.sizeOf113
  v36 := Try.zeroValue113
  t41 := Try.underlying25
  a41 := Try.isAgg25
  z41 := Try.sizeOf25
  v41 := Try.zeroValue25
  t44 := Try.underlying120
  a44 := Try.isAgg120
  z44 := Try.sizeOf120
  v44 := Try.zeroValue120
  t46 := Try.underlying91
  a46 := Try.isAgg91
  z46 := Try.sizeOf91
  v46 := Try.zeroValue91
  t53 := Try.underlying127
  a53 := Try.isAgg127
  z53 := Try.sizeOf127
  v53 := Try.zeroValue127
  t57 := Try.underlying131
  a57 := Try.isAgg131
  z57 := Try.sizeOf131
  v57 := Try.zeroValue131
  t63 := Try.underlying135
  a63 := Try.isAgg135
  z63 := Try.sizeOf135
  v63 := Try.zeroValue135
  t64 := Try.underlying136
  a64 := Try.isAgg136
  z64 := Try.sizeOf136
  v64 := Try.zeroValue136

theorem sortsL (m : Nat) : AnyZI.SortsIn Try.prog sortedL_ren Fence.wide m :=
  ⟨fun blk off cap ss W hH hblk hsz => callsIn_wide.2 (AnyM.slices_Sort_int sortL blk off cap ss W hH hblk hsz),
   fun p cap W => callsIn_wide.2 (AnyM.slices_Sort_int_none sortL p cap W)⟩

def RU : Value → Option (DataW Unit × List MemPlace) := fun _ => some (.nil, [])
def sortedKeys {V : Type} (es : List (Int × V)) : List Int := (es.map (·.1)).mergeSort (fun x y => decide (x ≤ y))
set_option maxRecDepth 100000 in
theorem own_map {V : Type} {venc : V → Value} {ents : Array MapEntry} {clock : Nat} {es : List (Int × V)} {w : World} {bm : Nat} (hr : MapRel (Value.int .i64) venc ents clock es) (hb : w.heap[bm]? = some (.map ents clock)) (hk : ∀ p ∈ es, (Lit.int .i64 p.1).wf = true) (hl : es.length ≤ maxLen) :
    ∃ D, w.ownsMap Try.prog 3 RU bm es.length D ∧ (intKeys D).Perm (es.map (·.1)) ∧ Maps.size D = es.length := by
  have hsz := hr.size
  have hkey : ents.toList.map (·.key) = es.map (fun p => Value.int .i64 p.1) := by
    have := congrArg (List.map Prod.fst) hr.kv; simp only [List.map_map, Function.comp_def] at this
    simpa using this
  have hmem : ∀ x ∈ ents.toList, ∃ k, x.key = .int .i64 k ∧ (Lit.int .i64 k).wf = true := fun x hx => by
    have : x.key ∈ es.map (fun p => Value.int .i64 p.1) := by rw [← hkey]; exact List.mem_map_of_mem hx
    obtain ⟨p, hp, e⟩ := List.mem_map.1 this
    exact ⟨p.1, e.symm, hk p hp⟩
  have hrd : ∀ x ∈ ents.toList, ∃ k, x.key = .int .i64 k ∧ WideElems.rd Try.prog 3 RU x = some (.int .i64 k, .nil) := fun x hx => by
    obtain ⟨k, h1, h2⟩ := hmem x hx
    refine ⟨k, h1, ?_⟩
    have := keyOf_int_mk (P := Try.prog) Try.underlying3 h2
    simp [WideElems.rd, h1, this, RU]
  refine ⟨_, ⟨ents, clock, hb, ⟨by rw [hsz]; exact hl, ?_, fun x hx => ?_⟩, by omega, rfl⟩, ?_, ?_⟩
  · refine ⟨hr.clock, ?_, ?_⟩
    · exact hr.born.imp (fun h => Nat.ne_of_lt h)
    · rw [hkey]
      have := hr.keys
      rw [List.Nodup, List.pairwise_map] at this ⊢
      exact this.imp (fun h e => h (by simpa using e))
  · obtain ⟨k, _, h⟩ := hrd x hx; exact ⟨_, h⟩
  · show (List.map (fun p : Lit × DataW Unit => _root_.Go.intOf p.1) _).Perm _
    refine ((WideShapes.sorted_perm _).map _).trans ?_
    rw [List.map_map]
    have : ents.toList.map (fun x => _root_.Go.intOf (WideElems.rg Try.prog 3 RU x).1) = es.map (·.1) := by
      have h1 : ents.toList.map (fun x => _root_.Go.intOf (WideElems.rg Try.prog 3 RU x).1) = (ents.toList.map (·.key)).map (fun v => match v with | .int _ k => k | _ => 0) := by
        rw [List.map_map]
        refine List.map_congr_left fun x hx => ?_
        obtain ⟨k, h1, h2⟩ := hrd x hx
        simp [WideElems.rg, h2, h1, _root_.Go.intOf]
      rw [h1, hkey, List.map_map]
      rfl
    exact List.Perm.of_eq this
  · show (List.foldr DataW.insert [] (ents.toList.map (WideElems.rg Try.prog 3 RU))).length = _
    rw [(WideShapes.sorted_perm _).length_eq]
    simp [hsz]

theorem keys_calls (mb : Option Nat) (W : World) : Calls Try.prog 51 #[.map mb] W fun e w' => e = .returned (.func (.func 64) #[] #[.pointer (some ⟨W.heap.size, 0, none⟩)]) ∧ w' = W.alloc (.cells #[.map mb] 78) :=
  (callsIn_wide (n := 6)).1 (AnyZI.keys_in keysL Fence.wide 6 trivial rfl mb W)

theorem sorted_calls {V : Type} {venc : V → Value} {ents : Array MapEntry} {clock : Nat} {es : List (Int × V)} {w : World} {bm Bm : Nat} (hr : MapRel (Value.int .i64) venc ents clock es) (hb : w.heap[bm]? = some (.map ents clock)) (hk : ∀ p ∈ es, (Lit.int .i64 p.1).wf = true) (hl : es.length ≤ 100000)
    (hB : w.heap[Bm]? = some (.cells #[.map (some bm)] 78 (0, 0))) :
    Calls Try.prog 50 #[.func (.func 64) #[] #[.pointer (some ⟨Bm, 0, none⟩)]] w fun e w' => ∃ v, e = .returned v ∧
      w'.ownsRow w.heap.size 3 1 v es.length ((sortedKeys es).map encZ) ∧ Below w.heap.size w w' := by
  obtain ⟨D, hown, hperm, hsize⟩ := own_map hr hb hk (by simp only [maxLen]; omega)
  have hcell : w.cell? ⟨Bm, 0, none⟩ = some (.map (some bm)) := by rw [cell_of_row w Bm 0 _ _ _ hB]; rfl
  refine (callsIn_wide (n := 6)).1 ?_
  have hseq := AnyZI.keys_gives (ρ := keysL_ren) { keysL with } Fence.wide 3 trivial rfl (by omega) Bm bm es.length D w (blk_lt' hB) hcell hown
  have cS := AnyZI.sorted_in sortedL Fence.wide 6 trivial trivial trivial trivial rfl (by omega) (sortsL _) (enters_of Try.func63 (by kernel_rfl) rfl) 64 #[.pointer (some ⟨Bm, 0, none⟩)] trivial (enters_of Try.func64 (by kernel_rfl) rfl) _ _ (by rw [hsize]; simp only [maxLen]; omega) (by rw [hsize]; omega) _ hseq
  refine cS.mono ?_
  rintro e w' ⟨v, ss, rfl, hS, hrow, _, hbel⟩
  have hp : ss.Perm (es.map (·.1)) := hS.trans hperm
  have hlen : ss.length = es.length := by simpa using hp.length_eq
  refine ⟨v, rfl, ?_, hbel⟩
  rw [hlen, mergeSort_of_perm_i hp] at hrow
  exact hrow
end Go.Proofs.Ytjdfeagjbhdceaa
