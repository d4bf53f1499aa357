/- The disk of the program: the sorted keys of its map. -/
import Derived.Test.YtgmeahogdjhejaaDoorWalDF
import Derived.Shelf.SlIterI.Nil
import Derived.Shelf.SortM.Plain
import Derived.Shelf.SortM.SortNone
import Derived.Shelf.SlGeneric
import Derived.OwnWalkIn
import Derived.LoopNIn
namespace Go.Proofs.YtgmeahogdjhejaaDoor
set_option linter.unusedVariables false
set_option linter.unusedSimpArgs false
open Go.RowKit Go.Maps Go.Sort Go.Shelf

def keysL_ren : Go.Shelf.Ren := ⟨fun | 7 => 42 | 10 => 62 | n => n, fun | 23 => 56 | 26 => 3 | 3 => 83 | 28 => 79 | 0 => 0 | 27 => 78 | 33 => 106 | 4 => 4 | n => n, fun | n => n⟩
theorem keysL : Go.Proofs.SlLaysZI.n7 Tryd.prog keysL_ren where
  mixed := by kernel_rfl
  f7 := ⟨Tryd.f42.name, by decide, Tryd.func42.trans (congrArg some (by kernel_rfl))⟩
  f10 := ⟨Tryd.f62.name, by decide, Tryd.func62.trans (congrArg some (by kernel_rfl))⟩
  t0 := Tryd.underlying0
  a0 := Tryd.isAgg0
  z0 := Tryd.sizeOf0
  v0 := Tryd.zeroValue0
  t4 := Tryd.underlying4
  a4 := Tryd.isAgg4
  z4 := Tryd.sizeOf4
  v4 := Tryd.zeroValue4
  t23 := Tryd.underlying56
  a23 := Tryd.isAgg56
  z23 := Tryd.sizeOf56
  v23 := Tryd.zeroValue56
  t26 := Tryd.underlying3
  a26 := Tryd.isAgg3
  z26 := Tryd.sizeOf3
  v26 := Tryd.zeroValue3
  t27 := Tryd.underlying78
  a27 := Tryd.isAgg78
  z27 := Tryd.sizeOf78
  v27 := Tryd.zeroValue78
  t28 := Tryd.underlying79
  a28 := Tryd.isAgg79
  z28 := Tryd.sizeOf79
  v28 := Tryd.zeroValue79
  t33 := Tryd.underlying106
  a33 := Tryd.isAgg106
  z33 := Tryd.sizeOf106
  v33 := Tryd.zeroValue106
def sortedL_ren : Go.Shelf.Ren := ⟨fun | 6 => 41 | 8 => 60 | 9 => 61 | 11 => 71 | 13 => 73 | 12 => 72 | 23 => 88 | 24 => 89 | 14 => 79 | 15 => 80 | 16 => 81 | 17 => 82 | 18 => 83 | 19 => 84 | 20 => 85 | 21 => 86 | 22 => 87 | 25 => 91 | 26 => 92 | 27 => 93 | 28 => 94 | 29 => 95 | 30 => 96 | 31 => 97 | n => n, fun | 26 => 3 | 28 => 79 | 24 => 73 | 0 => 0 | 3 => 3 | 37 => 48 | 48 => 103 | 50 => 119 | 4 => 4 | 40 => 123 | 39 => 122 | 45 => 111 | 5 => 5 | 9 => 9 | 51 => 131 | 55 => 135 | 57 => 137 | 58 => 138 | 33 => 106 | n => n, fun | n => n⟩
theorem sortedL : Go.Proofs.SlLaysZI.n6 Tryd.prog sortedL_ren where
  mixed := by kernel_rfl
  f6 := ⟨Tryd.f41.name, by decide, Tryd.func41.trans (congrArg some (by kernel_rfl))⟩
  f8 := ⟨Tryd.f60.name, by decide, Tryd.func60.trans (congrArg some (by kernel_rfl))⟩
  f11 := ⟨Tryd.f71.name, by decide, Tryd.func71.trans (congrArg some (by kernel_rfl))⟩
  t0 := Tryd.underlying0
  a0 := Tryd.isAgg0
  z0 := Tryd.sizeOf0
  v0 := Tryd.zeroValue0
  t24 := Tryd.underlying73
  a24 := Tryd.isAgg73
  z24 := Tryd.sizeOf73
  v24 := Tryd.zeroValue73
  t26 := Tryd.underlying3
  a26 := Tryd.isAgg3
  z26 := Tryd.sizeOf3
  v26 := Tryd.zeroValue3
  t28 := Tryd.underlying79
  a28 := Tryd.isAgg79
  z28 := Tryd.sizeOf79
  v28 := Tryd.zeroValue79
  i26 := by kernel_rfl
def sortL_ren : Go.Shelf.Ren := ⟨fun | 5 => 61 | 8 => 73 | 7 => 72 | 19 => 88 | 20 => 89 | 10 => 79 | 11 => 80 | 12 => 81 | 13 => 82 | 14 => 83 | 15 => 84 | 16 => 85 | 17 => 86 | 18 => 87 | 30 => 91 | 31 => 92 | 32 => 93 | 33 => 94 | 34 => 95 | 35 => 96 | 40 => 97 | n => n, fun | 23 => 73 | 25 => 3 | 3 => 3 | 32 => 48 | 22 => 73 | 0 => 0 | 44 => 103 | 46 => 119 | 4 => 4 | 36 => 123 | 35 => 122 | 41 => 111 | 5 => 5 | 9 => 9 | 53 => 131 | 57 => 135 | 63 => 137 | 64 => 138 | n => n, fun | n => n⟩
theorem sortL : Go.Proofs.SlLaysM.n5 Tryd.prog sortL_ren where
  mixed := by kernel_rfl
  f5 := ⟨Tryd.f61.name, by decide, Tryd.func61.trans (congrArg some (by kernel_rfl))⟩
  f7 := ⟨Tryd.f72.name, by decide, Tryd.func72.trans (congrArg some (by kernel_rfl))⟩
  f8 := Tryd.func73.trans (congrArg some (by kernel_rfl))
  f10 := ⟨Tryd.f79.name, by decide, Tryd.func79.trans (congrArg some (by kernel_rfl))⟩
  f11 := ⟨Tryd.f80.name, by decide, Tryd.func80.trans (congrArg some (by kernel_rfl))⟩
  f12 := ⟨Tryd.f81.name, by decide, Tryd.func81.trans (congrArg some (by kernel_rfl))⟩
  f13 := ⟨Tryd.f82.name, by decide, Tryd.func82.trans (congrArg some (by kernel_rfl))⟩
  f14 := ⟨Tryd.f83.name, by decide, Tryd.func83.trans (congrArg some (by kernel_rfl))⟩
  f15 := ⟨Tryd.f84.name, by decide, Tryd.func84.trans (congrArg some (by kernel_rfl))⟩
  f16 := ⟨Tryd.f85.name, by decide, Tryd.func85.trans (congrArg some (by kernel_rfl))⟩
  f17 := ⟨Tryd.f86.name, by decide, Tryd.func86.trans (congrArg some (by kernel_rfl))⟩
  f18 := ⟨Tryd.f87.name, by decide, Tryd.func87.trans (congrArg some (by kernel_rfl))⟩
  f19 := Tryd.func88.trans (congrArg some (by kernel_rfl))
  f20 := Tryd.func89.trans (congrArg some (by kernel_rfl))
  f30 := ⟨Tryd.f91.name, by decide, Tryd.func91.trans (congrArg some (by kernel_rfl))⟩
  f31 := Tryd.func92.trans (congrArg some (by kernel_rfl))
  f32 := Tryd.func93.trans (congrArg some (by kernel_rfl))
  f33 := ⟨Tryd.f94.name, by decide, Tryd.func94.trans (congrArg some (by kernel_rfl))⟩
  f34 := ⟨Tryd.f95.name, by decide, Tryd.func95.trans (congrArg some (by kernel_rfl))⟩
  f35 := ⟨Tryd.f96.name, by decide, Tryd.func96.trans (congrArg some (by kernel_rfl))⟩
  f40 := ⟨Tryd.f97.name, by decide, Tryd.func97.trans (congrArg some (by kernel_rfl))⟩
  t0 := Tryd.underlying0
  a0 := Tryd.isAgg0
  z0 := Tryd.sizeOf0
  v0 := Tryd.zeroValue0
  t3 := Tryd.underlying3
  a3 := Tryd.isAgg3
  z3 := Tryd.sizeOf3
  v3 := Tryd.zeroValue3
  t4 := Tryd.underlying4
  a4 := Tryd.isAgg4
  z4 := Tryd.sizeOf4
  v4 := Tryd.zeroValue4
  t5 := Tryd.underlying5
  a5 := Tryd.isAgg5
  z5 := Tryd.sizeOf5
  v5 := Tryd.zeroValue5
  t9 := Tryd.underlying9
  a9 := Tryd.isAgg9
  z9 := Tryd.sizeOf9
  v9 := Tryd.zeroValue9
  t22 := Tryd.underlying73
  a22 := Tryd.isAgg73
  z22 := Tryd.sizeOf73
  v22 := Tryd.zeroValue73
  t23 := Tryd.underlying73
  a23 := Tryd.isAgg73
  z23 := Tryd.sizeOf73
  v23 := Tryd.zeroValue73
  t25 := Tryd.underlying3
  a25 := Tryd.isAgg3
  z25 := Tryd.sizeOf3
  v25 := Tryd.zeroValue3
  t32 := Tryd.underlying48
  a32 := Tryd.isAgg48
  z32 := Tryd.sizeOf48
  v32 := Tryd.zeroValue48
  t35 := Tryd.underlying122
  a35 := Tryd.isAgg122
  z35 := Tryd.sizeOf122
  v35 := Tryd.zeroValue122
  t36 := Tryd.underlying123
  a36 := Tryd.isAgg123
  z36 := Tryd.sizeOf123
  v36 := Tryd.zeroValue123
  t41 := Tryd.underlying111
  a41 := Tryd.isAgg111
  z41 := Tryd.sizeOf111
  v41 := Tryd.zeroValue111
  t44 := Tryd.underlying103
  a44 := Tryd.isAgg103
  z44 := Tryd.sizeOf103
  v44 := Tryd.zeroValue103
  t46 := Tryd.underlying119
  a46 := Tryd.isAgg119
  z46 := Tryd.sizeOf119
  v46 := Tryd.zeroValue119
  t53 := Tryd.underlying131
  a53 := Tryd.isAgg131
  z53 := Tryd.sizeOf131
  v53 := Tryd.zeroValue131
  t57 := Tryd.underlying135
  a57 := Tryd.isAgg135
  z57 := Tryd.sizeOf135
  v57 := Tryd.zeroValue135
  t63 := Tryd.underlying137
  a63 := Tryd.isAgg137
  z63 := Tryd.sizeOf137
  v63 := Tryd.zeroValue137
  t64 := Tryd.underlying138
  a64 := Tryd.isAgg138
  z64 := Tryd.sizeOf138
  v64 := Tryd.zeroValue138

theorem sortsL (m : Nat) : AnyZI.SortsIn Tryd.prog sortedL_ren Fence.wide m :=
  ⟨fun blk off cap ss W hH hblk hsz => callsIn_wide.2 (AnyM.slices_Sort_int sortL blk off cap ss W hH hblk hsz),
   fun p cap W => callsIn_wide.2 (AnyM.slices_Sort_int_none sortL p cap W)⟩

def RU : Value → Option (DataW Unit × List MemPlace) := fun _ => some (.nil, [])
def sortedKeys {V : Type} (es : List (Int × V)) : List Int := (es.map (·.1)).mergeSort (fun x y => decide (x ≤ y))
set_option maxRecDepth 100000 in
theorem own_map {V : Type} {venc : V → Value} {ents : Array MapEntry} {clock : Nat} {es : List (Int × V)} {w : World} {bm : Nat} (hr : MapRel (Value.int .i64) venc ents clock es) (hb : w.heap[bm]? = some (.map ents clock)) (hk : ∀ p ∈ es, (Lit.int .i64 p.1).wf = true) (hl : es.length ≤ maxLen) :
    ∃ D, w.ownsMap Tryd.prog 3 RU bm es.length D ∧ (intKeys D).Perm (es.map (·.1)) ∧ Maps.size D = es.length := by
  have hsz := hr.size
  have hkey : ents.toList.map (·.key) = es.map (fun p => Value.int .i64 p.1) := by
    have := congrArg (List.map Prod.fst) hr.kv; simp only [List.map_map, Function.comp_def] at this
    simpa using this
  have hmem : ∀ x ∈ ents.toList, ∃ k, x.key = .int .i64 k ∧ (Lit.int .i64 k).wf = true := fun x hx => by
    have : x.key ∈ es.map (fun p => Value.int .i64 p.1) := by rw [← hkey]; exact List.mem_map_of_mem hx
    obtain ⟨p, hp, e⟩ := List.mem_map.1 this
    exact ⟨p.1, e.symm, hk p hp⟩
  have hrd : ∀ x ∈ ents.toList, ∃ k, x.key = .int .i64 k ∧ WideElems.rd Tryd.prog 3 RU x = some (.int .i64 k, .nil) := fun x hx => by
    obtain ⟨k, h1, h2⟩ := hmem x hx
    refine ⟨k, h1, ?_⟩
    have := keyOf_int_mk (P := Tryd.prog) Tryd.underlying3 h2
    simp [WideElems.rd, h1, this, RU]
  refine ⟨_, ⟨ents, clock, hb, ⟨by rw [hsz]; exact hl, ?_, fun x hx => ?_⟩, by omega, rfl⟩, ?_, ?_⟩
  · refine ⟨hr.clock, ?_, ?_⟩
    · exact hr.born.imp (fun h => Nat.ne_of_lt h)
    · rw [hkey]
      have := hr.keys
      rw [List.Nodup, List.pairwise_map] at this ⊢
      exact this.imp (fun h e => h (by simpa using e))
  · obtain ⟨k, _, h⟩ := hrd x hx; exact ⟨_, h⟩
  · show (List.map (fun p : Lit × DataW Unit => _root_.Go.intOf p.1) _).Perm _
    refine ((WideShapes.sorted_perm _).map _).trans ?_
    rw [List.map_map]
    have : ents.toList.map (fun x => _root_.Go.intOf (WideElems.rg Tryd.prog 3 RU x).1) = es.map (·.1) := by
      have h1 : ents.toList.map (fun x => _root_.Go.intOf (WideElems.rg Tryd.prog 3 RU x).1) = (ents.toList.map (·.key)).map (fun v => match v with | .int _ k => k | _ => 0) := by
        rw [List.map_map]
        refine List.map_congr_left fun x hx => ?_
        obtain ⟨k, h1, h2⟩ := hrd x hx
        simp [WideElems.rg, h2, h1, _root_.Go.intOf]
      rw [h1, hkey, List.map_map]
      rfl
    exact List.Perm.of_eq this
  · show (List.foldr DataW.insert [] (ents.toList.map (WideElems.rg Tryd.prog 3 RU))).length = _
    rw [(WideShapes.sorted_perm _).length_eq]
    simp [hsz]

theorem keys_calls (mb : Option Nat) (W : World) : Calls Tryd.prog 42 #[.map mb] W fun e w' => e = .returned (.func (.func 62) #[] #[.pointer (some ⟨W.heap.size, 0, none⟩)]) ∧ w' = W.alloc (.cells #[.map mb] 56) :=
  (callsIn_wide (n := 6)).1 (AnyZI.keys_in keysL Fence.wide 6 trivial rfl mb W)

theorem sorted_calls {V : Type} {venc : V → Value} {ents : Array MapEntry} {clock : Nat} {es : List (Int × V)} {w : World} {bm Bm : Nat} (hr : MapRel (Value.int .i64) venc ents clock es) (hb : w.heap[bm]? = some (.map ents clock)) (hk : ∀ p ∈ es, (Lit.int .i64 p.1).wf = true) (hl : es.length ≤ 100000)
    (hB : w.heap[Bm]? = some (.cells #[.map (some bm)] 56 (0, 0))) :
    Calls Tryd.prog 41 #[.func (.func 62) #[] #[.pointer (some ⟨Bm, 0, none⟩)]] w fun e w' => ∃ v, e = .returned v ∧
      w'.ownsRow w.heap.size 3 1 v es.length ((sortedKeys es).map encZ) ∧ Below w.heap.size w w' := by
  obtain ⟨D, hown, hperm, hsize⟩ := own_map hr hb hk (by simp only [maxLen]; omega)
  have hcell : w.cell? ⟨Bm, 0, none⟩ = some (.map (some bm)) := by rw [cell_of_row w Bm 0 _ _ _ hB]; rfl
  refine (callsIn_wide (n := 6)).1 ?_
  have hseq := AnyZI.keys_gives (ρ := keysL_ren) { keysL with } Fence.wide 3 trivial rfl (by omega) Bm bm es.length D w (blk_lt' hB) hcell hown
  have cS := AnyZI.sorted_in sortedL Fence.wide 6 trivial trivial trivial trivial rfl (by omega) (sortsL _) (enters_of Tryd.func61 (by kernel_rfl) rfl) 62 #[.pointer (some ⟨Bm, 0, none⟩)] trivial (enters_of Tryd.func62 (by kernel_rfl) rfl) _ _ (by rw [hsize]; simp only [maxLen]; omega) (by rw [hsize]; omega) _ hseq
  refine cS.mono ?_
  rintro e w' ⟨v, ss, rfl, hS, hrow, _, hbel⟩
  have hp : ss.Perm (es.map (·.1)) := hS.trans hperm
  have hlen : ss.length = es.length := by simpa using hp.length_eq
  refine ⟨v, rfl, ?_, hbel⟩
  rw [hlen, mergeSort_of_perm_i hp] at hrow
  exact hrow
end Go.Proofs.YtgmeahogdjhejaaDoor
