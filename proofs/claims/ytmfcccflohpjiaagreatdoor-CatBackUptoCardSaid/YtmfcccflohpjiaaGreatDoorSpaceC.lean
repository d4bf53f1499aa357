/- Spans: sorted by where they begin. -/
import Derived.Test.YtmfcccflohpjiaaGreatDoorSpaceB
import Derived.Shelf.SlSortCmp.WholeK
import Derived.Shelf.SlSortCmp.NoneTotal
import Derived.Shelf.SlGeneric
import Derived.Sort.OwnSorted
namespace Go.Proofs.YtmfcccflohpjiaaGreatDoor
set_option linter.unusedVariables false
set_option linter.unusedSimpArgs false
open Go.RowKit Go.Shelf Go.Lib Go.Sort

def sortFL_ren : Go.Shelf.Ren := ⟨fun | 6 => 82 | 15 => 92 | 14 => 91 | 28 => 109 | 29 => 110 | 20 => 101 | 21 => 102 | 22 => 103 | 23 => 104 | 24 => 105 | 25 => 106 | 26 => 107 | 27 => 108 | 46 => 114 | 47 => 115 | 48 => 116 | 49 => 117 | 50 => 118 | 57 => 121 | n => n, fun | 22 => 71 | 24 => 73 | 25 => 95 | 3 => 3 | 39 => 84 | 0 => 0 | 53 => 124 | 55 => 68 | 4 => 4 | 46 => 117 | 45 => 116 | 50 => 121 | 5 => 5 | 9 => 9 | 66 => 126 | 70 => 130 | 76 => 138 | 77 => 59 | n => n, fun | n => n⟩
theorem sortFL : Go.Proofs.SlLaysF0.n6 Tryz.prog sortFL_ren where
  mixed := by kernel_rfl
  f6 := ⟨Tryz.f82.name, by decide, Tryz.func82.trans (congrArg some (by kernel_rfl))⟩
  f14 := ⟨Tryz.f91.name, by decide, Tryz.func91.trans (congrArg some (by kernel_rfl))⟩
  f15 := Tryz.func92.trans (congrArg some (by kernel_rfl))
  f20 := ⟨Tryz.f101.name, by decide, Tryz.func101.trans (congrArg some (by kernel_rfl))⟩
  f21 := ⟨Tryz.f102.name, by decide, Tryz.func102.trans (congrArg some (by kernel_rfl))⟩
  f22 := ⟨Tryz.f103.name, by decide, Tryz.func103.trans (congrArg some (by kernel_rfl))⟩
  f23 := ⟨Tryz.f104.name, by decide, Tryz.func104.trans (congrArg some (by kernel_rfl))⟩
  f24 := ⟨Tryz.f105.name, by decide, Tryz.func105.trans (congrArg some (by kernel_rfl))⟩
  f25 := ⟨Tryz.f106.name, by decide, Tryz.func106.trans (congrArg some (by kernel_rfl))⟩
  f26 := ⟨Tryz.f107.name, by decide, Tryz.func107.trans (congrArg some (by kernel_rfl))⟩
  f27 := ⟨Tryz.f108.name, by decide, Tryz.func108.trans (congrArg some (by kernel_rfl))⟩
  f28 := Tryz.func109.trans (congrArg some (by kernel_rfl))
  f29 := Tryz.func110.trans (congrArg some (by kernel_rfl))
  f46 := ⟨Tryz.f114.name, by decide, Tryz.func114.trans (congrArg some (by kernel_rfl))⟩
  f47 := Tryz.func115.trans (congrArg some (by kernel_rfl))
  f48 := Tryz.func116.trans (congrArg some (by kernel_rfl))
  f49 := ⟨Tryz.f117.name, by decide, Tryz.func117.trans (congrArg some (by kernel_rfl))⟩
  f50 := ⟨Tryz.f118.name, by decide, Tryz.func118.trans (congrArg some (by kernel_rfl))⟩
  f57 := ⟨Tryz.f121.name, by decide, Tryz.func121.trans (congrArg some (by kernel_rfl))⟩
  t0 := Tryz.underlying0
  a0 := Tryz.isAgg0
  z0 := Tryz.sizeOf0
  v0 := Tryz.zeroValue0
  t3 := Tryz.underlying3
  a3 := Tryz.isAgg3
  z3 := Tryz.sizeOf3
  v3 := Tryz.zeroValue3
  t4 := Tryz.underlying4
  a4 := Tryz.isAgg4
  z4 := Tryz.sizeOf4
  v4 := Tryz.zeroValue4
  t5 := Tryz.underlying5
  a5 := Tryz.isAgg5
  z5 := Tryz.sizeOf5
  v5 := Tryz.zeroValue5
  t9 := Tryz.underlying9
  a9 := Tryz.isAgg9
  z9 := Tryz.sizeOf9
  v9 := Tryz.zeroValue9
  t22 := Tryz.underlying71
  a22 := Tryz.isAgg71
  z22 := Tryz.sizeOf71
  v22 := Tryz.zeroValue71
  t25 := Tryz.underlying95
  a25 := Tryz.isAgg95
  z25 := Tryz.sizeOf95
  v25 := Tryz.zeroValue95
  t39 := Tryz.underlying84
  a39 := Tryz.isAgg84
  z39 := Tryz.sizeOf84
  v39 := Tryz.zeroValue84
  t45 := Tryz.underlying116
  a45 := Tryz.isAgg116
  z45 := Tryz.sizeOf116
  v45 := Tryz.zeroValue116
  t46 := Tryz.underlying117
  a46 := Tryz.isAgg117
  z46 := Tryz.sizeOf117
  v46 := Tryz.zeroValue117
  t50 := Tryz.underlying121
  a50 := Tryz.isAgg121
  z50 := Tryz.sizeOf121
  v50 := Tryz.zeroValue121
  t53 := Tryz.underlying124
  a53 := Tryz.isAgg124
  z53 := Tryz.sizeOf124
  v53 := Tryz.zeroValue124
  t55 := Tryz.underlying68
  a55 := Tryz.isAgg68
  z55 := Tryz.sizeOf68
  v55 := Tryz.zeroValue68
  t66 := Tryz.underlying126
  a66 := Tryz.isAgg126
  z66 := Tryz.sizeOf126
  v66 := Tryz.zeroValue126
  t70 := Tryz.underlying130
  a70 := Tryz.isAgg130
  z70 := Tryz.sizeOf130
  v70 := Tryz.zeroValue130
  t76 := Tryz.underlying138
  a76 := Tryz.isAgg138
  z76 := Tryz.sizeOf138
  v76 := Tryz.zeroValue138
  t77 := Tryz.underlying59
  a77 := Tryz.isAgg59
  z77 := Tryz.sizeOf59
  v77 := Tryz.zeroValue59

instance : Inhabited Sp := ⟨⟨0, 0⟩⟩
def cmpAt (x y : Sp) : Int := if x.at_ < y.at_ then -1 else if y.at_ < x.at_ then 1 else 0
theorem ltAt (x y : Sp) : ltOf cmpAt x y = decide (x.at_ < y.at_) := by
  unfold ltOf cmpAt
  by_cases h1 : x.at_ < y.at_
  · simp [h1]
  · by_cases h2 : y.at_ < x.at_ <;> simp [h1, h2]
theorem swoAt : SWO (ltOf cmpAt) where
  irrefl x := by rw [ltAt]; simp
  trans x y z h1 h2 := by rw [ltAt] at *; simp at *; omega
  ntrans x y z h1 h2 := by rw [ltAt] at *; simp at *; omega

set_option maxHeartbeats 1000000 in
theorem compare_any (a b : Int) (w : World) : Calls Tryz.prog 75 #[.int .i64 a, .int .i64 b] w fun e w' => e = .returned (.int .i64 (if a < b then -1 else if b < a then 1 else 0)) ∧ w' = w := by
  by_cases h1 : a < b
  · rw [if_pos h1]
    go_enter Tryz.func75, Tryz.ntmps75
    go_wp2
    go_ret
    exact ⟨rfl, rfl⟩
  · rw [if_neg h1]
    by_cases h2 : b < a
    · rw [if_pos h2]
      go_enter Tryz.func75, Tryz.ntmps75
      go_wp2
      go_ret
      exact ⟨rfl, rfl⟩
    · rw [if_neg h2]
      go_enter Tryz.func75, Tryz.ntmps75
      go_wp2
      go_ret
      exact ⟨rfl, rfl⟩
set_option maxHeartbeats 1000000 in
theorem closure_any (x y : Sp) (W : World) : Calls Tryz.prog 74 #[.agg #[.int .i64 x.at_, .int .i64 x.len], .agg #[.int .i64 y.at_, .int .i64 y.len]] W fun e w' => e = .returned (.int .i64 (cmpAt x y)) ∧ ∃ q os', w' = grow (W.drewN q) os' := by
  have hcon := fun W' => compare_any x.at_ y.at_ W'
  change ∀ W', Calls Tryz.prog 75 _ W' (fun e w' => e = .returned (.int .i64 (cmpAt x y)) ∧ w' = W') at hcon
  generalize cmpAt x y = r at hcon ⊢
  go_enter Tryz.func74, Tryz.ntmps74
  go_wp2_with (go_at_call 75; refine (hcon _).mono ?_; rintro e w' ⟨rfl, rfl⟩)
  go_ret
  exact ⟨rfl, 0, _, by rw [alloc_eq_grow, alloc_eq_grow, grow_grow]; rfl⟩
theorem cmpLaysAt (blk off size : Nat) (w : World) : CmpLays Tryz.prog 74 #[] Sp.cells 2 cmpAt blk off size w := fun _ _ _ _ x y => closure_any x y _

/-! What lies behind the sort. -/
theorem holds_id {w : World} {g : Nat} {cur F : Array Value} {e : TypeId} (hb : w.heap[g]? = some (.cells cur e (0, 0))) (ht : cur.toList.take F.size = F.toList) : Holds id w g 0 F := by
  intro j hj
  refine ⟨?_, by simp [World.frozen?, hb]⟩
  have h1 : (cur.toList.take F.size)[j]? = F.toList[j]? := by rw [ht]
  rw [List.getElem?_take_of_lt hj] at h1
  simp only [World.cell?, hb, Nat.zero_add]
  simp only [Option.isSome_none, Bool.false_eq_true, if_false]
  rw [← Array.getElem?_toList, h1]
  simp [hj]
theorem heap_put {w : World} {g n : Nat} {os : Array Obj} {cur F : Array Value} {e : TypeId} {fr : Nat × Nat} (hb : w.heap[g]? = some (.cells cur e fr)) :
    (grow (putRow id (Sort.ahead w n) g 0 F) os).heap[g]? = some (.cells (putCells id 0 F cur) e fr) := by
  have hg : g < w.heap.size := (Array.getElem?_eq_some_iff.1 hb).1
  rw [heap_grow_old _ _ (by simpa using hg)]
  simp [putRow, mapBlock, Sort.ahead, Array.getElem?_modify, hb, onCells]
theorem ext_put {w : World} {g n : Nat} {os : Array Obj} {F : Array Value} : Ext (fun i => i = g) w (grow (putRow id (Sort.ahead w n) g 0 F) os) := by
  refine ⟨rfl, rfl, rfl, by simp, fun k hk hne => ?_⟩
  rw [heap_grow_old _ _ (by simpa using hk)]
  have : g ≠ k := fun e => hne e.symm
  simp [putRow, mapBlock, Sort.ahead, Array.getElem?_modify, this]
theorem take_put (cur F : Array Value) (h : F.size ≤ cur.size) : (putCells id 0 F cur).toList.take F.size = F.toList := by
  apply List.ext_getElem?
  intro j
  by_cases hj : j < F.size
  · rw [List.getElem?_take_of_lt hj, Array.getElem?_toList]
    simp [putCells, hj, show j < cur.size by omega]
  · rw [List.getElem?_take_eq_none (by omega), List.getElem?_eq_none (by simp; omega)]
theorem flat_cells (ys : List Sp) : (flatK Sp.cells 2 ys.toArray).toList = cellsOf Sp.cells ys := by
  apply List.ext_getElem?
  intro t
  have hl : (cellsOf Sp.cells ys).length = ys.length * 2 := length_cellsOf Sp.clen ys
  by_cases h : t < ys.length * 2
  · have hd : t / 2 < ys.length := by omega
    have hm : t % 2 < 2 := by omega
    have h2 := cellsOf_at Sp.clen ys (t / 2) hd (t % 2) hm
    rw [show t / 2 * 2 + t % 2 = t by omega] at h2
    rw [h2]
    have h3 := get_flatK Sp.cells 2 ys.toArray t (by simpa using h)
    rw [getElem!_pos (flatK Sp.cells 2 ys.toArray) t (by simpa using h)] at h3
    rw [Array.getElem?_toList, Array.getElem?_eq_getElem (by simpa using h), h3]
    have h4 : ys.toArray[t / 2]! = ys[t / 2] := by rw [getElem!_pos ys.toArray (t / 2) (by simpa using hd)]; simp
    rw [h4]
    have h5 : t % 2 < ys[t / 2].cells.length := by rw [Sp.clen]; exact hm
    rw [getElem!_pos ys[t / 2].cells (t % 2) h5, List.getElem?_eq_getElem h5]
  · rw [List.getElem?_eq_none (by simp; omega), List.getElem?_eq_none (by omega)]

set_option maxRecDepth 100000 in
set_option maxHeartbeats 1000000 in
theorem sorted_any (sv : Value) (xs : List Sp) (hlen : xs.length ≤ 1000000) (w : World) (hr : RdS Sp.cells 2 w sv xs) :
    Calls Tryz.prog 63 #[sv] w fun e w' => ∃ v ys, e = .returned v ∧ ys.Perm xs ∧ ys.Pairwise (fun a b => a.at_ ≤ b.at_) ∧ w'.ownsRow w.heap.size 73 2 v ys.length (cellsOf Sp.cells ys) ∧ Ext0 w w' := by
  have eg : ∀ args w, (callFunc 74 args).run Tryz.prog w = .ok (.enter 74 args) w := enters_of Tryz.func74 (by kernel_rfl) rfl
  have hSp := SpB.of hr
  obtain ⟨A, cap, rfl, _⟩ := hr.len
  have hv := callsIn_wide.1 (values_in Fence.wide 3 trivial rfl A xs.length cap w)
  have hcol := collect_any w.heap.size (.slice A xs.length cap) xs hlen (w.alloc (.cells #[.slice A xs.length cap] 71)) (by simp) (by rw [World.cell?_alloc_at _ _ _ _ rfl]; rfl) (by
    obtain ⟨A', cap', he, h⟩ := hSp.below ((Below.refl _ w).alloc (Nat.le_refl _) (.cells #[.slice A xs.length cap] 71))
    refine ⟨A', cap', he, h.imp id ?_⟩
    rintro ⟨b, off, cs, T, fr, h1, h2, h3⟩
    exact ⟨b, off, cs, T, fr, h1, by simp; omega, h3⟩)
  have hB1 : Ext0 w (w.alloc (.cells #[.slice A xs.length cap] 71)) := Ext.alloc _ _ _
  generalize hw1 : w.alloc (.cells #[.slice A xs.length cap] 71) = w1 at hcol hB1 hv
  clear hw1 hSp hr
  generalize hF : w.heap.size = g0 at hcol hv
  -- the sort
  have hsort : ∀ (v : Value) (w2 : World), w2.ownsRow w1.heap.size 73 2 v xs.length (cellsOf Sp.cells xs) → Calls Tryz.prog 82 #[v, .func (.func 74) #[] #[]] w2 fun e w' =>
      e = .returned (.tuple #[]) ∧ ∃ ys, ys.Perm xs ∧ ys.Pairwise (fun a b => a.at_ ≤ b.at_) ∧ w'.ownsRow w1.heap.size 73 2 v ys.length (cellsOf Sp.cells ys) ∧ Ext (fun i => v.ownBlock = some i) w2 w' := by
    intro v w2 ho
    have ho2 := ho
    obtain ⟨hl, ⟨rfl, h0⟩ | ⟨g, cap2, cur, rfl, hbase, hb, h1, h2, h3, h4⟩⟩ := ho
    · have hx := List.eq_nil_of_length_eq_zero h0
      subst hx
      have h := AnyF.slices_SortFunc_none (P := Tryz.prog) (ρ := sortFL_ren) sortFL none 0 (.func (.func 74) #[] #[]) w2
      exact h.mono fun e w' ⟨he, hw⟩ => ⟨he, [], .nil, .nil, by rw [hw]; exact ho2, by rw [hw]; exact Ext.refl _ _⟩
    · have hFx := flat_cells xs
      have hszF : (flatK Sp.cells 2 xs.toArray).size = xs.length * 2 := by simp
      have hH : HoldsK Sp.cells 2 w2 g 0 xs.toArray := holds_id hb (by rw [hszF, hFx, ← h4])
      have hc := AnyQ.slices_SortFunc (P := Tryz.prog) (ρ := sortFL_ren) sortFL 2 Tryz.isAgg73 Tryz.sizeOf73 Sp.cells Sp.clen Sp.one cmpAt swoAt 74 #[] g 0 cap2 xs.toArray w2 eg (cmpLaysAt g 0 _ w2) hH (blk_lt' hb) (by simp; omega)
      rw [List.size_toArray] at hc
      refine hc.mono ?_
      rintro e w' ⟨he, d', n, os, ⟨hp1, hp2, hp3⟩, hs, hw⟩
      have hd : d' = d'.toList.toArray := by simp
      have hsz' : d'.toList.length = xs.length := by rw [Array.length_toList, hp1]; simp
      refine ⟨he, d'.toList, ?_, ?_, ?_, ?_⟩
      · have e1 : d'.extract 0 xs.length = d' := by rw [← hsz', Array.length_toList]; simp
        have e2 : xs.toArray.extract 0 xs.length = xs.toArray := by simp
        rw [e1, e2] at hp3
        simpa using hp3
      · rw [List.pairwise_iff_getElem]
        intro i j hi hj hij
        have h := hs i j (Nat.zero_le _) hij (by omega)
        rw [ltAt, getElem!_pos d' i (by simpa using hi), getElem!_pos d' j (by simpa using hj)] at h
        simpa using h
      · rw [hw, hsz', hd]
        have hF2 := flat_cells d'.toList
        have hszF2 : (flatK Sp.cells 2 d'.toList.toArray).size = xs.length * 2 := by rw [size_flatK, List.size_toArray, hsz']
        refine ⟨by rw [length_cellsOf Sp.clen, hsz'], .inr ⟨g, cap2, _, rfl, hbase, heap_put hb, h1, h2, by simp [putCells, h3], ?_⟩⟩
        rw [← hszF2, take_put _ _ (by rw [hszF2, h3]; exact Nat.mul_le_mul_right 2 h1), hF2]
      · rw [hw]
        exact ext_put.mono (fun i _ hi => by subst hi; rfl)
  have hsf : Calls Tryz.prog 72 #[.func (.func 83) #[] #[.pointer (some ⟨g0, 0, none⟩)], .func (.func 74) #[] #[]] w1 fun e w' =>
      ∃ v ys, e = .returned v ∧ ys.Perm xs ∧ ys.Pairwise (fun a b => a.at_ ≤ b.at_) ∧ w'.ownsRow w1.heap.size 73 2 v ys.length (cellsOf Sp.cells ys) ∧ Ext0 w1 w' := by
    clear hv hB1
    go_enter Tryz.func72, Tryz.ntmps72
    go_wp2_with (first
      | (go_at_call 81; refine hcol.mono ?_; rintro e w2 ⟨v, rfl, ho, hb⟩)
      | (go_at_call 82; refine (hsort v _ ho).mono ?_; rintro e w3 ⟨rfl, ys, hp, hs, ho2, hE⟩))
    go_ret
    exact ⟨v, ys, rfl, hp, hs, ho2, (Ext0.of_below hb).trans hE (fun i hi hf => absurd hi (by have := (ho.lt i hf).1; omega))⟩
  clear hcol hsort
  go_enter Tryz.func63, Tryz.ntmps63
  go_wp2_with (first
    | (go_at_call 73; refine hv.mono ?_; rintro e w2 ⟨rfl, rfl⟩)
    | (go_at_call 72; refine hsf.mono ?_; rintro e w3 ⟨v, ys, rfl, hp, hs, ho2, hE⟩))
  go_ret
  exact ⟨v, ys, rfl, hp, hs, ownsRow_weak ho2 (fun i hi => by have := (ho2.lt i hi).1; have := hB1.size; omega), hB1.trans0 hE⟩
end Go.Proofs.YtmfcccflohpjiaaGreatDoor
