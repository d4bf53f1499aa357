/- Spans: sorted by where they begin. -/
import Derived.Test.YtoaieodcdbbndaaSpaceB
import Derived.Shelf.SlSortCmp.WholeK
import Derived.Shelf.SlSortCmp.NoneTotal
import Derived.Shelf.SlGeneric
import Derived.Sort.OwnSorted
namespace Go.Proofs.Ytoaieodcdbbndaa
set_option linter.unusedVariables false
set_option linter.unusedSimpArgs false
open Go.RowKit Go.Shelf Go.Lib Go.Sort

def sortFL_ren : Go.Shelf.Ren := ⟨fun | 6 => 72 | 15 => 78 | 14 => 77 | 28 => 87 | 29 => 88 | 20 => 79 | 21 => 80 | 22 => 81 | 23 => 82 | 24 => 83 | 25 => 84 | 26 => 85 | 27 => 86 | 46 => 89 | 47 => 90 | 48 => 91 | 49 => 92 | 50 => 93 | 57 => 94 | n => n, fun | 22 => 30 | 24 => 57 | 25 => 97 | 3 => 3 | 39 => 98 | 0 => 0 | 53 => 115 | 55 => 83 | 4 => 4 | 46 => 108 | 45 => 107 | 50 => 112 | 5 => 5 | 9 => 9 | 66 => 117 | 70 => 121 | 76 => 123 | 77 => 70 | n => n, fun | n => n⟩
theorem sortFL : Go.Proofs.SlLaysF0.n6 Try.prog sortFL_ren where
  mixed := by kernel_rfl
  f6 := ⟨Try.f72.name, by decide, Try.func72.trans (congrArg some (by kernel_rfl))⟩
  f14 := ⟨Try.f77.name, by decide, Try.func77.trans (congrArg some (by kernel_rfl))⟩
  f15 := Try.func78.trans (congrArg some (by kernel_rfl))
  f20 := ⟨Try.f79.name, by decide, Try.func79.trans (congrArg some (by kernel_rfl))⟩
  f21 := ⟨Try.f80.name, by decide, Try.func80.trans (congrArg some (by kernel_rfl))⟩
  f22 := ⟨Try.f81.name, by decide, Try.func81.trans (congrArg some (by kernel_rfl))⟩
  f23 := ⟨Try.f82.name, by decide, Try.func82.trans (congrArg some (by kernel_rfl))⟩
  f24 := ⟨Try.f83.name, by decide, Try.func83.trans (congrArg some (by kernel_rfl))⟩
  f25 := ⟨Try.f84.name, by decide, Try.func84.trans (congrArg some (by kernel_rfl))⟩
  f26 := ⟨Try.f85.name, by decide, Try.func85.trans (congrArg some (by kernel_rfl))⟩
  f27 := ⟨Try.f86.name, by decide, Try.func86.trans (congrArg some (by kernel_rfl))⟩
  f28 := Try.func87.trans (congrArg some (by kernel_rfl))
  f29 := Try.func88.trans (congrArg some (by kernel_rfl))
  f46 := ⟨Try.f89.name, by decide, Try.func89.trans (congrArg some (by kernel_rfl))⟩
  f47 := Try.func90.trans (congrArg some (by kernel_rfl))
  f48 := Try.func91.trans (congrArg some (by kernel_rfl))
  f49 := ⟨Try.f92.name, by decide, Try.func92.trans (congrArg some (by kernel_rfl))⟩
  f50 := ⟨Try.f93.name, by decide, Try.func93.trans (congrArg some (by kernel_rfl))⟩
  f57 := ⟨Try.f94.name, by decide, Try.func94.trans (congrArg some (by kernel_rfl))⟩
  t0 := Try.underlying0
  a0 := Try.isAgg0
  z0 := Try.sizeOf0
  v0 := Try.zeroValue0
  t3 := Try.underlying3
  a3 := Try.isAgg3
  z3 := Try.sizeOf3
  v3 := Try.zeroValue3
  t4 := Try.underlying4
  a4 := Try.isAgg4
  z4 := Try.sizeOf4
  v4 := Try.zeroValue4
  t5 := Try.underlying5
  a5 := Try.isAgg5
  z5 := Try.sizeOf5
  v5 := Try.zeroValue5
  t9 := Try.underlying9
  a9 := Try.isAgg9
  z9 := Try.sizeOf9
  v9 := Try.zeroValue9
  t22 := Try.underlying30
  a22 := Try.isAgg30
  z22 := Try.sizeOf30
  v22 := Try.zeroValue30
  t25 := Try.underlying97
  a25 := Try.isAgg97
  z25 := Try.sizeOf97
  v25 := Try.zeroValue97
  t39 := Try.underlying98
  a39 := Try.isAgg98
  z39 := Try.sizeOf98
  v39 := Try.zeroValue98
  t45 := Try.underlying107
  a45 := Try.isAgg107
  z45 := Try.sizeOf107
  v45 := Try.zeroValue107
  t46 := Try.underlying108
  a46 := Try.isAgg108
  z46 := Try.sizeOf108
  v46 := Try.zeroValue108
  t50 := Try.underlying112
  a50 := Try.isAgg112
  z50 := Try.sizeOf112
  v50 := Try.zeroValue112
  t53 := Try.underlying115
  a53 := Try.isAgg115
  z53 := Try.sizeOf115
  v53 := Try.zeroValue115
  t55 := Try.underlying83
  a55 := Try.isAgg83
  z55 := Try.sizeOf83
  v55 := Try.zeroValue83
  t66 := Try.underlying117
  a66 := Try.isAgg117
  z66 := Try.sizeOf117
  v66 := Try.zeroValue117
  t70 := Try.underlying121
  a70 := Try.isAgg121
  z70 := Try.sizeOf121
  v70 := Try.zeroValue121
  t76 := Try.underlying123
  a76 := Try.isAgg123
  z76 := Try.sizeOf123
  v76 := Try.zeroValue123
  t77 := Try.underlying70
  a77 := Try.isAgg70
  z77 := Try.sizeOf70
  v77 := Try.zeroValue70

instance : Inhabited Sp := ⟨⟨0, 0⟩⟩
def cmpAt (x y : Sp) : Int := if x.at_ < y.at_ then -1 else if y.at_ < x.at_ then 1 else 0
theorem ltAt (x y : Sp) : ltOf cmpAt x y = decide (x.at_ < y.at_) := by
  unfold ltOf cmpAt
  by_cases h1 : x.at_ < y.at_
  · simp [h1]
  · by_cases h2 : y.at_ < x.at_ <;> simp [h1, h2]
theorem swoAt : SWO (ltOf cmpAt) where
  irrefl x := by rw [ltAt]; simp
  trans x y z h1 h2 := by rw [ltAt] at *; simp at *; omega
  ntrans x y z h1 h2 := by rw [ltAt] at *; simp at *; omega

set_option maxHeartbeats 1000000 in
theorem compare_any (a b : Int) (w : World) : Calls Try.prog 69 #[.int .i64 a, .int .i64 b] w fun e w' => e = .returned (.int .i64 (if a < b then -1 else if b < a then 1 else 0)) ∧ w' = w := by
  by_cases h1 : a < b
  · rw [if_pos h1]
    go_enter Try.func69, Try.ntmps69
    go_wp2
    go_ret
    exact ⟨rfl, rfl⟩
  · rw [if_neg h1]
    by_cases h2 : b < a
    · rw [if_pos h2]
      go_enter Try.func69, Try.ntmps69
      go_wp2
      go_ret
      exact ⟨rfl, rfl⟩
    · rw [if_neg h2]
      go_enter Try.func69, Try.ntmps69
      go_wp2
      go_ret
      exact ⟨rfl, rfl⟩
set_option maxHeartbeats 1000000 in
theorem closure_any (x y : Sp) (W : World) : Calls Try.prog 68 #[.agg #[.int .i64 x.at_, .int .i64 x.len], .agg #[.int .i64 y.at_, .int .i64 y.len]] W fun e w' => e = .returned (.int .i64 (cmpAt x y)) ∧ ∃ q os', w' = grow (W.drewN q) os' := by
  have hcon := fun W' => compare_any x.at_ y.at_ W'
  change ∀ W', Calls Try.prog 69 _ W' (fun e w' => e = .returned (.int .i64 (cmpAt x y)) ∧ w' = W') at hcon
  generalize cmpAt x y = r at hcon ⊢
  go_enter Try.func68, Try.ntmps68
  go_wp2_with (go_at_call 69; refine (hcon _).mono ?_; rintro e w' ⟨rfl, rfl⟩)
  go_ret
  exact ⟨rfl, 0, _, by rw [alloc_eq_grow, alloc_eq_grow, grow_grow]; rfl⟩
theorem cmpLaysAt (blk off size : Nat) (w : World) : CmpLays Try.prog 68 #[] Sp.cells 2 cmpAt blk off size w := fun _ _ _ _ x y => closure_any x y _

/-! What lies behind the sort. -/
theorem holds_id {w : World} {g : Nat} {cur F : Array Value} {e : TypeId} (hb : w.heap[g]? = some (.cells cur e (0, 0))) (ht : cur.toList.take F.size = F.toList) : Holds id w g 0 F := by
  intro j hj
  refine ⟨?_, by simp [World.frozen?, hb]⟩
  have h1 : (cur.toList.take F.size)[j]? = F.toList[j]? := by rw [ht]
  rw [List.getElem?_take_of_lt hj] at h1
  simp only [World.cell?, hb, Nat.zero_add]
  simp only [Option.isSome_none, Bool.false_eq_true, if_false]
  rw [← Array.getElem?_toList, h1]
  simp [hj]
theorem heap_put {w : World} {g n : Nat} {os : Array Obj} {cur F : Array Value} {e : TypeId} {fr : Nat × Nat} (hb : w.heap[g]? = some (.cells cur e fr)) :
    (grow (putRow id (Sort.ahead w n) g 0 F) os).heap[g]? = some (.cells (putCells id 0 F cur) e fr) := by
  have hg : g < w.heap.size := (Array.getElem?_eq_some_iff.1 hb).1
  rw [heap_grow_old _ _ (by simpa using hg)]
  simp [putRow, mapBlock, Sort.ahead, Array.getElem?_modify, hb, onCells]
theorem ext_put {w : World} {g n : Nat} {os : Array Obj} {F : Array Value} : Ext (fun i => i = g) w (grow (putRow id (Sort.ahead w n) g 0 F) os) := by
  refine ⟨rfl, rfl, rfl, by simp, fun k hk hne => ?_⟩
  rw [heap_grow_old _ _ (by simpa using hk)]
  have : g ≠ k := fun e => hne e.symm
  simp [putRow, mapBlock, Sort.ahead, Array.getElem?_modify, this]
theorem take_put (cur F : Array Value) (h : F.size ≤ cur.size) : (putCells id 0 F cur).toList.take F.size = F.toList := by
  apply List.ext_getElem?
  intro j
  by_cases hj : j < F.size
  · rw [List.getElem?_take_of_lt hj, Array.getElem?_toList]
    simp [putCells, hj, show j < cur.size by omega]
  · rw [List.getElem?_take_eq_none (by omega), List.getElem?_eq_none (by simp; omega)]
theorem flat_cells (ys : List Sp) : (flatK Sp.cells 2 ys.toArray).toList = cellsOf Sp.cells ys := by
  apply List.ext_getElem?
  intro t
  have hl : (cellsOf Sp.cells ys).length = ys.length * 2 := length_cellsOf Sp.clen ys
  by_cases h : t < ys.length * 2
  · have hd : t / 2 < ys.length := by omega
    have hm : t % 2 < 2 := by omega
    have h2 := cellsOf_at Sp.clen ys (t / 2) hd (t % 2) hm
    rw [show t / 2 * 2 + t % 2 = t by omega] at h2
    rw [h2]
    have h3 := get_flatK Sp.cells 2 ys.toArray t (by simpa using h)
    rw [getElem!_pos (flatK Sp.cells 2 ys.toArray) t (by simpa using h)] at h3
    rw [Array.getElem?_toList, Array.getElem?_eq_getElem (by simpa using h), h3]
    have h4 : ys.toArray[t / 2]! = ys[t / 2] := by rw [getElem!_pos ys.toArray (t / 2) (by simpa using hd)]; simp
    rw [h4]
    have h5 : t % 2 < ys[t / 2].cells.length := by rw [Sp.clen]; exact hm
    rw [getElem!_pos ys[t / 2].cells (t % 2) h5, List.getElem?_eq_getElem h5]
  · rw [List.getElem?_eq_none (by simp; omega), List.getElem?_eq_none (by omega)]

set_option maxRecDepth 100000 in
set_option maxHeartbeats 1000000 in
theorem sorted_any (sv : Value) (xs : List Sp) (hlen : xs.length ≤ 1000000) (w : World) (hr : RdS Sp.cells 2 w sv xs) :
    Calls Try.prog 57 #[sv] w fun e w' => ∃ v ys, e = .returned v ∧ ys.Perm xs ∧ ys.Pairwise (fun a b => a.at_ ≤ b.at_) ∧ w'.ownsRow w.heap.size 57 2 v ys.length (cellsOf Sp.cells ys) ∧ Ext0 w w' := by
  have eg : ∀ args w, (callFunc 68 args).run Try.prog w = .ok (.enter 68 args) w := enters_of Try.func68 (by kernel_rfl) rfl
  have hSp := SpB.of hr
  obtain ⟨A, cap, rfl, _⟩ := hr.len
  have hv := callsIn_wide.1 (values_in Fence.wide 3 trivial rfl A xs.length cap w)
  have hcol := collect_any w.heap.size (.slice A xs.length cap) xs hlen (w.alloc (.cells #[.slice A xs.length cap] 30)) (by simp) (by rw [World.cell?_alloc_at _ _ _ _ rfl]; rfl) (by
    obtain ⟨A', cap', he, h⟩ := hSp.below ((Below.refl _ w).alloc (Nat.le_refl _) (.cells #[.slice A xs.length cap] 30))
    refine ⟨A', cap', he, h.imp id ?_⟩
    rintro ⟨b, off, cs, T, fr, h1, h2, h3⟩
    exact ⟨b, off, cs, T, fr, h1, by simp; omega, h3⟩)
  have hB1 : Ext0 w (w.alloc (.cells #[.slice A xs.length cap] 30)) := Ext.alloc _ _ _
  generalize hw1 : w.alloc (.cells #[.slice A xs.length cap] 30) = w1 at hcol hB1 hv
  clear hw1 hSp hr
  generalize hF : w.heap.size = g0 at hcol hv
  -- the sort
  have hsort : ∀ (v : Value) (w2 : World), w2.ownsRow w1.heap.size 57 2 v xs.length (cellsOf Sp.cells xs) → Calls Try.prog 72 #[v, .func (.func 68) #[] #[]] w2 fun e w' =>
      e = .returned (.tuple #[]) ∧ ∃ ys, ys.Perm xs ∧ ys.Pairwise (fun a b => a.at_ ≤ b.at_) ∧ w'.ownsRow w1.heap.size 57 2 v ys.length (cellsOf Sp.cells ys) ∧ Ext (fun i => v.ownBlock = some i) w2 w' := by
    intro v w2 ho
    have ho2 := ho
    obtain ⟨hl, ⟨rfl, h0⟩ | ⟨g, cap2, cur, rfl, hbase, hb, h1, h2, h3, h4⟩⟩ := ho
    · have hx := List.eq_nil_of_length_eq_zero h0
      subst hx
      have h := AnyF.slices_SortFunc_none (P := Try.prog) (ρ := sortFL_ren) sortFL none 0 (.func (.func 68) #[] #[]) w2
      exact h.mono fun e w' ⟨he, hw⟩ => ⟨he, [], .nil, .nil, by rw [hw]; exact ho2, by rw [hw]; exact Ext.refl _ _⟩
    · have hFx := flat_cells xs
      have hszF : (flatK Sp.cells 2 xs.toArray).size = xs.length * 2 := by simp
      have hH : HoldsK Sp.cells 2 w2 g 0 xs.toArray := holds_id hb (by rw [hszF, hFx, ← h4])
      have hc := AnyQ.slices_SortFunc (P := Try.prog) (ρ := sortFL_ren) sortFL 2 Try.isAgg57 Try.sizeOf57 Sp.cells Sp.clen Sp.one cmpAt swoAt 68 #[] g 0 cap2 xs.toArray w2 eg (cmpLaysAt g 0 _ w2) hH (blk_lt' hb) (by simp; omega)
      rw [List.size_toArray] at hc
      refine hc.mono ?_
      rintro e w' ⟨he, d', n, os, ⟨hp1, hp2, hp3⟩, hs, hw⟩
      have hd : d' = d'.toList.toArray := by simp
      have hsz' : d'.toList.length = xs.length := by rw [Array.length_toList, hp1]; simp
      refine ⟨he, d'.toList, ?_, ?_, ?_, ?_⟩
      · have e1 : d'.extract 0 xs.length = d' := by rw [← hsz', Array.length_toList]; simp
        have e2 : xs.toArray.extract 0 xs.length = xs.toArray := by simp
        rw [e1, e2] at hp3
        simpa using hp3
      · rw [List.pairwise_iff_getElem]
        intro i j hi hj hij
        have h := hs i j (Nat.zero_le _) hij (by omega)
        rw [ltAt, getElem!_pos d' i (by simpa using hi), getElem!_pos d' j (by simpa using hj)] at h
        simpa using h
      · rw [hw, hsz', hd]
        have hF2 := flat_cells d'.toList
        have hszF2 : (flatK Sp.cells 2 d'.toList.toArray).size = xs.length * 2 := by rw [size_flatK, List.size_toArray, hsz']
        refine ⟨by rw [length_cellsOf Sp.clen, hsz'], .inr ⟨g, cap2, _, rfl, hbase, heap_put hb, h1, h2, by simp [putCells, h3], ?_⟩⟩
        rw [← hszF2, take_put _ _ (by rw [hszF2, h3]; exact Nat.mul_le_mul_right 2 h1), hF2]
      · rw [hw]
        exact ext_put.mono (fun i _ hi => by subst hi; rfl)
  have hsf : Calls Try.prog 66 #[.func (.func 73) #[] #[.pointer (some ⟨g0, 0, none⟩)], .func (.func 68) #[] #[]] w1 fun e w' =>
      ∃ v ys, e = .returned v ∧ ys.Perm xs ∧ ys.Pairwise (fun a b => a.at_ ≤ b.at_) ∧ w'.ownsRow w1.heap.size 57 2 v ys.length (cellsOf Sp.cells ys) ∧ Ext0 w1 w' := by
    clear hv hB1
    go_enter Try.func66, Try.ntmps66
    go_wp2_with (first
      | (go_at_call 71; refine hcol.mono ?_; rintro e w2 ⟨v, rfl, ho, hb⟩)
      | (go_at_call 72; refine (hsort v _ ho).mono ?_; rintro e w3 ⟨rfl, ys, hp, hs, ho2, hE⟩))
    go_ret
    exact ⟨v, ys, rfl, hp, hs, ho2, (Ext0.of_below hb).trans hE (fun i hi hf => absurd hi (by have := (ho.lt i hf).1; omega))⟩
  clear hcol hsort
  go_enter Try.func57, Try.ntmps57
  go_wp2_with (first
    | (go_at_call 67; refine hv.mono ?_; rintro e w2 ⟨rfl, rfl⟩)
    | (go_at_call 66; refine hsf.mono ?_; rintro e w3 ⟨v, ys, rfl, hp, hs, ho2, hE⟩))
  go_ret
  exact ⟨v, ys, rfl, hp, hs, ownsRow_weak ho2 (fun i hi => by have := (ho2.lt i hi).1; have := hB1.size; omega), hB1.trans0 hE⟩
end Go.Proofs.Ytoaieodcdbbndaa
