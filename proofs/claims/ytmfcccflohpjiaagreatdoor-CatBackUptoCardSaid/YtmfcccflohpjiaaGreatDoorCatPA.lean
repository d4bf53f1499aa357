/- Names of files: the walks of package path. -/
import Derived.Test.YtmfcccflohpjiaaGreatDoorCatPL
import Derived.Test.YtmfcccflohpjiaaGreatDoorSlice
import Derived.Test.YtmfcccflohpjiaaGreatDoorMake
import Derived.Test.YtmfcccflohpjiaaGreatDoorProg
import Derived.Shelf.GgClosure.StringsIndexFuncTop
import Derived.Shelf.Strings.SplitShaped
import Derived.Shelf.Strings.Runes
import Derived.Shelf.SlLaysH
import Derived.Shelf.SlicesE.IndexFunc
namespace Go.Proofs.YtmfcccflohpjiaaGreatDoor.Pth
set_option linter.unusedVariables false
set_option linter.unusedSimpArgs false
open Go.RowKit Go.Shelf

def splitL_ren : Go.Shelf.Ren := ⟨fun | 146 => 66 | 221 => 77 | 268 => 85 | 138 => 86 | 143 => 87 | 195 => 93 | 197 => 94 | 218 => 95 | 219 => 96 | 260 => 111 | 217 => 112 | 225 => 100 | 224 => 99 | 267 => 113 | 266 => 119 | 314 => 120 | n => n, fun | 9 => 9 | 31 => 81 | 3 => 3 | 4 => 4 | 0 => 0 | 105 => 111 | 21 => 21 | 5 => 5 | 46 => 84 | 119 => 132 | 139 => 135 | 138 => 134 | 146 => 136 | 51 => 124 | n => n, fun | 1 => 0 | 3 => 1 | 4 => 2 | n => n⟩
theorem splitL : Go.Proofs.LaysM.n146 Tryz.prog splitL_ren where
  mixed := by kernel_rfl
  f138 := Tryz.func86.trans (congrArg some (by kernel_rfl))
  f143 := Tryz.func87.trans (congrArg some (by kernel_rfl))
  f146 := Tryz.func66.trans (congrArg some (by kernel_rfl))
  f195 := Tryz.func93.trans (congrArg some (by kernel_rfl))
  f197 := Tryz.func94.trans (congrArg some (by kernel_rfl))
  f217 := Tryz.func112.trans (congrArg some (by kernel_rfl))
  f218 := Tryz.func95.trans (congrArg some (by kernel_rfl))
  f219 := Tryz.func96.trans (congrArg some (by kernel_rfl))
  f221 := Tryz.func77.trans (congrArg some (by kernel_rfl))
  f224 := Tryz.func99.trans (congrArg some (by kernel_rfl))
  f225 := Tryz.func100.trans (congrArg some (by kernel_rfl))
  f260 := Tryz.func111.trans (congrArg some (by kernel_rfl))
  f266 := Tryz.func119.trans (congrArg some (by kernel_rfl))
  f267 := Tryz.func113.trans (congrArg some (by kernel_rfl))
  f268 := Tryz.func85.trans (congrArg some (by kernel_rfl))
  f314 := Tryz.func120.trans (congrArg some (by kernel_rfl))
  t0 := Tryz.underlying0
  a0 := Tryz.isAgg0
  z0 := Tryz.sizeOf0
  v0 := Tryz.zeroValue0
  t3 := Tryz.underlying3
  a3 := Tryz.isAgg3
  z3 := Tryz.sizeOf3
  v3 := Tryz.zeroValue3
  t4 := Tryz.underlying4
  a4 := Tryz.isAgg4
  z4 := Tryz.sizeOf4
  v4 := Tryz.zeroValue4
  t5 := Tryz.underlying5
  a5 := Tryz.isAgg5
  z5 := Tryz.sizeOf5
  v5 := Tryz.zeroValue5
  t9 := Tryz.underlying9
  a9 := Tryz.isAgg9
  z9 := Tryz.sizeOf9
  v9 := Tryz.zeroValue9
  t21 := Tryz.underlying21
  a21 := Tryz.isAgg21
  z21 := Tryz.sizeOf21
  v21 := Tryz.zeroValue21
  t31 := Tryz.underlying81
  a31 := Tryz.isAgg81
  z31 := Tryz.sizeOf81
  v31 := Tryz.zeroValue81
  t46 := Tryz.underlying84
  a46 := Tryz.isAgg84
  z46 := Tryz.sizeOf84
  v46 := Tryz.zeroValue84
  t51 := Tryz.underlying124
  a51 := Tryz.isAgg124
  z51 := Tryz.sizeOf124
  v51 := Tryz.zeroValue124
  t105 := Tryz.underlying111
  a105 := Tryz.isAgg111
  z105 := Tryz.sizeOf111
  v105 := Tryz.zeroValue111
  t119 := Tryz.underlying132
  a119 := Tryz.isAgg132
  z119 := Tryz.sizeOf132
  t138 := Tryz.underlying134
  a138 := Tryz.isAgg134
  z138 := Tryz.sizeOf134
  v138 := Tryz.zeroValue134
  t139 := Tryz.underlying135
  a139 := Tryz.isAgg135
  z139 := Tryz.sizeOf135
  v139 := Tryz.zeroValue135
  t146 := Tryz.underlying136
  a146 := Tryz.isAgg136
  z146 := Tryz.sizeOf136
  v146 := Tryz.zeroValue136
  g1 := by kernel_rfl
  g3 := by kernel_rfl
  g4 := by kernel_rfl
  i0 := by kernel_rfl
  i3 := by kernel_rfl
  i4 := by kernel_rfl
  i5 := by kernel_rfl
  i9 := by kernel_rfl
  i21 := by kernel_rfl
  i31 := by kernel_rfl
  i46 := by kernel_rfl
  i51 := by kernel_rfl
  i105 := by kernel_rfl
  i138 := by kernel_rfl
  i139 := by kernel_rfl
  i146 := by kernel_rfl
  m1 := by kernel_rfl
  s1_3 := fun w h => Go.Proofs.cell_of_shapedOpen_int (zero := #[.int .i64 0]) (t := 3) h (of_decide_eq_true (by kernel_rfl)) (by kernel_rfl) rfl (by kernel_rfl) (by kernel_rfl) Tryz.underlying3
  m3 := by kernel_rfl
  m4 := by kernel_rfl
def runeL_ren : Go.Shelf.Ren := ⟨fun | 151 => 80 | 152 => 89 | 137 => 97 | 119 => 98 | 224 => 99 | 225 => 100 | 217 => 112 | 266 => 119 | n => n, fun | 9 => 9 | 21 => 21 | 4 => 4 | 3 => 3 | 5 => 5 | 0 => 0 | 46 => 84 | n => n, fun | n => n⟩
theorem runeL : Go.Proofs.Lays.n151 Tryz.prog runeL_ren where
  mixed := by kernel_rfl
  f119 := Tryz.func98.trans (congrArg some (by kernel_rfl))
  f137 := Tryz.func97.trans (congrArg some (by kernel_rfl))
  f151 := Tryz.func80.trans (congrArg some (by kernel_rfl))
  f152 := Tryz.func89.trans (congrArg some (by kernel_rfl))
  f217 := Tryz.func112.trans (congrArg some (by kernel_rfl))
  f224 := Tryz.func99.trans (congrArg some (by kernel_rfl))
  f225 := Tryz.func100.trans (congrArg some (by kernel_rfl))
  f266 := Tryz.func119.trans (congrArg some (by kernel_rfl))
  t0 := Tryz.underlying0
  a0 := Tryz.isAgg0
  z0 := Tryz.sizeOf0
  v0 := Tryz.zeroValue0
  t3 := Tryz.underlying3
  a3 := Tryz.isAgg3
  z3 := Tryz.sizeOf3
  v3 := Tryz.zeroValue3
  t4 := Tryz.underlying4
  a4 := Tryz.isAgg4
  z4 := Tryz.sizeOf4
  v4 := Tryz.zeroValue4
  t5 := Tryz.underlying5
  a5 := Tryz.isAgg5
  z5 := Tryz.sizeOf5
  v5 := Tryz.zeroValue5
  t9 := Tryz.underlying9
  a9 := Tryz.isAgg9
  z9 := Tryz.sizeOf9
  v9 := Tryz.zeroValue9
  t21 := Tryz.underlying21
  a21 := Tryz.isAgg21
  z21 := Tryz.sizeOf21
  v21 := Tryz.zeroValue21
  t46 := Tryz.underlying84
  a46 := Tryz.isAgg84
  z46 := Tryz.sizeOf84
  v46 := Tryz.zeroValue84
def funcL_ren : Go.Shelf.Ren := ⟨fun | 17 => 69 | 15 => 79 | 20 => 88 | n => n, fun | 9 => 9 | 23 => 88 | 4 => 4 | 3 => 3 | 0 => 0 | 21 => 21 | n => n, fun | n => n⟩
theorem funcL : Go.Proofs.LaysGw.n17 Tryz.prog funcL_ren where
  mixed := by kernel_rfl
  f15 := Tryz.func79.trans (congrArg some (by kernel_rfl))
  f17 := Tryz.func69.trans (congrArg some (by kernel_rfl))
  f20 := Tryz.func88.trans (congrArg some (by kernel_rfl))
  t0 := Tryz.underlying0
  a0 := Tryz.isAgg0
  z0 := Tryz.sizeOf0
  v0 := Tryz.zeroValue0
  i0 := by kernel_rfl
  t3 := Tryz.underlying3
  a3 := Tryz.isAgg3
  z3 := Tryz.sizeOf3
  v3 := Tryz.zeroValue3
  i3 := by kernel_rfl
  t4 := Tryz.underlying4
  a4 := Tryz.isAgg4
  z4 := Tryz.sizeOf4
  v4 := Tryz.zeroValue4
  i4 := by kernel_rfl
  t9 := Tryz.underlying9
  a9 := Tryz.isAgg9
  z9 := Tryz.sizeOf9
  v9 := Tryz.zeroValue9
  i9 := by kernel_rfl
  t21 := Tryz.underlying21
  a21 := Tryz.isAgg21
  z21 := Tryz.sizeOf21
  v21 := Tryz.zeroValue21
  i21 := by kernel_rfl
  t23 := Tryz.underlying88
  a23 := Tryz.isAgg88
  z23 := Tryz.sizeOf88
  v23 := Tryz.zeroValue88
  i23 := by kernel_rfl

def bs (l : List UInt8) : ByteArray := ⟨l.toArray⟩
abbrev lst (s : ByteArray) : List UInt8 := s.data.toList
theorem lst_bs (l : List UInt8) : lst (bs l) = l := by simp [lst, bs]
theorem bs_lst (s : ByteArray) : bs (lst s) = s := by simp [lst, bs]
def encB (l : List UInt8) : List Value := [.string (bs l)]

theorem runes_four : ∀ r : Nat, r < 128 → 32 < r → (decide (0 ≤ Lib.indexByte [92, 58, 42, 63] r.toUInt8) = (r == 92 || r == 58 || r == 42 || r == 63)) := by decide
set_option maxHeartbeats 1000000 in
theorem bad_any (r : Nat) (w : World) : Calls Tryz.prog 70 #[.int .i32 (r : Int)] w fun e w' => e = .returned (.bool (badR r)) ∧ w' = w := by
  by_cases h1 : r ≤ 32
  · have h1' : (r : Int) ≤ 32 := by omega
    go_enter Tryz.func70, Tryz.ntmps70
    go_wp2
    go_ret
    exact ⟨by simp [badR, h1], rfl⟩
  · have h1' : ¬ (r : Int) ≤ 32 := by omega
    by_cases h2 : 126 < r
    · have h2' : 126 < (r : Int) := by omega
      go_enter Tryz.func70, Tryz.ntmps70
      go_wp2
      go_ret
      exact ⟨by simp [badR, h2], rfl⟩
    · have h2' : ¬ 126 < (r : Int) := by omega
      have hc := Any.strings_ContainsRune_ascii runeL ⟨#[92, 58, 42, 63]⟩ (r : Int) w (by omega) (by omega)
      change Calls Tryz.prog 80 _ _ _ at hc
      have h4 := runes_four r (by omega) (by omega)
      rw [show ((r : Int).toNat) = r from Int.toNat_natCast r] at hc
      rw [show decide (0 ≤ Lib.indexByte (ByteArray.data ⟨#[92, 58, 42, 63]⟩).toList r.toUInt8) = badR r by rw [h4]; simp [badR, h1, h2]] at hc
      clear h4
      generalize badR r = q at hc ⊢
      go_enter Tryz.func70, Tryz.ntmps70
      go_wp2_with (go_at_call 80; refine hc.mono ?_; rintro e w' ⟨rfl, rfl⟩)
      go_ret
      exact ⟨rfl, rfl⟩
theorem bad_pred (w : World) : PredAt Tryz.prog 70 #[] encR badR w := fun W r _ => (bad_any r W).mono fun _ _ h => ⟨h.1, 0, h.2⟩
theorem contains_bad (s : ByteArray) (w : World) : Calls Tryz.prog 69 #[.string s, .func (.func 70) #[] #[]] w fun e w' => e = .returned (.bool ((lst s).any badB)) ∧ Ext0 w w' := by
  have h := Any.strings_ContainsFunc funcL 70 #[] (enters_of Tryz.func70 (by kernel_rfl) rfl) badR s w (bad_pred w)
  rw [show decide (0 ≤ Lib.idxFunc badR true s) = (lst s).any badB from (idx_bad s s.size 0 (by omega)).trans (by rw [List.drop_zero])] at h
  exact h.mono fun _ _ h => ⟨h.1, Ext0.of_below h.2⟩

set_option maxHeartbeats 1000000 in
theorem part_any (s : ByteArray) (w : World) : Calls Tryz.prog 68 #[.string s] w fun e w' => e = .returned (.bool (!okP (lst s))) ∧ Ext0 w w' := by
  have H := Ext.refl (fun _ => False) w
  have hc := contains_bad s
  have hk : okP (lst s) = !(s.toList.isEmpty || s.toList == [46] || s.toList == [46, 46] || (lst s).any badB) := by rw [Go.ByteArray.toList_eq]; rfl
  generalize (lst s).any badB = q at hc hk
  have HK := Lib.hid hk
  clear hk
  go_enter Tryz.func68, Tryz.ntmps68
  go_wp2_with (go_at_call 69; refine (hc _).mono ?_; clear H; rintro e w' ⟨rfl, H⟩)
  all_goals go_ret
  all_goals refine ⟨?_, H⟩
  all_goals rw [HK.out]
  all_goals simp_all
theorem part_enters : ∀ args w, (callFunc 68 args).run Tryz.prog w = .ok (.enter 68 args) w := enters_of Tryz.func68 (by kernel_rfl) rfl

def strRow (ps : List (List UInt8)) : Array Value := (ps.map fun p => Value.string (bs p)).toArray
set_option maxHeartbeats 2000000 in
/-- slices.IndexFunc over the parts. -/
theorem index_any (ps : List (List UInt8)) (b : Nat) (T : TypeId) (fr : Nat × Nat) (c : Nat) (w : World) (hb : w.heap[b]? = some (.cells (strRow ps) T fr)) (hn : ps.length ≤ maxLen) :
    Calls Tryz.prog 78 #[.slice (some ⟨b, 0, none⟩) ps.length c, .func (.func 68) #[] #[]] w fun e w' => (∃ i : Int, e = .returned (.int .i64 i) ∧ decide (0 ≤ i) = ps.any (fun p => !okP p)) ∧ Ext0 w w' := by
  have H := Ext.refl (fun _ => False) w
  have eg := part_enters
  have hn2 : ps.length ≤ 9223372036854775807 := by simp [maxLen] at hn; omega
  go_enter Tryz.func78, Tryz.ntmps78
  go_wp2
  go_loopw [5, 8] (fun _ s8 wr => ∃ kk : Nat, kk ≤ ps.length ∧ s8 = .int .i64 (kk : Int) ∧ Ext0 w wr ∧ Aside (∀ p ∈ ps.take kk, okP p = true)) (fun _ s8 _ => ps.length - (intOf s8).toNat)
  case atStart => exact ⟨0, Nat.zero_le _, rfl, H, fun p hp => by simp at hp⟩
  case round =>
    clear H
    obtain ⟨kk, hkk, rfl, H, A⟩ := hrel
    by_cases hlt : kk < ps.length
    · have hltz : (kk : Int) < (ps.length : Int) := by omega
      have hgr := H.block0 hb
      have hcell : wr.cell? ⟨b, kk, none⟩ = some (.string (bs ps[kk])) := by
        rw [cell_of_row wr b _ _ T fr hgr]; simp [strRow, hlt]
      have hsn : ps.take (kk + 1) = ps.take kk ++ [ps[kk]] := by rw [List.take_add_one, List.getElem?_eq_getElem hlt]; rfl
      have hmem : ps[kk] ∈ ps := List.getElem_mem hlt
      generalize hx : ps[kk] = x at hcell hsn hmem
      have HS := Lib.hid hsn
      have HM := Lib.hid hmem
      clear hx hsn hmem
      have hp := fun W => part_any (bs x) W
      rw [lst_bs] at hp
      cases hq : okP x
      · rw [hq] at hp
        go_wp2_with (go_at_fn 68; refine (hp _).mono ?_; rintro e w' ⟨rfl, h'⟩; replace H := H.trans0 h'; clear h')
        go_ret
        refine ⟨⟨_, rfl, ?_⟩, H⟩
        rw [show ps.any (fun p => !okP p) = true from List.any_eq_true.2 ⟨x, HM.out, by rw [hq]; rfl⟩]
        simp
      · rw [hq] at hp
        go_wp2_with (go_at_fn 68; refine (hp _).mono ?_; rintro e w' ⟨rfl, h'⟩; replace H := H.trans0 h'; clear h')
        go_roundw
        case measure => simp [intOf]; omega
        case rel =>
          refine ⟨kk + 1, hlt, by go_num, H, (show Aside _ from fun p hp => ?_)⟩
          rw [HS.out] at hp
          rcases List.mem_append.1 hp with h | h
          · exact A.out p h
          · rw [List.mem_singleton.1 h]; exact hq
    · obtain rfl : kk = ps.length := by omega
      go_wp2
      go_ret
      refine ⟨⟨_, rfl, ?_⟩, H⟩
      rw [show ps.any (fun p => !okP p) = false from by
        rw [List.any_eq_false]; intro p hp; have := A.out p (by rw [List.take_length]; exact hp); simp [this]]
      simp
theorem containsF_any (ps : List (List UInt8)) (b : Nat) (T : TypeId) (fr : Nat × Nat) (c : Nat) (w : World) (hb : w.heap[b]? = some (.cells (strRow ps) T fr)) (hn : ps.length ≤ maxLen) :
    Calls Tryz.prog 67 #[.slice (some ⟨b, 0, none⟩) ps.length c, .func (.func 68) #[] #[]] w fun e w' => e = .returned (.bool (ps.any fun p => !okP p)) ∧ Ext0 w w' := by
  have hi := index_any ps b T fr c w hb hn
  generalize (ps.any fun p => !okP p) = q at hi ⊢
  generalize ps.length = n at hi ⊢
  go_enter Tryz.func67, Tryz.ntmps67
  go_wp2_with (go_at_call 78; refine hi.mono ?_; rintro e w' ⟨⟨i, rfl, hq⟩, H⟩)
  go_ret
  exact ⟨by rw [← hq]; rfl, H⟩

/-- internal/bytealg.MaxLen holds a number. -/
def ML (w : World) : Prop := ∃ m : Int, w.cell? ⟨0, 0, none⟩ = some (.int .i64 m)
theorem ML.ext {w w' : World} (h : ML w) (e : Ext0 w w') : ML w' := h.elim fun m hm => ⟨m, e.cell hm (fun e => e)⟩
theorem splitB_cut (s : ByteArray) : Lib.splitB ⟨#[47]⟩ 0 (Lib.countB s ⟨#[47]⟩) s = (cut (lst s)).map bs := by
  have h := Lib.splitB_data ⟨#[47]⟩ 0 (Lib.countB s ⟨#[47]⟩) s
  have h2 : Lib.splitK [47] 0 (Lib.countB s ⟨#[47]⟩) (lst s) = cut (lst s) := (split_cut (lst s)).symm ▸ rfl
  have h3 := congrArg (List.map bs) (h.trans h2)
  rw [List.map_map] at h3
  rw [← h3]
  conv => lhs; rw [← List.map_id (Lib.splitB _ _ _ s)]
  exact List.map_congr_left fun x _ => (bs_lst x).symm
theorem cut_count (s : ByteArray) : Lib.countB s ⟨#[47]⟩ + 1 = (cut (lst s)).length := by
  have := Lib.splitB_all ⟨#[47]⟩ (by decide) 0 _ s rfl
  rw [splitB_cut, List.length_map] at this
  exact this.symm
theorem split_any (s : ByteArray) (w : World) (hs : s.size < 4294967281) (hm : ML w) : Calls Tryz.prog 66 #[.string s, .string ⟨#[47]⟩] w fun e w' =>
    e = .returned (.slice (some ⟨w.heap.size, 0, none⟩) (cut (lst s)).length (cut (lst s)).length) ∧ w' = w.alloc (.cells (strRow (cut (lst s))) 9) := by
  obtain ⟨m, hm⟩ := hm
  have h := Any.strings_Split { splitL with } splitL.i9 s ⟨#[47]⟩ m w hs hm (by decide)
  rw [splitB_cut, List.map_map] at h
  have h2 := cut_count s
  refine h.mono fun e w' ⟨he, hw⟩ => ⟨?_, hw⟩
  rw [he, ← h2]
theorem cut_le : ∀ s, (cut s).length ≤ s.length + 1
  | [] => by simp [cut]
  | c :: l => by
    have ih := cut_le l
    unfold cut
    split
    · simp; omega
    · cases h : cut l with
      | nil => simp
      | cons p ps => rw [h] at ih; simp at ih ⊢; omega

theorem clip_any (g n : Nat) (w : World) (hn : n ≤ 4294967300) : Calls Tryz.prog 71 #[.slice (some ⟨g, 0, none⟩) n n] w fun e w' => e = .returned (.slice (some ⟨g, 0, none⟩) n n) ∧ w' = w := by
  go_enter Tryz.func71, Tryz.ntmps71
  go_wp2
  go_ret
  exact ⟨by simp, rfl⟩
/-- What a slice of strings reads as; none: nil. -/
def Strs (w : World) (v : Value) (ps : List (List UInt8)) : Prop :=
  (ps = [] ∧ v = .slice none 0 0) ∨ (ps ≠ [] ∧ ∃ b T fr, v = .slice (some ⟨b, 0, none⟩) ps.length ps.length ∧ w.heap[b]? = some (.cells (strRow ps) T fr))
set_option maxHeartbeats 1000000 in
theorem parts_any (s : ByteArray) (w : World) (hs : s.size < 4294967281) (hm : ML w) : Calls Tryz.prog 61 #[.string s] w fun e w' => (∃ v, e = .returned v ∧ Strs w' v (partsL (lst s))) ∧ Ext0 w w' := by
  have H := Ext.refl (fun _ => False) w
  have hsp := split_any s w hs hm
  have hne := cut_ne (lst s)
  have hle := cut_le (lst s)
  have hz : (lst s).length = s.size := Array.length_toList
  have hf := containsF_any (cut (lst s)) w.heap.size 9 (0, 0) (cut (lst s)).length (w.alloc (.cells (strRow (cut (lst s))) 9)) (heap_alloc_new _ _) (by simp [maxLen]; omega)
  have HP := Lib.hid (show partsL (lst s) = if 32 < s.size || (cut (lst s)).any (fun p => !okP p) then [] else cut (lst s) by rw [← hz]; rfl)
  generalize ((cut (lst s)).any fun p => !okP p) = q at hf HP
  generalize cut (lst s) = ps at hsp hf HP hne hle
  generalize hW : w.alloc (.cells (strRow ps) 9) = w1 at hsp hf
  have H1 : Ext0 w w1 := hW ▸ Ext.alloc _ _ _
  have hg : w1.heap[w.heap.size]? = some (.cells (strRow ps) 9 (0, 0)) := hW ▸ heap_alloc_new _ _
  generalize w.heap.size = g at hsp hf hg
  clear hW
  have hn1 : ps.length ≤ 4294967300 := by omega
  have hsz : (s.size : Int) ≤ 4294967281 := by omega
  by_cases h32 : 32 < s.size
  · have h32' : (32 : Int) < (s.size : Int) := by omega
    go_enter Tryz.func61, Tryz.ntmps61
    go_wp2_with (first
      | (go_at_call 66; refine hsp.mono ?_; clear H; rintro e w' ⟨rfl, rfl⟩))
    go_ret
    exact ⟨⟨_, rfl, .inl ⟨by rw [HP.out]; simp [h32], rfl⟩⟩, H1⟩
  · have h32' : ¬ (32 : Int) < (s.size : Int) := by omega
    cases q
    · go_enter Tryz.func61, Tryz.ntmps61
      go_wp2_with (first
        | (go_at_call 66; refine hsp.mono ?_; clear H; rintro e w' ⟨rfl, rfl⟩)
        | (go_at_call 67; refine hf.mono ?_; rintro e w' ⟨rfl, h2⟩; replace H1 := H1.trans0 h2; replace hg := h2.block0 hg; clear h2))
      refine (clip_any g _ _ hn1).mono ?_
      rintro e w' ⟨rfl, rfl⟩
      go_wp2
      go_ret
      exact ⟨⟨_, rfl, .inr ⟨by rw [HP.out]; simpa [h32] using hne, g, _, _, by rw [HP.out]; simp [h32], by rw [HP.out]; simpa [h32] using hg⟩⟩, H1⟩
    · go_enter Tryz.func61, Tryz.ntmps61
      go_wp2_with (first
        | (go_at_call 66; refine hsp.mono ?_; clear H; rintro e w' ⟨rfl, rfl⟩)
        | (go_at_call 67; refine hf.mono ?_; rintro e w' ⟨rfl, h2⟩; replace H1 := H1.trans0 h2; replace hg := h2.block0 hg; clear h2))
      go_ret
      exact ⟨⟨_, rfl, .inl ⟨by rw [HP.out]; simp, rfl⟩⟩, H1⟩
end Go.Proofs.YtmfcccflohpjiaaGreatDoor.Pth
