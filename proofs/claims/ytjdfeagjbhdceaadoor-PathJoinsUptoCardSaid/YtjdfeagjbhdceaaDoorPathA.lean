/- Names of files: the walks of package path. -/
import Derived.Test.YtjdfeagjbhdceaaDoorPathLaw
import Derived.Test.YtjdfeagjbhdceaaDoorSlice
import Derived.Test.YtjdfeagjbhdceaaDoorMake
import Derived.Test.YtjdfeagjbhdceaaDoorProg
import Derived.Shelf.GgClosure.StringsIndexFuncTop
import Derived.Shelf.Strings.SplitShaped
import Derived.Shelf.Strings.Runes
import Derived.Shelf.SlLaysH
import Derived.Shelf.SlicesE.IndexFunc
namespace Go.Proofs.YtjdfeagjbhdceaaDoor
set_option linter.unusedVariables false
set_option linter.unusedSimpArgs false
open Go.RowKit Go.Shelf

def splitL_ren : Go.Shelf.Ren := ⟨fun | 146 => 13 | 221 => 20 | 268 => 25 | 138 => 26 | 143 => 27 | 195 => 30 | 197 => 31 | 218 => 32 | 219 => 33 | 260 => 38 | 217 => 39 | 225 => 37 | 224 => 36 | 267 => 40 | 266 => 41 | 314 => 42 | n => n, fun | 9 => 9 | 31 => 25 | 3 => 3 | 4 => 4 | 0 => 0 | 105 => 43 | 21 => 21 | 5 => 5 | 46 => 47 | 119 => 48 | 139 => 51 | 138 => 50 | 146 => 53 | 51 => 52 | n => n, fun | 1 => 0 | 3 => 1 | 4 => 2 | n => n⟩
theorem splitL : Go.Proofs.LaysM.n146 Tryd.prog splitL_ren where
  mixed := by kernel_rfl
  f138 := Tryd.func26.trans (congrArg some (by kernel_rfl))
  f143 := Tryd.func27.trans (congrArg some (by kernel_rfl))
  f146 := Tryd.func13.trans (congrArg some (by kernel_rfl))
  f195 := Tryd.func30.trans (congrArg some (by kernel_rfl))
  f197 := Tryd.func31.trans (congrArg some (by kernel_rfl))
  f217 := Tryd.func39.trans (congrArg some (by kernel_rfl))
  f218 := Tryd.func32.trans (congrArg some (by kernel_rfl))
  f219 := Tryd.func33.trans (congrArg some (by kernel_rfl))
  f221 := Tryd.func20.trans (congrArg some (by kernel_rfl))
  f224 := Tryd.func36.trans (congrArg some (by kernel_rfl))
  f225 := Tryd.func37.trans (congrArg some (by kernel_rfl))
  f260 := Tryd.func38.trans (congrArg some (by kernel_rfl))
  f266 := Tryd.func41.trans (congrArg some (by kernel_rfl))
  f267 := Tryd.func40.trans (congrArg some (by kernel_rfl))
  f268 := Tryd.func25.trans (congrArg some (by kernel_rfl))
  f314 := Tryd.func42.trans (congrArg some (by kernel_rfl))
  t0 := Tryd.underlying0
  a0 := Tryd.isAgg0
  z0 := Tryd.sizeOf0
  v0 := Tryd.zeroValue0
  t3 := Tryd.underlying3
  a3 := Tryd.isAgg3
  z3 := Tryd.sizeOf3
  v3 := Tryd.zeroValue3
  t4 := Tryd.underlying4
  a4 := Tryd.isAgg4
  z4 := Tryd.sizeOf4
  v4 := Tryd.zeroValue4
  t5 := Tryd.underlying5
  a5 := Tryd.isAgg5
  z5 := Tryd.sizeOf5
  v5 := Tryd.zeroValue5
  t9 := Tryd.underlying9
  a9 := Tryd.isAgg9
  z9 := Tryd.sizeOf9
  v9 := Tryd.zeroValue9
  t21 := Tryd.underlying21
  a21 := Tryd.isAgg21
  z21 := Tryd.sizeOf21
  v21 := Tryd.zeroValue21
  t31 := Tryd.underlying25
  a31 := Tryd.isAgg25
  z31 := Tryd.sizeOf25
  v31 := Tryd.zeroValue25
  t46 := Tryd.underlying47
  a46 := Tryd.isAgg47
  z46 := Tryd.sizeOf47
  v46 := Tryd.zeroValue47
  t51 := Tryd.underlying52
  a51 := Tryd.isAgg52
  z51 := Tryd.sizeOf52
  v51 := Tryd.zeroValue52
  t105 := Tryd.underlying43
  a105 := Tryd.isAgg43
  z105 := Tryd.sizeOf43
  v105 := Tryd.zeroValue43
  t119 := Tryd.underlying48
  a119 := Tryd.isAgg48
  z119 := Tryd.sizeOf48
  t138 := Tryd.underlying50
  a138 := Tryd.isAgg50
  z138 := Tryd.sizeOf50
  v138 := Tryd.zeroValue50
  t139 := Tryd.underlying51
  a139 := Tryd.isAgg51
  z139 := Tryd.sizeOf51
  v139 := Tryd.zeroValue51
  t146 := Tryd.underlying53
  a146 := Tryd.isAgg53
  z146 := Tryd.sizeOf53
  v146 := Tryd.zeroValue53
  g1 := by kernel_rfl
  g3 := by kernel_rfl
  g4 := by kernel_rfl
  i0 := by kernel_rfl
  i3 := by kernel_rfl
  i4 := by kernel_rfl
  i5 := by kernel_rfl
  i9 := by kernel_rfl
  i21 := by kernel_rfl
  i31 := by kernel_rfl
  i46 := by kernel_rfl
  i51 := by kernel_rfl
  i105 := by kernel_rfl
  i138 := by kernel_rfl
  i139 := by kernel_rfl
  i146 := by kernel_rfl
  m1 := by kernel_rfl
  s1_3 := fun w h => Go.Proofs.cell_of_shapedOpen_int (zero := #[.int .i64 0]) (t := 3) h (of_decide_eq_true (by kernel_rfl)) (by kernel_rfl) rfl (by kernel_rfl) (by kernel_rfl) Tryd.underlying3
  m3 := by kernel_rfl
  m4 := by kernel_rfl
def runeL_ren : Go.Shelf.Ren := ⟨fun | 151 => 23 | 152 => 29 | 137 => 34 | 119 => 35 | 224 => 36 | 225 => 37 | 217 => 39 | 266 => 41 | n => n, fun | 9 => 9 | 21 => 21 | 4 => 4 | 3 => 3 | 5 => 5 | 0 => 0 | 46 => 47 | n => n, fun | n => n⟩
theorem runeL : Go.Proofs.Lays.n151 Tryd.prog runeL_ren where
  mixed := by kernel_rfl
  f119 := Tryd.func35.trans (congrArg some (by kernel_rfl))
  f137 := Tryd.func34.trans (congrArg some (by kernel_rfl))
  f151 := Tryd.func23.trans (congrArg some (by kernel_rfl))
  f152 := Tryd.func29.trans (congrArg some (by kernel_rfl))
  f217 := Tryd.func39.trans (congrArg some (by kernel_rfl))
  f224 := Tryd.func36.trans (congrArg some (by kernel_rfl))
  f225 := Tryd.func37.trans (congrArg some (by kernel_rfl))
  f266 := Tryd.func41.trans (congrArg some (by kernel_rfl))
  t0 := Tryd.underlying0
  a0 := Tryd.isAgg0
  z0 := Tryd.sizeOf0
  v0 := Tryd.zeroValue0
  t3 := Tryd.underlying3
  a3 := Tryd.isAgg3
  z3 := Tryd.sizeOf3
  v3 := Tryd.zeroValue3
  t4 := Tryd.underlying4
  a4 := Tryd.isAgg4
  z4 := Tryd.sizeOf4
  v4 := Tryd.zeroValue4
  t5 := Tryd.underlying5
  a5 := Tryd.isAgg5
  z5 := Tryd.sizeOf5
  v5 := Tryd.zeroValue5
  t9 := Tryd.underlying9
  a9 := Tryd.isAgg9
  z9 := Tryd.sizeOf9
  v9 := Tryd.zeroValue9
  t21 := Tryd.underlying21
  a21 := Tryd.isAgg21
  z21 := Tryd.sizeOf21
  v21 := Tryd.zeroValue21
  t46 := Tryd.underlying47
  a46 := Tryd.isAgg47
  z46 := Tryd.sizeOf47
  v46 := Tryd.zeroValue47
def funcL_ren : Go.Shelf.Ren := ⟨fun | 17 => 16 | 15 => 22 | 20 => 28 | n => n, fun | 9 => 9 | 23 => 32 | 4 => 4 | 3 => 3 | 0 => 0 | 21 => 21 | n => n, fun | n => n⟩
theorem funcL : Go.Proofs.LaysGw.n17 Tryd.prog funcL_ren where
  mixed := by kernel_rfl
  f15 := Tryd.func22.trans (congrArg some (by kernel_rfl))
  f17 := Tryd.func16.trans (congrArg some (by kernel_rfl))
  f20 := Tryd.func28.trans (congrArg some (by kernel_rfl))
  t0 := Tryd.underlying0
  a0 := Tryd.isAgg0
  z0 := Tryd.sizeOf0
  v0 := Tryd.zeroValue0
  i0 := by kernel_rfl
  t3 := Tryd.underlying3
  a3 := Tryd.isAgg3
  z3 := Tryd.sizeOf3
  v3 := Tryd.zeroValue3
  i3 := by kernel_rfl
  t4 := Tryd.underlying4
  a4 := Tryd.isAgg4
  z4 := Tryd.sizeOf4
  v4 := Tryd.zeroValue4
  i4 := by kernel_rfl
  t9 := Tryd.underlying9
  a9 := Tryd.isAgg9
  z9 := Tryd.sizeOf9
  v9 := Tryd.zeroValue9
  i9 := by kernel_rfl
  t21 := Tryd.underlying21
  a21 := Tryd.isAgg21
  z21 := Tryd.sizeOf21
  v21 := Tryd.zeroValue21
  i21 := by kernel_rfl
  t23 := Tryd.underlying32
  a23 := Tryd.isAgg32
  z23 := Tryd.sizeOf32
  v23 := Tryd.zeroValue32
  i23 := by kernel_rfl

def bs (l : List UInt8) : ByteArray := ⟨l.toArray⟩
abbrev lst (s : ByteArray) : List UInt8 := s.data.toList
theorem lst_bs (l : List UInt8) : lst (bs l) = l := by simp [lst, bs]
theorem bs_lst (s : ByteArray) : bs (lst s) = s := by simp [lst, bs]
def encB (l : List UInt8) : List Value := [.string (bs l)]

theorem runes_four : ∀ r : Nat, r < 128 → 32 < r → (decide (0 ≤ Lib.indexByte [92, 58, 42, 63] r.toUInt8) = (r == 92 || r == 58 || r == 42 || r == 63)) := by decide
set_option maxHeartbeats 1000000 in
theorem bad_any (r : Nat) (w : World) : Calls Tryd.prog 17 #[.int .i32 (r : Int)] w fun e w' => e = .returned (.bool (badR r)) ∧ w' = w := by
  by_cases h1 : r ≤ 32
  · have h1' : (r : Int) ≤ 32 := by omega
    go_enter Tryd.func17, Tryd.ntmps17
    go_wp2
    go_ret
    exact ⟨by simp [badR, h1], rfl⟩
  · have h1' : ¬ (r : Int) ≤ 32 := by omega
    by_cases h2 : 126 < r
    · have h2' : 126 < (r : Int) := by omega
      go_enter Tryd.func17, Tryd.ntmps17
      go_wp2
      go_ret
      exact ⟨by simp [badR, h2], rfl⟩
    · have h2' : ¬ 126 < (r : Int) := by omega
      have hc := Any.strings_ContainsRune_ascii runeL ⟨#[92, 58, 42, 63]⟩ (r : Int) w (by omega) (by omega)
      change Calls Tryd.prog 23 _ _ _ at hc
      have h4 := runes_four r (by omega) (by omega)
      rw [show ((r : Int).toNat) = r from Int.toNat_natCast r] at hc
      rw [show decide (0 ≤ Lib.indexByte (ByteArray.data ⟨#[92, 58, 42, 63]⟩).toList r.toUInt8) = badR r by rw [h4]; simp [badR, h1, h2]] at hc
      clear h4
      generalize badR r = q at hc ⊢
      go_enter Tryd.func17, Tryd.ntmps17
      go_wp2_with (go_at_call 23; refine hc.mono ?_; rintro e w' ⟨rfl, rfl⟩)
      go_ret
      exact ⟨rfl, rfl⟩
theorem bad_pred (w : World) : PredAt Tryd.prog 17 #[] encR badR w := fun W r _ => (bad_any r W).mono fun _ _ h => ⟨h.1, 0, h.2⟩
theorem contains_bad (s : ByteArray) (w : World) : Calls Tryd.prog 16 #[.string s, .func (.func 17) #[] #[]] w fun e w' => e = .returned (.bool ((lst s).any badB)) ∧ Ext0 w w' := by
  have h := Any.strings_ContainsFunc funcL 17 #[] (enters_of Tryd.func17 (by kernel_rfl) rfl) badR s w (bad_pred w)
  rw [show decide (0 ≤ Lib.idxFunc badR true s) = (lst s).any badB from (idx_bad s s.size 0 (by omega)).trans (by rw [List.drop_zero])] at h
  exact h.mono fun _ _ h => ⟨h.1, Ext0.of_below h.2⟩

set_option maxHeartbeats 1000000 in
theorem part_any (s : ByteArray) (w : World) : Calls Tryd.prog 15 #[.string s] w fun e w' => e = .returned (.bool (!okP (lst s))) ∧ Ext0 w w' := by
  have H := Ext.refl (fun _ => False) w
  have hc := contains_bad s
  have hk : okP (lst s) = !(s.toList.isEmpty || s.toList == [46] || s.toList == [46, 46] || (lst s).any badB) := by rw [Go.ByteArray.toList_eq]; rfl
  generalize (lst s).any badB = q at hc hk
  have HK := Lib.hid hk
  clear hk
  go_enter Tryd.func15, Tryd.ntmps15
  go_wp2_with (go_at_call 16; refine (hc _).mono ?_; clear H; rintro e w' ⟨rfl, H⟩)
  all_goals go_ret
  all_goals refine ⟨?_, H⟩
  all_goals rw [HK.out]
  all_goals simp_all
theorem part_enters : ∀ args w, (callFunc 15 args).run Tryd.prog w = .ok (.enter 15 args) w := enters_of Tryd.func15 (by kernel_rfl) rfl

def strRow (ps : List (List UInt8)) : Array Value := (ps.map fun p => Value.string (bs p)).toArray
set_option maxHeartbeats 2000000 in
/-- slices.IndexFunc over the parts. -/
theorem index_any (ps : List (List UInt8)) (b : Nat) (T : TypeId) (fr : Nat × Nat) (c : Nat) (w : World) (hb : w.heap[b]? = some (.cells (strRow ps) T fr)) (hn : ps.length ≤ maxLen) :
    Calls Tryd.prog 21 #[.slice (some ⟨b, 0, none⟩) ps.length c, .func (.func 15) #[] #[]] w fun e w' => (∃ i : Int, e = .returned (.int .i64 i) ∧ decide (0 ≤ i) = ps.any (fun p => !okP p)) ∧ Ext0 w w' := by
  have H := Ext.refl (fun _ => False) w
  have eg := part_enters
  have hn2 : ps.length ≤ 9223372036854775807 := by simp [maxLen] at hn; omega
  go_enter Tryd.func21, Tryd.ntmps21
  go_wp2
  go_loopw [5, 8] (fun _ s8 wr => ∃ kk : Nat, kk ≤ ps.length ∧ s8 = .int .i64 (kk : Int) ∧ Ext0 w wr ∧ Aside (∀ p ∈ ps.take kk, okP p = true)) (fun _ s8 _ => ps.length - (intOf s8).toNat)
  case atStart => exact ⟨0, Nat.zero_le _, rfl, H, fun p hp => by simp at hp⟩
  case round =>
    clear H
    obtain ⟨kk, hkk, rfl, H, A⟩ := hrel
    by_cases hlt : kk < ps.length
    · have hltz : (kk : Int) < (ps.length : Int) := by omega
      have hgr := H.block0 hb
      have hcell : wr.cell? ⟨b, kk, none⟩ = some (.string (bs ps[kk])) := by
        rw [cell_of_row wr b _ _ T fr hgr]; simp [strRow, hlt]
      have hsn : ps.take (kk + 1) = ps.take kk ++ [ps[kk]] := by rw [List.take_add_one, List.getElem?_eq_getElem hlt]; rfl
      have hmem : ps[kk] ∈ ps := List.getElem_mem hlt
      generalize hx : ps[kk] = x at hcell hsn hmem
      have HS := Lib.hid hsn
      have HM := Lib.hid hmem
      clear hx hsn hmem
      have hp := fun W => part_any (bs x) W
      rw [lst_bs] at hp
      cases hq : okP x
      · rw [hq] at hp
        go_wp2_with (go_at_fn 15; refine (hp _).mono ?_; rintro e w' ⟨rfl, h'⟩; replace H := H.trans0 h'; clear h')
        go_ret
        refine ⟨⟨_, rfl, ?_⟩, H⟩
        rw [show ps.any (fun p => !okP p) = true from List.any_eq_true.2 ⟨x, HM.out, by rw [hq]; rfl⟩]
        simp
      · rw [hq] at hp
        go_wp2_with (go_at_fn 15; refine (hp _).mono ?_; rintro e w' ⟨rfl, h'⟩; replace H := H.trans0 h'; clear h')
        go_roundw
        case measure => simp [intOf]; omega
        case rel =>
          refine ⟨kk + 1, hlt, by go_num, H, (show Aside _ from fun p hp => ?_)⟩
          rw [HS.out] at hp
          rcases List.mem_append.1 hp with h | h
          · exact A.out p h
          · rw [List.mem_singleton.1 h]; exact hq
    · obtain rfl : kk = ps.length := by omega
      go_wp2
      go_ret
      refine ⟨⟨_, rfl, ?_⟩, H⟩
      rw [show ps.any (fun p => !okP p) = false from by
        rw [List.any_eq_false]; intro p hp; have := A.out p (by rw [List.take_length]; exact hp); simp [this]]
      simp
theorem containsF_any (ps : List (List UInt8)) (b : Nat) (T : TypeId) (fr : Nat × Nat) (c : Nat) (w : World) (hb : w.heap[b]? = some (.cells (strRow ps) T fr)) (hn : ps.length ≤ maxLen) :
    Calls Tryd.prog 14 #[.slice (some ⟨b, 0, none⟩) ps.length c, .func (.func 15) #[] #[]] w fun e w' => e = .returned (.bool (ps.any fun p => !okP p)) ∧ Ext0 w w' := by
  have hi := index_any ps b T fr c w hb hn
  generalize (ps.any fun p => !okP p) = q at hi ⊢
  generalize ps.length = n at hi ⊢
  go_enter Tryd.func14, Tryd.ntmps14
  go_wp2_with (go_at_call 21; refine hi.mono ?_; rintro e w' ⟨⟨i, rfl, hq⟩, H⟩)
  go_ret
  exact ⟨by rw [← hq]; rfl, H⟩

/-- internal/bytealg.MaxLen holds a number. -/
def ML (w : World) : Prop := ∃ m : Int, w.cell? ⟨0, 0, none⟩ = some (.int .i64 m)
theorem ML.ext {w w' : World} (h : ML w) (e : Ext0 w w') : ML w' := h.elim fun m hm => ⟨m, e.cell hm (fun e => e)⟩
theorem splitB_cut (s : ByteArray) : Lib.splitB ⟨#[47]⟩ 0 (Lib.countB s ⟨#[47]⟩) s = (cut (lst s)).map bs := by
  have h := Lib.splitB_data ⟨#[47]⟩ 0 (Lib.countB s ⟨#[47]⟩) s
  have h2 : Lib.splitK [47] 0 (Lib.countB s ⟨#[47]⟩) (lst s) = cut (lst s) := (split_cut (lst s)).symm ▸ rfl
  have h3 := congrArg (List.map bs) (h.trans h2)
  rw [List.map_map] at h3
  rw [← h3]
  conv => lhs; rw [← List.map_id (Lib.splitB _ _ _ s)]
  exact List.map_congr_left fun x _ => (bs_lst x).symm
theorem cut_count (s : ByteArray) : Lib.countB s ⟨#[47]⟩ + 1 = (cut (lst s)).length := by
  have := Lib.splitB_all ⟨#[47]⟩ (by decide) 0 _ s rfl
  rw [splitB_cut, List.length_map] at this
  exact this.symm
theorem split_any (s : ByteArray) (w : World) (hs : s.size < 4294967281) (hm : ML w) : Calls Tryd.prog 13 #[.string s, .string ⟨#[47]⟩] w fun e w' =>
    e = .returned (.slice (some ⟨w.heap.size, 0, none⟩) (cut (lst s)).length (cut (lst s)).length) ∧ w' = w.alloc (.cells (strRow (cut (lst s))) 9) := by
  obtain ⟨m, hm⟩ := hm
  have h := Any.strings_Split { splitL with } splitL.i9 s ⟨#[47]⟩ m w hs hm (by decide)
  rw [splitB_cut, List.map_map] at h
  have h2 := cut_count s
  refine h.mono fun e w' ⟨he, hw⟩ => ⟨?_, hw⟩
  rw [he, ← h2]
theorem cut_le : ∀ s, (cut s).length ≤ s.length + 1
  | [] => by simp [cut]
  | c :: l => by
    have ih := cut_le l
    unfold cut
    split
    · simp; omega
    · cases h : cut l with
      | nil => simp
      | cons p ps => rw [h] at ih; simp at ih ⊢; omega

theorem clip_any (g n : Nat) (w : World) (hn : n ≤ 4294967300) : Calls Tryd.prog 18 #[.slice (some ⟨g, 0, none⟩) n n] w fun e w' => e = .returned (.slice (some ⟨g, 0, none⟩) n n) ∧ w' = w := by
  go_enter Tryd.func18, Tryd.ntmps18
  go_wp2
  go_ret
  exact ⟨by simp, rfl⟩
/-- What a slice of strings reads as; none: nil. -/
def Strs (w : World) (v : Value) (ps : List (List UInt8)) : Prop :=
  (ps = [] ∧ v = .slice none 0 0) ∨ (ps ≠ [] ∧ ∃ b T fr, v = .slice (some ⟨b, 0, none⟩) ps.length ps.length ∧ w.heap[b]? = some (.cells (strRow ps) T fr))
set_option maxHeartbeats 1000000 in
theorem parts_any (s : ByteArray) (w : World) (hs : s.size < 4294967281) (hm : ML w) : Calls Tryd.prog 9 #[.string s] w fun e w' => (∃ v, e = .returned v ∧ Strs w' v (partsL (lst s))) ∧ Ext0 w w' := by
  have H := Ext.refl (fun _ => False) w
  have hsp := split_any s w hs hm
  have hne := cut_ne (lst s)
  have hle := cut_le (lst s)
  have hz : (lst s).length = s.size := Array.length_toList
  have hf := containsF_any (cut (lst s)) w.heap.size 9 (0, 0) (cut (lst s)).length (w.alloc (.cells (strRow (cut (lst s))) 9)) (heap_alloc_new _ _) (by simp [maxLen]; omega)
  have HP := Lib.hid (show partsL (lst s) = if 32 < s.size || (cut (lst s)).any (fun p => !okP p) then [] else cut (lst s) by rw [← hz]; rfl)
  generalize ((cut (lst s)).any fun p => !okP p) = q at hf HP
  generalize cut (lst s) = ps at hsp hf HP hne hle
  generalize hW : w.alloc (.cells (strRow ps) 9) = w1 at hsp hf
  have H1 : Ext0 w w1 := hW ▸ Ext.alloc _ _ _
  have hg : w1.heap[w.heap.size]? = some (.cells (strRow ps) 9 (0, 0)) := hW ▸ heap_alloc_new _ _
  generalize w.heap.size = g at hsp hf hg
  clear hW
  have hn1 : ps.length ≤ 4294967300 := by omega
  have hsz : (s.size : Int) ≤ 4294967281 := by omega
  by_cases h32 : 32 < s.size
  · have h32' : (32 : Int) < (s.size : Int) := by omega
    go_enter Tryd.func9, Tryd.ntmps9
    go_wp2_with (first
      | (go_at_call 13; refine hsp.mono ?_; clear H; rintro e w' ⟨rfl, rfl⟩))
    go_ret
    exact ⟨⟨_, rfl, .inl ⟨by rw [HP.out]; simp [h32], rfl⟩⟩, H1⟩
  · have h32' : ¬ (32 : Int) < (s.size : Int) := by omega
    cases q
    · go_enter Tryd.func9, Tryd.ntmps9
      go_wp2_with (first
        | (go_at_call 13; refine hsp.mono ?_; clear H; rintro e w' ⟨rfl, rfl⟩)
        | (go_at_call 14; refine hf.mono ?_; rintro e w' ⟨rfl, h2⟩; replace H1 := H1.trans0 h2; replace hg := h2.block0 hg; clear h2))
      refine (clip_any g _ _ hn1).mono ?_
      rintro e w' ⟨rfl, rfl⟩
      go_wp2
      go_ret
      exact ⟨⟨_, rfl, .inr ⟨by rw [HP.out]; simpa [h32] using hne, g, _, _, by rw [HP.out]; simp [h32], by rw [HP.out]; simpa [h32] using hg⟩⟩, H1⟩
    · go_enter Tryd.func9, Tryd.ntmps9
      go_wp2_with (first
        | (go_at_call 13; refine hsp.mono ?_; clear H; rintro e w' ⟨rfl, rfl⟩)
        | (go_at_call 14; refine hf.mono ?_; rintro e w' ⟨rfl, h2⟩; replace H1 := H1.trans0 h2; replace hg := h2.block0 hg; clear h2))
      go_ret
      exact ⟨⟨_, rfl, .inl ⟨by rw [HP.out]; simp, rfl⟩⟩, H1⟩
end Go.Proofs.YtjdfeagjbhdceaaDoor
