/- Journals: the plain law of WalRoom. No program in sight. -/
import Derived.Test.YtgmeahogdjhejaaGreatDoorWalJ
namespace Go.Proofs.YtgmeahogdjhejaaGreatDoor
set_option linter.unusedVariables false
set_option linter.unusedSimpArgs false
open Go.RowKit

theorem epoch_sect {e : Int} (he : U32 e) (q : Int) (m : List Int) (k : Nat) : epochP (sectP (markP e q) m k) = e := by
  unfold epochP
  have : ((sectP (markP e q) m k).drop 24).take 4 = be4 e := by
    unfold sectP
    rw [List.drop_left' (by simp)]
    rfl
  rw [this, numB_be4 he]
theorem epoch_zero : epochP (List.replicate 32 0) = 0 := rfl
theorem lay_sector (e q : Int) (b : List Int) {k : Nat} (hk : k < countP b.length) : ((layP e q b).drop (32 * k)).take 32 = sectP (markP e q) (matterP e q b) k := by
  apply List.ext_getElem?
  intro j
  rw [List.getElem?_take]
  by_cases hj : j < 32
  · rw [if_pos hj, List.getElem?_drop]
    have := lay_byte e q b [] hk hj
    rw [List.append_nil] at this
    exact this
  · rw [if_neg hj, List.getElem?_eq_none (by rw [sectP_len (markP_len e q)]; omega)]
/-- No mark above m. -/
def Marks (m : Int) (N : Nat) (V : Nat → List Int) : Prop := ∀ i, i < N → 0 ≤ epochP (V i) ∧ epochP (V i) ≤ m
theorem Marks.lay {m : Int} {N : Nat} {V : Nat → List Int} (h : Marks m N V) {e : Int} (he : U32 e) (hm : e ≤ m) (q : Int) (b : List Int) (a : Nat) : Marks m N (updN V a (countP b.length) (layP e q b)) := fun i hi => by
  unfold updN
  split
  · rename_i h1
    rw [lay_sector e q b (by omega), epoch_sect he]
    exact ⟨he.1, hm⟩
  · exact h i hi
theorem Marks.mono {m m' : Int} {N : Nat} {V : Nat → List Int} (h : Marks m N V) (hm : m ≤ m') : Marks m' N V := fun i hi => ⟨(h i hi).1, by have := (h i hi).2; omega⟩
theorem top_le {d : DS} {N : Nat} {V : Nat → List Int} {W : Int} (h : Dsk d N V W) {m : Int} (hm : Marks m N V) (h0 : 0 ≤ m) : ∀ n, n ≤ N → 0 ≤ topP d n ∧ topP d n ≤ m
  | 0, _ => ⟨Int.le_refl _, h0⟩
  | n + 1, hn => by
    have ih := top_le h hm h0 n (by omega)
    have h1 := hm n (by omega)
    unfold topP at ih ⊢
    rw [List.range_succ, List.foldl_append, List.foldl_cons, List.foldl_nil, h.sec n (by omega)]
    omega
theorem be4_byK (n : Int) : ∀ x ∈ be4 n, 0 ≤ x ∧ x ≤ 255 := by
  intro x hx
  simp only [be4, List.mem_cons, List.not_mem_nil, or_false] at hx
  rcases hx with rfl | rfl | rfl | rfl <;> omega
theorem matter_bytes {e q : Int} {b : List Int} (hb : ∀ x ∈ b, 0 ≤ x ∧ x ≤ 255) : ∀ x ∈ matterP e q b, 0 ≤ x ∧ x ≤ 255 := by
  intro x hx
  unfold matterP matter0 at hx
  rcases List.mem_append.1 hx with hx | hx
  · rcases List.mem_append.1 hx with hx | hx
    · simp only [be2, List.mem_cons, List.not_mem_nil, or_false] at hx
      rcases hx with rfl | rfl <;> omega
    · exact hb x hx
  · exact be4_byK _ x hx
theorem lay_bytes {e q : Int} {b : List Int} (hb : ∀ x ∈ b, 0 ≤ x ∧ x ≤ 255) : ∀ x ∈ layP e q b, 0 ≤ x ∧ x ≤ 255 := by
  intro x hx
  unfold layP at hx
  obtain ⟨i, _, hi⟩ := List.mem_flatMap.1 hx
  unfold sectP at hi
  rcases List.mem_append.1 hi with hi | hi
  · obtain ⟨k, _, rfl⟩ := List.mem_map.1 hi
    rw [List.getD_eq_getElem?_getD]
    cases h : (matterP e q b)[24 * i + k]? with
    | none => simp
    | some y => exact matter_bytes hb y (List.mem_of_getElem? h)
  · unfold markP at hi
    rcases List.mem_append.1 hi with hi | hi
    · exact be4_byK _ x hi
    · exact be4_byK _ x hi
/-- The journal of WalRoom, a checkpoint having been written. -/
structure Rm (n : Nat) (d : DS) (j : JS) (W : Int) : Prop where
  disk : ∃ V, Dsk d (6 + n) V W ∧ Marks 2 (6 + n) V
  slot : j.slot = 2
  log : j.log = n
  epoch : 1 ≤ j.epoch ∧ j.epoch ≤ 2
  seq : 0 ≤ j.seq
  place : j.place = 1
  used : j.used ≤ n
  fresh : j.fresh = true
  refused : j.refused = false
theorem Rm.append {n : Nat} {d : DS} {j : JS} {W : Int} (h : Rm n d j W) {b : List Int} (hb : ∀ x ∈ b, 0 ≤ x ∧ x ≤ 255) (hl : b.length ≤ 65535) (hq : j.seq < 4294967295) :
    (n - j.used < countP b.length ∧ appendP d j b = (d, j, 5)) ∨
    (countP b.length ≤ n - j.used ∧ ∃ d' j', appendP d j b = (d', j', 0) ∧ Rm n d' j' (W + countP b.length) ∧ j'.used = j.used + countP b.length ∧ j'.seq = j.seq + 1) := by
  obtain ⟨V, hd, hm⟩ := h.disk
  have hu := h.used
  unfold appendP
  rw [h.refused, if_neg (by decide), h.fresh, if_neg (by decide), if_neg (by omega), h.log, h.slot]
  by_cases hc : n - j.used < countP b.length
  · exact .inl ⟨hc, by rw [if_pos hc]⟩
  · right
    rw [if_neg hc]
    obtain ⟨h1, h2⟩ := Dsk.lay (countP b.length) hd (a := 2 * 2 + j.used) (by omega) (layP_len j.epoch (j.seq + 1) b) (lay_bytes hb)
    simp only [h1]
    refine ⟨by omega, _, ⟨2, n, j.epoch, j.seq + 1, j.place, j.used + countP b.length, true, false⟩, by rw [if_neg (by decide)], ⟨⟨_, h2, hm.lay ⟨by have := h.epoch; omega, by have := h.epoch; omega⟩ h.epoch.2 _ _ _⟩, rfl, rfl, h.epoch, by have := h.seq; show 0 ≤ j.seq + 1; omega, h.place, by show j.used + _ ≤ n; omega, rfl, rfl⟩, rfl, rfl⟩
theorem Rm.big {n : Nat} {d : DS} {j : JS} {W : Int} (h : Rm n d j W) {b : List Int} (hl : b.length = 43) : checkpointP d j b = (d, j, 5) := by
  obtain ⟨V, hd, hm⟩ := h.disk
  have ht := top_le hd hm (by omega) (2 * 2 + n) (by omega)
  unfold checkpointP
  rw [h.refused, if_neg (by decide), h.slot, h.log, hl]
  have hr : recErr 2 (topP d (2 * 2 + n) + 1) 43 = 5 := by
    unfold recErr
    rw [if_neg (by omega), if_pos (by unfold countP; omega)]
  simp only [hr]
  rw [if_pos (by decide)]
theorem Rm.last {n : Nat} {d : DS} {j : JS} {W : Int} (h : Rm n d j W) {b : List Int} (hb : ∀ x ∈ b, 0 ≤ x ∧ x ≤ 255) (hl : b.length ≤ 42) :
    ∃ d' j', checkpointP d j b = (d', j', 0) ∧ d'.Fine (W + 2) ∧ j'.used = 0 ∧ j'.log = n ∧ j'.seq = j.seq := by
  obtain ⟨V, hd, hm⟩ := h.disk
  have ht := top_le hd hm (by omega) (2 * 2 + n) (by omega)
  have hc : countP b.length ≤ 2 := by unfold countP; omega
  unfold checkpointP
  rw [h.refused, if_neg (by decide), h.slot, h.log, h.place]
  have hr : recErr 2 (topP d (2 * 2 + n) + 1) b.length = 0 := by
    unfold recErr
    rw [if_neg (by omega), if_neg (by omega)]
  obtain ⟨h1, h2⟩ := Dsk.lay (countP b.length) hd (a := (1 - 1) * 2) (by omega) (layP_len (topP d (2 * 2 + n) + 1) j.seq b) (lay_bytes hb)
  obtain ⟨h3, h4⟩ := h2.flush
  simp only [hr, h1, h3]
  rw [if_neg (by decide), if_neg (by decide), if_neg (by decide)]
  exact ⟨_, _, rfl, h4.fine.mono (by omega), rfl, rfl, rfl⟩
theorem zeros_between (n : Nat) : (List.range n).flatMap (fun _ => List.replicate 32 (0 : Int)) = List.replicate (n * 32) 0 := by
  induction n with
  | zero => rfl
  | succ n ih => rw [List.range_succ, List.flatMap_append, ih, List.flatMap_cons, List.flatMap_nil, List.append_nil, List.replicate_append_replicate, Nat.add_mul, Nat.one_mul]
theorem scan_zero (epoch : Int) (m : Nat) : ∀ f seq, scanP (List.replicate m 0) epoch f seq 0 = ([], seq, 0)
  | 0, _ => rfl
  | f + 1, seq => by
    unfold scanP
    rw [Nat.mul_zero, List.drop_zero, lift_zero]
/-- Format, Open, Checkpoint of nothing. -/
theorem room_start {n : Nat} (hn : 1 ≤ n ∧ n ≤ 60) : ∃ d1 j1 st1 d2 j2, formatP (DS.new (6 + n)) 2 n [] = (d1, 0) ∧ d1.Fine 1 ∧ openP d1 2 n = some (j1, st1, []) ∧ checkpointP d1 j1 [] = (d2, j2, 0) ∧ Rm n d2 j2 2 ∧ j2.used = 0 ∧ j2.seq = 0 := by
  have hd := Dsk.new (6 + n) (by omega)
  have hmay : mayP (DS.new (6 + n)).sure.length 2 n := ⟨by omega, by omega, by simp [DS.new] <;> omega, by simp [DS.new] <;> omega, by simp [DS.new] <;> omega⟩
  have hb : ∀ x ∈ ([] : List Int), 0 ≤ x ∧ x ≤ 255 := by simp
  obtain ⟨h1, h2⟩ := Dsk.lay (countP ([] : List Int).length) hd (a := 0) (by show 0 + 1 ≤ 6 + n; omega) (layP_len 1 0 []) (lay_bytes hb)
  obtain ⟨h3, h4⟩ := h2.flush
  have hf : formatP (DS.new (6 + n)) 2 n [] = ((DS.lay (DS.new (6 + n)) 0 (countP ([] : List Int).length) (layP 1 0 [])).1.flushR.1, 0) := by
    unfold formatP
    rw [if_neg (fun e => e hmay), if_neg (by decide), if_neg (by rw [h1]; decide)]
    exact Prod.ext rfl h3
  generalize (DS.lay (DS.new (6 + n)) 0 (countP ([] : List Int).length) (layP 1 0 [])).1.flushR.1 = d1 at hf h4
  have hm0 : Marks 1 (6 + n) (fun _ => List.replicate 32 0) := fun i _ => by rw [epoch_zero]; omega
  have hm1 := hm0.lay (e := 1) ⟨by omega, by omega⟩ (Int.le_refl _) 0 [] 0
  have hV : ∀ i, updN (fun _ => List.replicate 32 0) 0 (countP ([] : List Int).length) (layP 1 0 []) i = if i = 0 then layP 1 0 [] else List.replicate 32 0 := fun i => by
    unfold updN
    by_cases hi : i = 0
    · subst hi
      rw [if_pos ⟨Nat.le_refl _, by decide⟩, if_pos rfl, Nat.sub_self, Nat.mul_zero, List.drop_zero, List.take_of_length_le (by rw [layP_len]; decide)]
    · rw [if_neg (by show ¬ (0 ≤ i ∧ i < 0 + 1); omega), if_neg hi]
  have hb0 : d1.between 0 2 = layP 1 0 [] ++ List.replicate 32 0 := by
    rw [h4.between (by omega)]
    simp only [hV]
    rfl
  have hz : ∀ a m, 1 ≤ a → a + m ≤ 6 + n → d1.between a m = List.replicate (m * 32) 0 := fun a m ha hm => by
    rw [h4.between hm, ← zeros_between m]
    exact flatMap_range_congr m (fun i hi => by rw [hV, if_neg (by omega)])
  have hbest : bestP d1 2 = some (⟨1, 0, [], 1⟩, 0) := by
    unfold bestP
    rw [hb0, hz 2 2 (by omega) (by omega), lift_zero, lift_lay ⟨by omega, by omega⟩ ⟨by omega, by omega⟩ (by simp)]
    rfl
  have hopen : openP d1 2 n = some (⟨2, n, 1, 0, 0, 0, false, false⟩, [], []) := by
    unfold openP
    rw [hbest]
    simp only
    rw [hz (2 * 2) n (by omega) (by omega), scan_zero]
  have ht := top_le h4 hm1 (by omega) (2 * 2 + n) (by omega)
  obtain ⟨h5, h6⟩ := Dsk.lay (countP ([] : List Int).length) h4 (a := (1 - 0) * 2) (by show 2 + 1 ≤ 6 + n; omega) (layP_len (topP d1 (2 * 2 + n) + 1) 0 []) (lay_bytes hb)
  obtain ⟨h7, h8⟩ := h6.flush
  have hm2 := (hm1.mono (m' := 2) (by omega)).lay (e := topP d1 (2 * 2 + n) + 1) ⟨by omega, by omega⟩ (by omega) 0 [] ((1 - 0) * 2)
  have hr : recErr 2 (topP d1 (2 * 2 + n) + 1) ([] : List Int).length = 0 := by
    unfold recErr
    rw [if_neg (by rw [List.length_nil]; omega), if_neg (by decide)]
  have hck : checkpointP d1 ⟨2, n, 1, 0, 0, 0, false, false⟩ [] = ((DS.lay d1 ((1 - 0) * 2) (countP ([] : List Int).length) (layP (topP d1 (2 * 2 + n) + 1) 0 [])).1.flushR.1, ⟨2, n, topP d1 (2 * 2 + n) + 1, 0, 1, 0, true, false⟩, 0) := by
    unfold checkpointP
    simp only [hr, h5, h7]
    rfl
  exact ⟨d1, _, _, _, _, hf, h4.fine.mono (by show (0 : Int) + ((1 : Nat) : Int) ≤ 1; omega), hopen, hck, ⟨⟨_, ⟨h8.fine.mono (by show (0 : Int) + ((1 : Nat) : Int) + ((1 : Nat) : Int) ≤ 2; omega), h8.fuse, h8.len, h8.sec⟩, hm2⟩, rfl, rfl, ⟨by show 1 ≤ topP d1 (2 * 2 + n) + 1; omega, by show topP d1 (2 * 2 + n) + 1 ≤ 2; omega⟩, Int.le_refl _, rfl, Nat.zero_le _, rfl, rfl⟩, rfl, rfl⟩
end Go.Proofs.YtgmeahogdjhejaaGreatDoor
