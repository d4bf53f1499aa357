/- Journals: the plain law: what is laid on a disk, and read of it. No program in sight. -/
import Derived.Test.YtgmeahogdjhejaaGreatDoorWalD
import Derived.Test.YtgmeahogdjhejaaGreatDoorWalLaw
namespace Go.Proofs.YtgmeahogdjhejaaGreatDoor
set_option linter.unusedVariables false
set_option linter.unusedSimpArgs false
open Go.RowKit

def DS.sec (d : DS) (i : Nat) : List Int := (d.is (i : Int)).bytes
/-- The bytes of n sectors. -/
def DS.between (d : DS) (a n : Nat) : List Int := (List.range n).flatMap fun i => d.sec (a + i)
/-- n sectors written, rising: the disk, and the error's number. -/
def DS.lay (d : DS) : Nat → Nat → List Int → DS × Int
  | _, 0, _ => (d, 0)
  | a, n + 1, s => if (d.writeR a (s.take 32)).2 = 0 then DS.lay (d.writeR a (s.take 32)).1 (a + 1) n (s.drop 32) else d.writeR a (s.take 32)
structure JS where
  slot : Nat
  log : Nat
  epoch : Int
  seq : Int
  place : Nat
  used : Nat
  fresh : Bool
  refused : Bool
def mayP (N : Nat) (slot log : Int) : Prop := 0 < slot ∧ 0 < log ∧ slot ≤ N ∧ log ≤ N ∧ 2 * slot + log ≤ N
instance (N : Nat) (slot log : Int) : Decidable (mayP N slot log) := inferInstanceAs (Decidable (_ ∧ _))
/-- What bars a checkpoint's record. -/
def recErr (slot : Nat) (epoch : Int) (n : Nat) : Int := if 65535 < n ∨ 4294967295 < epoch then 2 else if slot < countP n then 5 else 0
def formatP (d : DS) (slot log : Int) (st : List Int) : DS × Int :=
  if ¬ mayP d.sure.length slot log then (d, 1)
  else if recErr slot.toNat 1 st.length ≠ 0 then (d, recErr slot.toNat 1 st.length)
  else if (d.lay 0 (countP st.length) (layP 1 0 st)).2 ≠ 0 then d.lay 0 (countP st.length) (layP 1 0 st)
  else (d.lay 0 (countP st.length) (layP 1 0 st)).1.flushR
/-- Record by record. -/
def scanP (s : List Int) (epoch : Int) : Nat → Int → Nat → List (List Int) × Int × Nat
  | 0, seq, used => ([], seq, used)
  | f + 1, seq, used =>
    match liftP (s.drop (32 * used)) with
    | some r => if r.epoch = epoch ∧ r.seq = seq + 1 then (r.bytes :: (scanP s epoch f (seq + 1) (used + r.sectors)).1, (scanP s epoch f (seq + 1) (used + r.sectors)).2) else ([], seq, used)
    | none => ([], seq, used)
/-- The checkpoint that there is: its record, and its place. -/
def bestP (d : DS) (slot : Nat) : Option (Rec × Nat) :=
  match liftP (d.between 0 slot), liftP (d.between slot slot) with
  | none, none => none
  | some a, none => some (a, 0)
  | none, some b => some (b, 1)
  | some a, some b => if a.epoch < b.epoch then some (b, 1) else some (a, 0)
def openP (d : DS) (slot log : Nat) : Option (JS × List Int × List (List Int)) :=
  match bestP d slot with
  | none => none
  | some (a, p) =>
    let r := scanP (d.between (2 * slot) log) a.epoch log a.seq 0
    some (⟨slot, log, a.epoch, r.2.1, p, r.2.2, false, false⟩, a.bytes, r.1)
/-- The greatest epoch of all marks. -/
def topP (d : DS) (n : Nat) : Int := (List.range n).foldl (fun m i => max m (epochP (d.sec i))) 0
def checkpointP (d : DS) (j : JS) (st : List Int) : DS × JS × Int :=
  if j.refused then (d, j, 10)
  else
    let e := topP d (2 * j.slot + j.log) + 1
    if recErr j.slot e st.length ≠ 0 then (d, j, recErr j.slot e st.length)
    else
      let r := d.lay ((1 - j.place) * j.slot) (countP st.length) (layP e j.seq st)
      if r.2 ≠ 0 then (r.1, { j with refused := true }, r.2)
      else
        let f := r.1.flushR
        if f.2 ≠ 0 then (f.1, { j with refused := true }, f.2)
        else (f.1, { j with epoch := e, place := 1 - j.place, used := 0, fresh := true }, 0)
def appendP (d : DS) (j : JS) (b : List Int) : DS × JS × Int :=
  if j.refused then (d, j, 10)
  else if j.fresh = false then (d, j, 9)
  else if 65535 < b.length ∨ j.seq = 4294967295 then (d, j, 2)
  else if j.log - j.used < countP b.length then (d, j, 5)
  else
    let r := d.lay (2 * j.slot + j.used) (countP b.length) (layP j.epoch (j.seq + 1) b)
    if r.2 ≠ 0 then (r.1, { j with refused := true }, r.2)
    else (r.1, { j with seq := j.seq + 1, used := j.used + countP b.length }, 0)
def commitP (d : DS) (j : JS) : DS × JS × Int :=
  if j.refused then (d, j, 10)
  else if j.fresh = false then (d, j, 9)
  else (d.flushR.1, { j with refused := decide (d.flushR.2 ≠ 0) }, d.flushR.2)
/-! ### A disk without a fuse -/
/-- What the sectors hold. -/
structure Dsk (d : DS) (N : Nat) (V : Nat → List Int) (W : Int) : Prop where
  fine : d.Fine W
  fuse : d.fuse = -1
  len : d.sure.length = N
  sec : ∀ i, i < N → d.sec i = V i
def upd (V : Nat → List Int) (i : Nat) (xs : List Int) : Nat → List Int := fun j => if j = i then xs else V j
def updN (V : Nat → List Int) (a n : Nat) (s : List Int) : Nat → List Int := fun j => if a ≤ j ∧ j < a + n then (s.drop (32 * (j - a))).take 32 else V j
variable {d : DS} {N : Nat} {V : Nat → List Int} {W : Int}
theorem Dsk.new (n : Nat) (hn : n ≤ 4096) : Dsk (DS.new n) n (fun _ => List.replicate 32 0) 0 :=
  ⟨DS.Fine.new n hn, rfl, by simp [DS.new], fun i hi => by simp [DS.sec, DS.is, DS.new, getE_nil, St.zero, List.getD_eq_getElem?_getD, hi]⟩
theorem Dsk.write (h : Dsk d N V W) {i : Nat} (hi : i < N) {xs : List Int} (hx : xs.length = 32) (hb : ∀ x ∈ xs, 0 ≤ x ∧ x ≤ 255) : (d.writeR i xs).2 = 0 ∧ Dsk (d.writeR i xs).1 N (upd V i xs) (W + 1) := by
  have hh : d.has (i : Int) := ⟨by omega, by have := h.len; omega⟩
  have he : d.writeR i xs = (d.write i xs, 0) := by
    unfold DS.writeR
    rw [if_neg (fun e => e ⟨hh, hx⟩), if_neg (by rw [h.fuse]; decide)]
  rw [he]
  refine ⟨rfl, h.fine.write hh hx hb, ?_, ?_, fun j hj => ?_⟩
  · show d.spend.1.fuse = -1
    unfold DS.spend
    rw [if_pos h.fuse]
    exact h.fuse
  · show d.spend.1.sure.length = N
    rw [(DS.spend_fuse h.fine.fuse).2.2.1]
    exact h.len
  · have := h.sec j hj
    unfold DS.sec DS.is at this ⊢
    show ((getE (putE d.pend i ⟨xs, d.writes + 1⟩) (j : Int)).getD (d.spend.1.sure.getD (j : Int).toNat St.zero)).bytes = _
    rw [getE_putE _ h.fine.keys, (DS.spend_fuse h.fine.fuse).2.2.1]
    unfold upd
    by_cases hji : j = i
    · subst hji; simp
    · rw [if_neg (by omega), if_neg hji]
      exact this
theorem Dsk.flush (h : Dsk d N V W) : d.flushR.2 = 0 ∧ Dsk d.flushR.1 N V W := by
  have he : d.flushR = (d.flush, 0) := by
    unfold DS.flushR
    rw [if_neg (by rw [h.fuse]; decide)]
  rw [he]
  have hs := DS.spend_fuse h.fine.fuse
  refine ⟨rfl, h.fine.flush, ?_, ?_, fun j hj => ?_⟩
  · show d.spend.1.fuse = -1
    unfold DS.spend
    rw [if_pos h.fuse]
    exact h.fuse
  · show (applyAll d.sure d.pend).length = N
    rw [applyAll_length]
    exact h.len
  · rw [← h.sec j hj]
    unfold DS.sec DS.is DS.flush
    simp only [getE_nil, Option.getD_none, Int.toNat_natCast, List.getD_eq_getElem?_getD]
    rw [applyAll_get d.pend h.fine.keys (fun p hp => (h.fine.pend p hp).2.1) d.sure j (by rw [h.len]; exact hj), Option.getD_some, List.getElem?_eq_getElem (by rw [h.len]; exact hj)]
    rfl
theorem Dsk.lay : ∀ (n : Nat) {d : DS} {V : Nat → List Int} {W : Int} (_ : Dsk d N V W) {a : Nat} (_ : a + n ≤ N) {s : List Int} (_ : s.length = 32 * n) (_ : ∀ x ∈ s, 0 ≤ x ∧ x ≤ 255), (d.lay a n s).2 = 0 ∧ Dsk (d.lay a n s).1 N (updN V a n s) (W + n)
  | 0, d, V, W, h, a, _, s, _, _ => ⟨rfl, ⟨h.fine.mono (by omega), h.fuse, h.len, fun i hi => by show d.sec i = _; rw [h.sec i hi]; unfold updN; rw [if_neg (by omega)]⟩⟩
  | n + 1, d, V, W, h, a, ha, s, hs, hb => by
    obtain ⟨h1, h2⟩ := h.write (i := a) (by omega) (xs := s.take 32) (by rw [List.length_take]; omega) (fun x hx => hb x (List.mem_of_mem_take hx))
    obtain ⟨h3, h4⟩ := Dsk.lay n h2 (a := a + 1) (by omega) (s := s.drop 32) (by rw [List.length_drop]; omega) (fun x hx => hb x (List.mem_of_mem_drop hx))
    have he : d.lay a (n + 1) s = DS.lay (d.writeR a (s.take 32)).1 (a + 1) n (s.drop 32) := by
      conv => lhs; unfold DS.lay
      rw [if_pos h1]
    rw [he]
    refine ⟨h3, h4.fine.mono (by push_cast; omega), h4.fuse, h4.len, fun i hi => ?_⟩
    rw [h4.sec i hi]
    unfold updN upd
    by_cases hia : i = a
    · subst hia
      rw [if_neg (by omega), if_pos rfl, if_pos (by omega), Nat.sub_self, Nat.mul_zero, List.drop_zero]
    · by_cases h5 : a + 1 ≤ i ∧ i < a + 1 + n
      · rw [if_pos h5, if_pos (by omega), List.drop_drop, show 32 + 32 * (i - (a + 1)) = 32 * (i - a) by omega]
      · rw [if_neg h5, if_neg hia, if_neg (by omega)]
theorem flatMap_range_congr {f g : Nat → List Int} (n : Nat) (h : ∀ i, i < n → f i = g i) : (List.range n).flatMap f = (List.range n).flatMap g := by
  have : ∀ (l : List Nat), (∀ i ∈ l, f i = g i) → l.flatMap f = l.flatMap g := fun l => by
    induction l with
    | nil => intro _; rfl
    | cons x l ih => intro hl; rw [List.flatMap_cons, List.flatMap_cons, hl x List.mem_cons_self, ih (fun i hi => hl i (List.mem_cons_of_mem _ hi))]
  exact this _ (fun i hi => h i (List.mem_range.1 hi))
theorem Dsk.between (h : Dsk d N V W) {a n : Nat} (ha : a + n ≤ N) : d.between a n = (List.range n).flatMap fun i => V (a + i) :=
  flatMap_range_congr n (fun i hi => h.sec _ (by omega))
end Go.Proofs.YtgmeahogdjhejaaGreatDoor
