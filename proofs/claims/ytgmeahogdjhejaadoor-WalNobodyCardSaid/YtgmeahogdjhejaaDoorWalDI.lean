/- The disk of the program: each call, for whatever arguments, on a disk that is well formed. -/
import Derived.Test.YtgmeahogdjhejaaDoorWalDH
namespace Go.Proofs.YtgmeahogdjhejaaDoor
set_option linter.unusedVariables false
set_option linter.unusedSimpArgs false
open Go.RowKit

theorem nodup_bound : ∀ (n : Nat) (l : List Int), l.Nodup → (∀ x ∈ l, 0 ≤ x ∧ x < n) → l.length ≤ n
  | 0, l, _, h => by
    cases l with
    | nil => simp
    | cons x l => have := h x (by simp); omega
  | n + 1, l, hn, h => by
    have h2 := nodup_bound n (l.erase (n : Int)) (hn.erase _) (fun x hx => by
      have h3 := h x (List.mem_of_mem_erase hx)
      have h4 : x ≠ n := ((List.Nodup.mem_erase_iff hn).1 hx).1
      omega)
    have h5 := List.length_erase (a := (n : Int)) (l := l)
    split at h5 <;> omega

structure DS.Fine (d : DS) (W : Int) : Prop where
  fuse : -1 ≤ d.fuse ∧ d.fuse ≤ 9223372036854775807
  sure : ∀ s ∈ d.sure, s.Ok
  pend : ∀ p ∈ d.pend, p.2.Ok ∧ 0 ≤ p.1 ∧ p.1 < d.sure.length
  len : d.sure.length ≤ 4096
  keys : (d.pend.map (·.1)).Nodup
  writes : 0 ≤ d.writes ∧ d.writes ≤ W
theorem DS.Fine.mono {d : DS} {W V : Int} (h : d.Fine W) (hv : W ≤ V) : d.Fine V := ⟨h.fuse, h.sure, h.pend, h.len, h.keys, h.writes.1, by have := h.writes.2; omega⟩
theorem DS.Fine.plen {d : DS} {W : Int} (h : d.Fine W) : d.pend.length ≤ d.sure.length := by
  have := nodup_bound d.sure.length (d.pend.map (·.1)) h.keys (fun x hx => by
    obtain ⟨p, hp, rfl⟩ := List.mem_map.1 hx
    exact (h.pend p hp).2)
  simpa using this
theorem DS.Fine.good {d : DS} {W : Int} (h : d.Fine W) : d.Good := ⟨h.fuse, h.sure, h.pend, h.len, by have := h.plen; have := h.len; omega⟩

def DS.has (d : DS) (i : Int) : Prop := 0 ≤ i ∧ i < d.sure.length
instance (d : DS) (i : Int) : Decidable (d.has i) := inferInstanceAs (Decidable (_ ∧ _))
/-- What Read answers. -/
def DS.readR (d : DS) (i : Int) : List Int × Int := if d.has i then ((d.is i).bytes, 0) else ([], 1)
def DS.sinceR (d : DS) (i : Int) : Int := if d.has i then (d.is i).wr else 0
def DS.writeR (d : DS) (i : Int) (xs : List Int) : DS × Int := if ¬ (d.has i ∧ xs.length = 32) then (d, 1) else if d.fuse = 0 then (d, 10) else (d.write i xs, 0)
def DS.flushR (d : DS) : DS × Int := if d.fuse = 0 then (d, 10) else (d.flush, 0)

theorem DS.spend_fuse {d : DS} (h : -1 ≤ d.fuse ∧ d.fuse ≤ 9223372036854775807) : -1 ≤ d.spend.1.fuse ∧ d.spend.1.fuse ≤ 9223372036854775807 ∧ d.spend.1.sure = d.sure ∧ d.spend.1.pend = d.pend ∧ d.spend.1.writes = d.writes := by
  unfold DS.spend
  split
  · exact ⟨h.1, h.2, rfl, rfl, rfl⟩
  · split
    · exact ⟨h.1, h.2, rfl, rfl, rfl⟩
    · refine ⟨?_, ?_, rfl, rfl, rfl⟩ <;> dsimp only <;> omega
theorem DS.Fine.new (n : Nat) (hn : n ≤ 4096) : (DS.new n).Fine 0 := ⟨by simp [DS.new], fun s hs => by rw [(List.mem_replicate.1 hs).2]; exact St.zero_ok, by simp [DS.new], by simpa [DS.new] using hn, by simp [DS.new], by simp [DS.new]⟩
theorem DS.Fine.flush {d : DS} {W : Int} (h : d.Fine W) : d.flush.Fine W := by
  have hs := DS.spend_fuse h.fuse
  refine ⟨⟨hs.1, hs.2.1⟩, applyAll_ok h.sure (fun p hp => (h.pend p hp).1), by simp [DS.flush], ?_, by simp [DS.flush], ?_⟩
  · simp only [DS.flush, applyAll_length]; exact h.len
  · show 0 ≤ d.spend.1.writes ∧ d.spend.1.writes ≤ W; rw [hs.2.2.2.2]; exact h.writes
theorem DS.Fine.flushR {d : DS} {W : Int} (h : d.Fine W) : d.flushR.1.Fine W := by
  unfold DS.flushR; split
  · exact h
  · exact h.flush
theorem mem_putE {V : Type} {es : List (Int × V)} {k : Int} {v : V} {p : Int × V} (hn : (es.map (·.1)).Nodup) (h : p ∈ putE es k v) : p = (k, v) ∨ p ∈ es := by
  have h1 := getE_of_mem (nodup_putE hn k v) (show (p.1, p.2) ∈ putE es k v from h)
  rw [getE_putE es hn] at h1
  split at h1
  · rename_i e
    left
    obtain ⟨a, b⟩ := p
    cases h1; simp only at e; subst e; rfl
  · exact .inr (getE_mem h1)
theorem DS.Fine.write {d : DS} {W : Int} (h : d.Fine W) {i : Int} {xs : List Int} (hi : d.has i) (hx : xs.length = 32) (hb : ∀ x ∈ xs, 0 ≤ x ∧ x ≤ 255) : (d.write i xs).Fine (W + 1) := by
  have hs := DS.spend_fuse h.fuse
  have hsure : (d.write i xs).sure = d.sure := hs.2.2.1
  refine ⟨⟨hs.1, hs.2.1⟩, by rw [hsure]; exact h.sure, ?_, by rw [hsure]; exact h.len, nodup_putE h.keys _ _, ?_⟩
  · intro p hp
    rw [hsure]
    rcases mem_putE h.keys hp with rfl | hp
    · exact ⟨⟨hx, hb⟩, hi⟩
    · exact h.pend p hp
  · have := h.writes; simp only [DS.write]; omega
theorem DS.Fine.writeR {d : DS} {W : Int} (h : d.Fine W) {i : Int} {xs : List Int} (hb : ∀ x ∈ xs, 0 ≤ x ∧ x ≤ 255) : (d.writeR i xs).1.Fine (W + 1) := by
  unfold DS.writeR
  split
  · exact h.mono (by omega)
  · rename_i hh
    have hh := Decidable.not_not.1 hh
    split
    · exact h.mono (by omega)
    · exact h.write hh.1 hh.2 hb
theorem DS.Fine.crash {d : DS} {W : Int} (h : d.Fine W) (keep torn cut : Int) : (d.crash keep torn cut).Fine W :=
  ⟨by simp [DS.crash], crashTo_ok h.sure (fun p hp => (h.pend p hp).1) keep torn cut _, by simp [DS.crash], by simp only [DS.crash, crashTo_length]; exact h.len, by simp [DS.crash], h.writes⟩
theorem DS.Fine.setFuse {d : DS} {W : Int} (h : d.Fine W) (n : Int) (hn : n ≤ 9223372036854775807) : (DS.mk (max n (-1)) d.sure d.pend d.writes).Fine W :=
  ⟨by dsimp only; omega, h.sure, h.pend, h.len, h.keys, h.writes⟩

section
variable {b bs bm : Nat} {d : DS} {W : Int} {M : Nat → Prop} {w0 w : World} {L : List Asr}

theorem DiskA.fp_lt {i : Nat} (h : (DiskA b bs bm d).says w) (hi : (DiskA b bs bm d).fp i) : i < w.heap.size := by
  obtain ⟨_, _, _, a4, a5, ents, clock, a6, _⟩ := h
  rcases hi with rfl | rfl | rfl
  · exact blk_lt' a4
  · exact blk_lt' a5
  · exact blk_lt' a6
theorem SH.disk (H : SH M w0 w L) (k : Nat) (hk : L[k]? = some (DiskA b bs bm d)) {w' : World} {d' : DS} (he : Ext (DiskA b bs bm d).fp w w') (hs : (DiskA b bs bm d').says w') : SH M w0 w' (L.set k (DiskA b bs bm d')) :=
  H.upd k hk he hs (fun i hi => ⟨.inl hi, DiskA.fp_lt hs hi⟩)

theorem dread (h : (DiskA b bs bm d).says w) (hf : d.Fine W) (i : Int) :
    Calls Tryd.prog 53 #[.pointer (some ⟨b, 0, none⟩), .int .i64 i] w fun e w' => ∃ v, e = .returned (.tuple #[v, .int .i64 (d.readR i).2]) ∧ w'.ownsRow w.heap.size 5 1 v (d.readR i).1.length (cellsOf (encInt .u8) (d.readR i).1) ∧ Ext0 w w' := by
  unfold DS.readR
  by_cases hi : d.has i
  · rw [if_pos hi]
    have := read_on b bs bm d i w h hf.sure (fun p hp => (hf.pend p hp).1) hi.1 hi.2
    rw [show (d.is i).bytes.length = 32 from (DS.is_ok hf.sure (fun p hp => (hf.pend p hp).1) hi.1 hi.2).1]
    exact this
  · rw [if_neg hi]
    have hth := there_any b bs bm d i w h
    rw [show decide (0 ≤ i ∧ i < d.sure.length) = false by simpa [DS.has] using hi] at hth
    refine (read_off _ i w hth).mono ?_
    rintro e w' ⟨rfl, rfl⟩
    exact ⟨_, rfl, World.ownsRow_nil _ _ _ _, Ext.refl _ _⟩
theorem dwrite (h : (DiskA b bs bm d).says w) (hf : d.Fine W) (hW : W < 9223372036854775807) (i : Int) {v : Value} {xs : List Int} (hr : RdS (encInt .u8) 1 w v xs) (hap : ∀ j, v.ownBlock = some j → ¬ (DiskA b bs bm d).fp j) :
    Calls Tryd.prog 47 #[.pointer (some ⟨b, 0, none⟩), .int .i64 i, v] w fun e w' => e = .returned (.int .i64 (d.writeR i xs).2) ∧ Ext (DiskA b bs bm d).fp w w' ∧ (DiskA b bs bm (d.writeR i xs).1).says w' := by
  have hth := there_any b bs bm d i w h
  unfold DS.writeR
  by_cases hi : d.has i
  · rw [show decide (0 ≤ i ∧ i < d.sure.length) = true by simpa [DS.has] using hi] at hth
    by_cases hx : xs.length = 32
    · rw [if_neg (by simp [hi, hx])]
      by_cases h0 : d.fuse = 0
      · rw [if_pos h0]
        obtain ⟨A, cap, rfl, _⟩ := hr.len
        rw [hx]
        refine (write_down b bs bm d i A cap w h h0 hth).mono ?_
        rintro e w' ⟨rfl, h1, h2⟩
        exact ⟨rfl, h1.mono (fun j _ hj => .inl hj), h2⟩
      · rw [if_neg h0]
        have := hf.writes
        exact write_on b bs bm d i v xs w h hf.fuse h0 hf.writes.1 (by omega) hr hx hap hth
    · rw [if_pos (by simp [hx])]
      obtain ⟨A, cap, rfl, _⟩ := hr.len
      refine (write_len _ i A _ cap w hx hth).mono ?_
      rintro e w' ⟨rfl, rfl⟩
      exact ⟨rfl, Ext.refl _ _, h⟩
  · rw [show decide (0 ≤ i ∧ i < d.sure.length) = false by simpa [DS.has] using hi] at hth
    rw [if_pos (by simp [hi])]
    refine (write_off _ i v w hth).mono ?_
    rintro e w' ⟨rfl, rfl⟩
    exact ⟨rfl, Ext.refl _ _, h⟩
theorem dflush (h : (DiskA b bs bm d).says w) (hf : d.Fine W) :
    Calls Tryd.prog 31 #[.pointer (some ⟨b, 0, none⟩)] w fun e w' => e = .returned (.int .i64 d.flushR.2) ∧ Ext (DiskA b bs bm d).fp w w' ∧ (DiskA b bs bm d.flushR.1).says w' := by
  unfold DS.flushR
  by_cases h0 : d.fuse = 0
  · rw [if_pos h0]
    refine (flush_down b bs bm d w h h0).mono ?_
    rintro e w' ⟨rfl, h1, h2⟩
    exact ⟨rfl, h1.mono (fun j _ hj => .inl hj), h2⟩
  · rw [if_neg h0]
    exact flush_on b bs bm d w h hf.fuse h0 hf.sure hf.pend
end
end Go.Proofs.YtgmeahogdjhejaaDoor
