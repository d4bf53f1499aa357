/- The document's journals: between, lay, fits, Format, did, Commit. -/
import Derived.Test.YtgmeahogdjhejaaGreatDoorWalRJ
import Derived.Test.YtgmeahogdjhejaaGreatDoorWalSde
import Derived.Test.YtgmeahogdjhejaaGreatDoorWalNb
namespace Go.Proofs.YtgmeahogdjhejaaGreatDoor
set_option linter.unusedVariables false
set_option linter.unusedSimpArgs false
open Go.RowKit Go.Shelf
open Rf (RefA)

/-- What a call does to the document's disk. -/
def RfE (b : Nat) (S : Nat → Prop) (r : DS × Int) (w : World) (e : Ending) (w' : World) : Prop :=
  e = .returned (.int .i64 r.2) ∧ ∃ S', Ext S w w' ∧ (RefA b S' r.1).says w' ∧ ∀ i, S' i → S i ∨ w.heap.size ≤ i
theorem SH.refTo {b : Nat} {S S' : Nat → Prop} {d d' : DS} {M : Nat → Prop} {w0 w w' : World} {L : List Asr} (H : SH M w0 w L) (k : Nat) (hk : L[k]? = some (RefA b S d)) (he : Ext S w w') (hs : (RefA b S' d').says w') (hS : ∀ i, S' i → S i ∨ w.heap.size ≤ i) : SH M w0 w' (L.set k (RefA b S' d')) :=
  H.upd k hk he hs (fun i hi => ⟨hS i hi, Rf.RefA.lt hs i hi⟩)
theorem Rf.RefA.base {b : Nat} {S : Nat → Prop} {d : DS} {w : World} (h : (RefA b S d).says w) : SH S w w [RefA b S d] :=
  ⟨Ext.refl _ _, fun A hA => by rw [List.mem_singleton.1 hA]; exact h, fun A hA i hi => by rw [List.mem_singleton.1 hA] at hi; exact Rf.RefA.lt h i hi, fun A hA i hi => .inl (by rw [List.mem_singleton.1 hA] at hi; exact hi), List.pairwise_singleton _ _⟩
theorem RfE.of {b : Nat} {S S' : Nat → Prop} {d' : DS} {k : Int} {w w' : World} {L : List Asr} (H : SH S w w' L) (i : Nat) (hi : L[i]? = some (RefA b S' d')) : RfE b S (d', k) w (.returned (.int .i64 k)) w' :=
  ⟨rfl, S', H.ext, H.get i hi, fun j hj => H.own _ (List.mem_of_getElem? hi) j hj⟩
theorem refWrite_E {b : Nat} {S : Nat → Prop} {d : DS} {W : Int} {w : World} (h : (RefA b S d).says w) (hf : d.Fine W) (hW : W < 9223372036854775807) (i : Int) {v : Value} {xs : List Int} (hx : RdS (encInt .u8) 1 w v xs) (hM : ∀ j, v.ownBlock = some j → ¬ S j) (hxl : xs.length ≤ 1000) :
    Calls Tryz.prog 65 #[.pointer (some ⟨b, 0, none⟩), .int .i64 i, v] w (RfE b S (d.writeR i xs) w) :=
  (refWrite_any h hf hW i hx (fun b off n c he => hM b (by rw [he]; rfl)) hxl).mono fun e w' ⟨he, hE, hs⟩ => ⟨he, _, hE, hs, fun i hi => hi.imp id (fun h => h.1)⟩
theorem refFlush_E {b : Nat} {S : Nat → Prop} {d : DS} {W : Int} {w : World} (h : (RefA b S d).says w) (hf : d.Fine W) : Calls Tryz.prog 36 #[.pointer (some ⟨b, 0, none⟩)] w (RfE b S d.flushR w) :=
  (refFlush_any h hf).mono fun e w' ⟨he, hE, hs⟩ => ⟨he, _, hE, hs, fun i hi => hi.imp id (fun h => h.1)⟩
theorem lay_step (d : DS) (a n : Nat) (s : List Int) (h : 0 < n) : d.lay a n s = if (d.writeR a (s.take 32)).2 = 0 then (d.writeR a (s.take 32)).1.lay (a + 1) (n - 1) (s.drop 32) else d.writeR a (s.take 32) := by
  obtain ⟨m, rfl⟩ : ∃ m, n = m + 1 := ⟨n - 1, by omega⟩
  rfl
def RlayR (b : Nat) (S : Nat → Prop) (r : DS × Int) (a n : Nat) (s : List Int) (W0 : Int) (w0 : World) (v7 : Value) (wr : World) : Prop :=
  ∃ (i : Nat) (S' : Nat → Prop) (d' : DS), v7 = .int .i64 (i : Int) ∧ i ≤ n ∧ d'.Fine (W0 + i) ∧ r = d'.lay (a + i) (n - i) (s.drop (32 * i)) ∧ SH S w0 wr [RefA b S' d']
set_option maxRecDepth 100000 in
set_option maxHeartbeats 4000000 in
theorem rlay_any {b : Nat} {S : Nat → Prop} {d : DS} {W0 : Int} (w0 : World) (h : (RefA b S d).says w0) (hf : d.Fine W0) (hW : W0 ≤ 1000000000) (a n : Nat) {v : Value} {s : List Int} (hr : RdS (encInt .u8) 1 w0 v s) (hb : ∀ x ∈ s, 0 ≤ x ∧ x ≤ 255)
    (hs : s.length = 32 * n) (hn : n ≤ 10000) (ha : a ≤ 1000000) (hap : ∀ j, v.ownBlock = some j → ¬ S j) :
    Calls Tryz.prog 35 #[.pointer (some ⟨b, 0, none⟩), .int .i64 (a : Int), v] w0 (RfE b S (d.lay a n s) w0) := by
  obtain ⟨A, cap, rfl, hcap⟩ := hr.len
  obtain ⟨r, hre⟩ : ∃ r, d.lay a n s = r := ⟨_, rfl⟩
  have hst : RlayR b S r a n s W0 w0 (.int .i64 0) w0 := ⟨0, S, d, rfl, Nat.zero_le _, by simpa using hf, by rw [← hre]; rfl, Rf.RefA.base h⟩
  obtain ⟨ns, hns⟩ : ∃ ns, s.length = ns := ⟨_, rfl⟩
  have HR := Lib.hid (And.intro hr (And.intro hb (And.intro hs (And.intro hap hns))))
  rw [hre]
  rw [hns] at hcap hs ⊢
  clear hr hb hap hf h hre hns
  go_enter Tryz.func35, Tryz.ntmps35
  go_wp2_with fail
  go_loopw [7] (fun v7 wr => RlayR b S r a n s W0 w0 v7 wr) (fun vi _ => n - (intOf vi).toNat)
  case atStart => exact hst
  case round =>
    clear hst
    obtain ⟨i, S', d', rfl, hi, hf, hlay, H⟩ := hrel
    by_cases hin : i < n
    · obtain ⟨k0, hk0⟩ : ∃ k0, 32 * i = k0 := ⟨_, rfl⟩
      obtain ⟨k1, hk1⟩ : ∃ k1, k0 + 32 = k1 := ⟨_, rfl⟩
      obtain ⟨ai, hai⟩ : ∃ ai, a + i = ai := ⟨_, rfl⟩
      have hw0 : IntKind.i64.wrap (32 * (i : Int)) = (k0 : Int) := by rw [IntKind.wrap_i64]; omega
      have hw1 : IntKind.i64.wrap ((k0 : Int) + 32) = (k1 : Int) := by rw [IntKind.wrap_i64]; omega
      have hw2 : IntKind.i64.wrap ((a : Int) + (i : Int)) = (ai : Int) := by rw [IntKind.wrap_i64]; omega
      have hw3 : IntKind.i64.wrap ((i : Int) + 1) = ((i + 1 : Nat) : Int) := by rw [IntKind.wrap_i64]; omega
      have hk0n : k0 < ns := by omega
      have hk0i : (k0 : Int) < (ns : Int) := by omega
      have hk01 : k0 ≤ k1 := by omega
      have hk1c : k1 ≤ cap := by omega
      have hkc : ¬ cap = k0 := by omega
      have hk2 : k1 - k0 = 32 := by omega
      obtain ⟨bb, off, rfl, _⟩ := byte_cell HR.out.1 (j := 0) (by rw [HR.out.2.2.2.2]; omega)
      have hsl := sub_rd HR.out.1 k0 32 (cap - k0) (by rw [HR.out.2.2.2.2]; omega) (by omega)
      have hsl := hsl.keepM H.ext HR.out.2.2.2.1
      have hnb : ∀ j, (Value.slice (some ⟨bb, off + k0, none⟩) 32 (cap - k0)).ownBlock = some j → ¬ S' j := fun j hj hS' => by
        have hj' : some bb = some j := hj
        cases hj'
        rcases H.own _ List.mem_cons_self bb hS' with h1 | h1
        · exact HR.out.2.2.2.1 bb rfl h1
        · obtain ⟨b9, o9, cs9, T9, fr9, he9, hb9, _⟩ := HR.out.1.cell (j := 0) (by rw [HR.out.2.2.2.2]; omega)
          cases he9
          exact Nat.lt_irrefl _ (Nat.lt_of_lt_of_le (blk_lt' hb9) h1)
      have hwr := refWrite_E (H.get 0 rfl) hf (by omega) (ai : Int) hsl hnb (by rw [List.length_take]; omega)
      rw [hai, lay_step _ _ _ _ (by omega)] at hlay
      rw [show s.drop (32 * i) = s.drop k0 by rw [hk0]] at hlay
      have hbx : ∀ x ∈ (s.drop k0).take 32, 0 ≤ x ∧ x ≤ 255 := fun x hx => HR.out.2.1 x (List.mem_of_mem_drop (List.mem_of_mem_take hx))
      have hfn := hf.writeR (i := (ai : Int)) hbx
      unfold RfE at hwr
      obtain ⟨r8, hr8⟩ : ∃ r8, d'.writeR (ai : Int) ((s.drop k0).take 32) = r8 := ⟨_, rfl⟩
      rw [hr8] at hwr hlay hfn
      obtain ⟨e8, he8⟩ : ∃ e8, r8.2 = e8 := ⟨_, rfl⟩
      simp only [he8] at hwr hlay
      have hdd : (s.drop k0).drop 32 = s.drop (32 * (i + 1)) := by rw [List.drop_drop]; congr 1; omega
      rw [hdd] at hlay
      by_cases hz : e8 = 0
      · subst hz
        rw [if_pos rfl] at hlay
        have HL := Lib.hid (And.intro hlay (And.intro hfn (And.intro hai hk0)))
        clear hlay hfn hdd hr8 hbx hsl hf hai hk0 hk1 hs he8
        go_wp2_with (first
          | (go_at_call 65; refine hwr.mono ?_; rintro e1 w1 ⟨rfl, S2, hE, hsay, hS2⟩; replace H := H.refTo 0 rfl hE hsay hS2; simp only [List.set_cons_zero] at H; clear hE hsay hS2))
        go_roundw
        case rel => exact ⟨i + 1, _, _, by go_num, by omega, by have h9 := HL.out.2.1; rw [show W0 + ((i + 1 : Nat) : Int) = W0 + (i : Int) + 1 by omega]; exact h9, by rw [HL.out.1, ← HL.out.2.2.1, Nat.add_assoc, Nat.sub_sub], H⟩
        case measure => simp [intOf]; omega
      · have hz2 : (e8 == 0) = false := by simp [hz]
        have hz3 : (e8 != 0) = true := by simp [hz]
        rw [if_neg hz] at hlay
        have HL := Lib.hid (And.intro hlay he8)
        clear hlay hfn hdd hr8 hbx hsl hf hai hk0 hk1 hs he8
        go_wp2_with (first
          | (go_at_call 65; refine hwr.mono ?_; rintro e1 w1 ⟨rfl, S2, hE, hsay, hS2⟩; replace H := H.refTo 0 rfl hE hsay hS2; simp only [List.set_cons_zero] at H; clear hE hsay hS2))
        go_ret
        rw [HL.out.1]
        have h9 := RfE.of (k := e8) H 0 rfl
        rw [← HL.out.2] at h9 ⊢
        exact h9
    · obtain rfl : i = n := by omega
      have hns : ns = 32 * i := hs
      have hend : ¬ 32 * (i : Int) < (ns : Int) := by omega
      have hw0 : IntKind.i64.wrap (32 * (i : Int)) = 32 * (i : Int) := by rw [IntKind.wrap_i64]; omega
      rw [Nat.sub_self] at hlay
      have HL := Lib.hid hlay
      clear hlay hns hs
      go_wp2_with fail
      go_ret
      rw [HL.out]
      exact RfE.of (k := 0) H 0 rfl
end Go.Proofs.YtgmeahogdjhejaaGreatDoor
