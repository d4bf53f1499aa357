/- The document's disk: what lies in memory; Since, Read, goes. -/
import Derived.Test.YtjdfeagjbhdceaaDiskI
import Derived.Test.YtjdfeagjbhdceaaSlice
import Derived.Laws.OwnMore
namespace Go.Proofs.Ytjdfeagjbhdceaa
set_option linter.unusedVariables false
set_option linter.unusedSimpArgs false
open Go.RowKit

/-- Bytes that nobody writes any more. -/
def bytesA (bv : List (Value × List Int)) : Asr where
  fp := fun i => ∃ p ∈ bv, ∃ off n c, p.1 = .slice (some ⟨i, off, none⟩) n c
  says := fun w => ∀ p ∈ bv, RdS (encInt .u8) 1 w p.1 p.2
  keep := fun w w' h hs p hp => by
    obtain ⟨A, cap, he, hc, h1 | ⟨b, off, cs, T, fr, rfl, hb, hcs⟩⟩ := hs p hp
    · exact ⟨A, cap, he, hc, .inl h1⟩
    · exact ⟨_, cap, he, hc, .inr ⟨b, off, cs, T, fr, rfl, (h b ⟨p, hp, off, _, _, he⟩).trans hb, hcs⟩⟩

structure RM where
  v1 : Value
  v2 : Value
  v3 : Value
  v4 : Value
  v5 : Value
  gs : List Value
  ss : List Value
  age : List Int
  old : List Int
  wet : List Bool
  f : Int
  m : Int
  bv : List (Value × List Int)
def RM.cells (r : RM) : Array Value := #[r.v1, r.v2, r.v3, r.v4, r.v5, .int .i64 r.f, .int .i64 r.m]
def RM.L (b : Nat) (r : RM) : List Asr :=
  [pt b (.cells r.cells 63 (0, 0)), ownA 48 1 r.v1 r.gs.length r.gs, ownA 48 1 r.v2 r.ss.length r.ss, ownA 3 1 r.v3 r.age.length (r.age.map (Value.int .i64)), ownA 3 1 r.v4 r.old.length (r.old.map (Value.int .i64)),
   ownA 4 1 r.v5 r.wet.length (r.wet.map Value.bool), bytesA r.bv]
structure RM.Ok (r : RM) (d : DS) : Prop where
  gl : r.gs.length = d.sure.length
  sl : r.ss.length = d.sure.length
  g : ∀ i (h : i < r.gs.length), (r.gs[i], (d.is i).bytes) ∈ r.bv
  s : ∀ i (h : i < r.ss.length), (r.ss[i], (d.sure.getD i St.zero).bytes) ∈ r.bv
  age : r.age = (List.range d.sure.length).map fun (i : Nat) => (d.is i).wr
  old : r.old = d.sure.map (·.wr)
  wet : r.wet = (List.range d.sure.length).map fun (i : Nat) => (getE d.pend i).isSome
  f : (0 ≤ d.fuse → r.f = d.fuse) ∧ (d.fuse < 0 → r.f < 0) ∧ -9223372036854775808 ≤ r.f
  m : r.m = d.writes

def grown (S : Nat → Prop) (w w' : World) : Nat → Prop := fun i => S i ∨ (w.heap.size ≤ i ∧ i < w'.heap.size)
/-- The document's disk at b is as d, all of it in blocks of S. -/
def RefA (b : Nat) (S : Nat → Prop) (d : DS) : Asr where
  fp := S
  says := fun w => ∃ r : RM, r.Ok d ∧ (∀ A ∈ r.L b, A.says w) ∧ (∀ A ∈ r.L b, ∀ i, A.fp i → S i) ∧ (r.L b).Pairwise (fun (A A' : Asr) => ∀ i : Nat, A.fp i → A'.fp i → False) ∧ ∀ i : Nat, S i → ∃ o, w.heap[i]? = some o
  keep := fun w w' h ⟨r, h1, h2, h3, h4, h5⟩ => ⟨r, h1, fun A hA => A.keep w w' (fun i hi => h i (h3 A hA i hi)) (h2 A hA), h3, h4, fun i hi => (h5 i hi).elim fun o ho => ⟨o, (h i hi).trans ho⟩⟩
theorem RefA.opens {b : Nat} {S : Nat → Prop} {d : DS} {w : World} (h : (RefA b S d).says w) : ∃ r : RM, r.Ok d ∧ SH S w w (r.L b) := by
  obtain ⟨r, h1, h2, h3, h4, h5⟩ := h
  exact ⟨r, h1, Ext.refl _ _, h2, fun A hA i hi => (h5 i (h3 A hA i hi)).elim fun o ho => blk_lt' ho, fun A hA i hi => .inl (h3 A hA i hi), h4⟩
theorem RefA.closes {b : Nat} {S : Nat → Prop} {d' : DS} {w w' : World} {r : RM} (hS : ∀ i, S i → i < w.heap.size) (H : SH S w w' (r.L b)) (hr : r.Ok d') : (RefA b (grown S w w') d').says w' :=
  ⟨r, hr, H.says, fun A hA i hi => (H.own A hA i hi).elim .inl fun h => .inr ⟨h, H.lt A hA i hi⟩, H.apart, fun i hi => ⟨_, Array.getElem?_eq_getElem (hi.elim (fun h => Nat.lt_of_lt_of_le (hS i h) H.ext.size) (fun h => h.2))⟩⟩
theorem RefA.lt {b : Nat} {S : Nat → Prop} {d : DS} {w : World} (h : (RefA b S d).says w) : ∀ i, S i → i < w.heap.size := by
  obtain ⟨r, h1, h2, h3, h4, h5⟩ := h
  exact fun i hi => (h5 i hi).elim fun o ho => blk_lt' ho

theorem RM.cellsAt {w : World} {b : Nat} {r : RM} {M : Nat → Prop} {w0 : World} {L : List Asr} (H : SH M w0 w (r.L b ++ L)) :
    w.cell? ⟨b, 0, none⟩ = some r.v1 ∧ w.cell? ⟨b, 1, none⟩ = some r.v2 ∧ w.cell? ⟨b, 2, none⟩ = some r.v3 ∧ w.cell? ⟨b, 3, none⟩ = some r.v4 ∧ w.cell? ⟨b, 4, none⟩ = some r.v5 ∧ w.cell? ⟨b, 5, none⟩ = some (.int .i64 r.f) ∧ w.cell? ⟨b, 6, none⟩ = some (.int .i64 r.m) := by
  have hb := H.at_ 0 (b := b) (o := .cells r.cells 63 (0, 0)) rfl
  exact ⟨cell_of_row w b 0 _ _ _ hb, cell_of_row w b 1 _ _ _ hb, cell_of_row w b 2 _ _ _ hb, cell_of_row w b 3 _ _ _ hb, cell_of_row w b 4 _ _ _ hb, cell_of_row w b 5 _ _ _ hb, cell_of_row w b 6 _ _ _ hb⟩
/-- The row of one's own that a slice value is. -/
theorem row_shape {w : World} {T : TypeId} {v : Value} {xs : List Value} (h : w.ownsRow 0 T 1 v xs.length xs) : (xs = [] ∧ ∃ A c, v = .slice A 0 c) ∨ (∃ g c, v = .slice (some ⟨g, 0, none⟩) xs.length c ∧ ∀ j (hj : j < xs.length), w.cell? ⟨g, j, none⟩ = some xs[j] ∧ w.frozen? ⟨g, j, none⟩ = false) := by
  obtain ⟨_, ⟨rfl, h0⟩ | ⟨g, cap, cur, rfl, _, hg, hle, _, hs, ht⟩⟩ := h
  · exact .inl ⟨List.eq_nil_of_length_eq_zero h0, _, _, rfl⟩
  · refine .inr ⟨g, cap, rfl, fun j hj => ⟨?_, frozen_of_row w g _ cur T hg⟩⟩
    rw [cell_of_row w g j cur T _ hg]
    have h1 : (cur.toList.take (xs.length * 1))[j]? = xs[j]? := by rw [ht]
    rw [List.getElem?_take, if_pos (by omega), Array.getElem?_toList] at h1
    rw [h1, List.getElem?_eq_getElem hj]
theorem row_len {w : World} {T : TypeId} {v : Value} {xs : List Value} (h : w.ownsRow 0 T 1 v xs.length xs) : ∃ A c, v = .slice A xs.length c := by
  rcases row_shape h with ⟨h0, A, c, rfl⟩ | ⟨g, c, rfl, _⟩
  · exact ⟨A, c, by rw [h0]; rfl⟩
  · exact ⟨_, c, rfl⟩

theorem refSince_any {b : Nat} {S : Nat → Prop} {d : DS} {w : World} (h : (RefA b S d).says w) (hl : d.sure.length ≤ 4096) (i : Int) :
    Calls Try.prog 43 #[.pointer (some ⟨b, 0, none⟩), .int .i64 i] w fun e w' => e = .returned (.int .i64 (d.sinceR i)) ∧ w' = w := by
  obtain ⟨r, hr, H⟩ := RefA.opens h
  obtain ⟨_, _, hc2, _, _, _, _⟩ := RM.cellsAt (L := []) (by simpa using H)
  have hrow := H.get 3 rfl
  have hal : r.age.length = d.sure.length := by rw [hr.age]; simp
  have hle : ((r.age.length : Nat) : Int) ≤ 4096 := by omega
  have hag := hr.age
  have hrow2 : w.ownsRow 0 3 1 r.v3 (r.age.map (Value.int .i64)).length (r.age.map (Value.int .i64)) := by rw [List.length_map]; exact hrow
  by_cases h0 : 0 ≤ i
  · by_cases h1 : i < (r.age.length : Int)
    · rcases row_shape hrow2 with ⟨hx, _⟩ | ⟨g, c, hv, hcell⟩
      · simp at hx; rw [hx] at h1; simp at h1; omega
      · obtain ⟨j, rfl⟩ := Int.eq_ofNat_of_zero_le h0
        have hj : j < r.age.length := by omega
        have hcj := (hcell j (by simpa using hj)).1
        rw [List.getElem_map] at hcj
        have hval : r.age[j] = d.sinceR (j : Nat) := by
          unfold DS.sinceR
          rw [if_pos ⟨by omega, by omega⟩]
          simp [hag]
        rw [hval] at hcj
        rw [List.length_map] at hv
        rw [hv] at hc2
        have h1' : decide ((j : Int) < (r.age.length : Int)) = true := by simp; omega
        generalize d.sinceR (j : Nat) = x at hcj ⊢
        clear hval hcell hrow hrow2 H hal hag hr h
        generalize r.age.length = n at *
        go_enter Try.func43, Try.ntmps43
        go_wp2
        go_ret
        exact ⟨rfl, rfl⟩
    · obtain ⟨A, c, hv⟩ := row_len hrow2
      rw [List.length_map] at hv
      rw [hv] at hc2
      have hz : d.sinceR i = 0 := by unfold DS.sinceR; rw [if_neg (fun hh => h1 (by rw [hal]; exact hh.2))]
      rw [hz]
      clear hrow hrow2 H hag hr h
      generalize r.age.length = n at *
      go_enter Try.func43, Try.ntmps43
      go_wp2
      go_ret
      exact ⟨rfl, rfl⟩
  · have hz : d.sinceR i = 0 := by unfold DS.sinceR; rw [if_neg (fun hh => h0 hh.1)]
    rw [hz]
    clear hrow hrow2 H hag hr h
    go_enter Try.func43, Try.ntmps43
    go_wp2
    go_ret
    exact ⟨rfl, rfl⟩

theorem info48 : (Try.prog.info? 5).map (fun i => (i.zero, i.size, i.bytes)) = some (some (.int .u8 0), 1, 1) := by kernel_rfl
set_option maxHeartbeats 1000000 in
theorem refRead_any {b : Nat} {S : Nat → Prop} {d : DS} {w : World} (h : (RefA b S d).says w) (hl : d.sure.length ≤ 4096) (hok : ∀ i : Nat, i < d.sure.length → (d.is i).bytes.length = 32) (i : Int) :
    Calls Try.prog 42 #[.pointer (some ⟨b, 0, none⟩), .int .i64 i] w fun e w' => (∃ v, e = .returned (.tuple #[v, .int .i64 (d.readR i).2]) ∧ w'.ownsRow w.heap.size 5 1 v (d.readR i).1.length (cellsOf (encInt .u8) (d.readR i).1)) ∧ Ext0 w w' := by
  obtain ⟨r, hr, H⟩ := RefA.opens h
  obtain ⟨hc0, _, _, _, _, _, _⟩ := RM.cellsAt (L := []) (by simpa using H)
  have hrow := H.get 1 rfl
  have hgl := hr.gl
  have H0 : SH (fun _ => False) w w [] := SH.nil _ _
  by_cases h0 : 0 ≤ i
  · by_cases h1 : i < (r.gs.length : Int)
    · rcases row_shape hrow with ⟨hx, _⟩ | ⟨g, c, hv, hcell⟩
      · rw [hx] at h1; simp at h1; omega
      · obtain ⟨j, rfl⟩ := Int.eq_ofNat_of_zero_le h0
        have hj : j < r.gs.length := by omega
        have hcj := (hcell j hj).1
        have hb := H.get 6 (A := bytesA r.bv) rfl _ (hr.g j hj)
        have hrd : d.readR (j : Nat) = ((d.is (j : Nat)).bytes, 0) := by unfold DS.readR; rw [if_pos ⟨by omega, by omega⟩]
        have hbl := hok j (by omega)
        rw [hrd]
        dsimp only at hb ⊢
        rw [hv] at hc0
        generalize r.gs[j] = gv at hcj hb
        generalize (d.is (j : Nat)).bytes = bytes at hb hbl ⊢
        have h1' : decide ((j : Int) < (r.gs.length : Int)) = true := by simp; omega
        have hlen4 : r.gs.length ≤ 4096 := by omega
        have HB := Lib.hid hb
        have hnb : (0 + bytes.length) * 1 ≤ 140737488355328 := by omega
        have hnm : 0 + bytes.length ≤ maxLen := by simp only [maxLen]; omega
        have H1 := (H0.alloc (.cells #[] 5)).toOwn 0 rfl 1 0 0 (Nat.le_refl _) (Nat.zero_le _) rfl [] rfl
        simp only [List.set_cons_zero] at H1
        obtain ⟨A, cap, rfl, _⟩ := hb.len
        have hE := Ext.alloc (fun _ => False) w (.cells #[] 5)
        have hc0' := hE.cell hc0 (fun e => e)
        have hcj' := hE.cell hcj (fun e => e)
        clear hE
        clear hcell hrow H hgl hr h hrd hbl hb
        generalize r.gs.length = n at *
        go_enter Try.func42, Try.ntmps42
        go_wp2_with (refine L_append (encInt_len .u8) (encInt_one .u8) rfl rfl Try.underlying48 info48 rfl (by decide) H1 0 rfl rfl rfl (HB.out.keep H1.ext) hnb hnm ?_; clear H0 H1; intro v2 w2 H hnn; simp only [List.set_cons_zero] at H)
        go_ret2
        refine ⟨⟨_, rfl, ?_⟩, H.ext⟩
        have h9 := H.retOwn 0 rfl (fun _ _ h => h)
        rw [List.nil_append, Nat.zero_add] at h9
        exact h9
    · obtain ⟨A, c, hv⟩ := row_len hrow
      rw [hv] at hc0
      have hz : d.readR i = ([], 1) := by unfold DS.readR; rw [if_neg (fun hh => h1 (by rw [hgl]; exact hh.2))]
      rw [hz]
      have hlen4 : r.gs.length ≤ 4096 := by omega
      clear hrow H hr h
      generalize r.gs.length = n at *
      go_enter Try.func42, Try.ntmps42
      go_wp2
      go_ret2
      exact ⟨⟨_, rfl, World.ownsRow_nil _ _ _ _⟩, Ext.refl _ _⟩
  · have hz : d.readR i = ([], 1) := by unfold DS.readR; rw [if_neg (fun hh => h0 hh.1)]
    rw [hz]
    clear hrow H hr h
    go_enter Try.func42, Try.ntmps42
    go_wp2
    go_ret2
    exact ⟨⟨_, rfl, World.ownsRow_nil _ _ _ _⟩, Ext.refl _ _⟩
end Go.Proofs.Ytjdfeagjbhdceaa
