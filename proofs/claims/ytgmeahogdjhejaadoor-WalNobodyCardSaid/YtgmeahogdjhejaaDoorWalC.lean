/- Bytes put together: slices.Grow, slices.Concat, crc.Of; sheet.last, sheet.marked. -/
import Derived.Test.YtgmeahogdjhejaaDoorWalB
import Derived.Test.YtgmeahogdjhejaaDoorSlice
namespace Go.Proofs.YtgmeahogdjhejaaDoor
set_option linter.unusedVariables false
set_option linter.unusedSimpArgs false
open Go.RowKit

theorem infoU8 : (Tryd.prog.info? 5).map (fun i => (i.zero, i.size, i.bytes)) = some (some (.int .u8 0), 1, 1) := by kernel_rfl
section
variable {w w0 : World} {M : Nat → Prop} {L : List Asr} {a : Act} {o : Oper} {ops : Array Oper} {rest : List Oper} {Q : Exit → Act → World → Prop}
theorem L_appendZ (hgd : o.guard = none) {s x : Operand} (ho : o.op = .call { callee := .builtin .append, args := #[s, x], argTypes := #[23, 3] }) (H : SH M w0 w L) (i : Nat)
    {v : Value} {n : Nat} {xs : List Value} (hA : L[i]? = some (ownA 5 1 v n xs)) (hs : a.eval s = v) {k : Nat} (hx : a.eval x = .int .i64 (k : Int)) (hk : n + k ≤ 1000000)
    (kk : ∀ v' w', SH M w0 w' (L.set i (ownA 5 1 v' (n + k) (xs ++ zB k))) → wpList Tryd.prog ops Q rest (a.put o.dst v') w') : wpList Tryd.prog ops Q (o :: rest) a w :=
  wpList_plain hgd fun K hK => W_appendZ ho H i hA hs hx hk (fun v' w' h => hK _ _ (kk v' w' h))
end
theorem own_zero {w : World} {base g n c : Nat} {T : TypeId} {xs : List Value} (h : w.ownsRow base T 1 (.slice (some ⟨g, 0, none⟩) n c) n xs) : w.ownsRow base T 1 (.slice (some ⟨g, 0, none⟩) 0 c) 0 [] := by
  rcases h.2 with ⟨h, _⟩ | ⟨g', c', cur, he, h1, h2, h3, h4, h5, h6⟩
  · cases h
  · cases he
    exact ⟨rfl, .inr ⟨g, c, cur, rfl, h1, h2, Nat.zero_le _, h4, h5, by simp⟩⟩
theorem own_some {w : World} {base : Nat} {T : TypeId} {k : Nat} {v : Value} {n : Nat} {xs : List Value} (h : w.ownsRow base T k v n xs) (hn : 0 < n) : ∃ g c, v = .slice (some ⟨g, 0, none⟩) n c ∧ n ≤ c := by
  rcases h.2 with ⟨_, h0⟩ | ⟨g, c, cur, he, _, _, h3, _⟩
  · omega
  · exact ⟨g, c, he, h3⟩
def GivesRoom (w : World) (e : Ending) (w' : World) : Prop := ∃ v, e = .returned v ∧ w'.ownsRow w.heap.size 5 1 v 0 [] ∧ Ext0 w w'
set_option maxRecDepth 100000 in
set_option maxHeartbeats 1000000 in
theorem grow_any (n : Nat) (hn : 0 < n) (hn2 : n ≤ 1000000) (w : World) : Calls Tryd.prog 68 #[.slice none 0 0, .int .i64 (n : Int)] w (GivesRoom w) := by
  have H := (SH.nil (fun _ => False) w).addNil 5 1
  have h1 : ¬ (n : Int) < 0 := by omega
  have h2 : IntKind.i64.wrap (n : Int) = (n : Int) := by rw [IntKind.wrap_i64]; omega
  have h3 : (0 : Int) < (n : Int) := by omega
  go_enter Tryd.func68, Tryd.ntmps68
  go_wp2_with (first
    | (refine L_appendZ rfl rfl H 0 rfl rfl rfl (by omega) ?_; clear H; intro v w2 H; simp only [List.set_cons_zero, Nat.zero_add, List.nil_append] at H; obtain ⟨g, c, rfl, hc⟩ := own_some (H.get 0 rfl) hn; have hcc : ¬ c = 0 := (by omega)))
  go_ret
  exact ⟨_, rfl, own_zero (H.retOwn 0 rfl (fun _ _ h => h)), H.ext⟩
/-- Slices of bytes, one behind the other in a row. -/
structure Parts (w : World) (g : Nat) (ps : List (Value × List Int)) : Prop where
  row : w.heap[g]? = some (.cells (ps.map (·.1)).toArray 23 (0, 0))
  reads : ∀ p ∈ ps, RdS (encInt .u8) 1 w p.1 p.2
  bytes : ∀ p ∈ ps, ∀ x ∈ p.2, 0 ≤ x ∧ x ≤ 255
theorem Parts.keep {w w' : World} {g : Nat} {ps : List (Value × List Int)} (h : Parts w g ps) (e : Ext0 w w') : Parts w' g ps := ⟨e.block0 h.row, fun p hp => (h.reads p hp).keep e, h.bytes⟩
theorem Parts.at_ {w : World} {g : Nat} {ps : List (Value × List Int)} (h : Parts w g ps) {k : Nat} (hk : k < ps.length) : ∃ A c, w.cell? ⟨g, k, none⟩ = some (.slice A ps[k].2.length c) ∧ RdS (encInt .u8) 1 w (.slice A ps[k].2.length c) ps[k].2 := by
  obtain ⟨A, c, he, _⟩ := (h.reads _ (List.getElem_mem hk)).len
  have h1 := h.reads _ (List.getElem_mem hk)
  rw [he] at h1
  refine ⟨A, c, ?_, h1⟩
  rw [cell_of_row w g k _ _ _ h.row]
  simp [List.getElem?_map, hk, he]
def flatB (ps : List (Value × List Int)) : List Int := ps.flatMap (·.2)
theorem flatB_snoc (ps : List (Value × List Int)) {k : Nat} (hk : k < ps.length) : flatB (ps.take (k + 1)) = flatB (ps.take k) ++ ps[k].2 := by
  unfold flatB
  rw [List.take_add_one, List.getElem?_eq_getElem hk, List.flatMap_append]
  simp
theorem flatB_take (ps : List (Value × List Int)) (k : Nat) : (flatB (ps.take k)).length ≤ (flatB ps).length := by
  conv => rhs; rw [← List.take_append_drop k ps]
  unfold flatB
  rw [List.flatMap_append, List.length_append]
  omega
def CcRel1 (ps : List (Value × List Int)) (w : World) (vs vi : Value) (wr : World) : Prop := ∃ k : Nat, vi = .int .i64 (k : Int) ∧ vs = .int .i64 ((flatB (ps.take k)).length : Int) ∧ k ≤ ps.length ∧ wr = w
def CcRel2 (ps : List (Value × List Int)) (w0 : World) (vs vi : Value) (wr : World) : Prop := ∃ k : Nat, vi = .int .i64 (k : Int) ∧ k ≤ ps.length ∧ SH (fun _ => False) w0 wr [ownA 5 1 vs (flatB (ps.take k)).length (cellsOf (encInt .u8) (flatB (ps.take k)))]
/-- Bytes in memory of the call's own. -/
def GivesNew (w : World) (xs : List Int) (e : Ending) (w' : World) : Prop := ∃ v, e = .returned v ∧ w'.ownsRow w.heap.size 5 1 v xs.length (cellsOf (encInt .u8) xs) ∧ Ext0 w w'
set_option maxRecDepth 100000 in
set_option maxHeartbeats 2000000 in
theorem concat_any (g : Nat) (ps : List (Value × List Int)) (w0 : World) (h : Parts w0 g ps) (hp : ps.length ≤ 1000) (h0 : 0 < (flatB ps).length) (hl : (flatB ps).length ≤ 1000000) :
    Calls Tryd.prog 57 #[.slice (some ⟨g, 0, none⟩) ps.length ps.length] w0 (GivesNew w0 (flatB ps)) := by
  have HP := Lib.hid h
  have HL := Lib.hid (And.intro h0 hl)
  have hgr := fun {W : World} => grow_any (flatB ps).length h0 hl W
  clear h h0 hl
  go_enter Tryd.func57, Tryd.ntmps57
  go_wp2
  go_loopw [3, 11] (fun vs vi wr => CcRel1 ps w0 vs vi wr) (fun _ vi _ => ps.length - (intOf vi).toNat)
  case atStart => exact ⟨0, rfl, rfl, Nat.zero_le _, rfl⟩
  case round =>
    obtain ⟨k, rfl, rfl, hk, hwr⟩ := hrel
    replace hwr := hwr.symm
    subst hwr
    by_cases hkn : k < ps.length
    · have hki : (k : Int) < (ps.length : Int) := by omega
      obtain ⟨A, c, hc, _⟩ := HP.out.at_ hkn
      have hsn := congrArg List.length (flatB_snoc ps hkn)
      rw [List.length_append] at hsn
      have ht := flatB_take ps (k + 1)
      obtain ⟨m, hm⟩ : ∃ m, ps[k].2.length = m := ⟨_, rfl⟩
      obtain ⟨s, hs⟩ : ∃ s, (flatB (ps.take k)).length = s := ⟨_, rfl⟩
      rw [hm] at hc
      rw [hs]
      rw [hm, hs] at hsn
      have hlt := HL.out.2
      have hw1 : IntKind.i64.wrap ((s : Int) + (m : Int)) = (s : Int) + (m : Int) := by rw [IntKind.wrap_i64]; omega
      have hw2 : ¬ ((s : Int) + (m : Int)) < 0 := by omega
      have HSN := Lib.hid hsn
      clear hsn ht hm hs hlt
      go_wp2
      go_roundw
      case rel => exact ⟨k + 1, by go_num, by rw [HSN.out]; rfl, by omega, rfl⟩
      case measure => simp [intOf]; omega
    · obtain rfl : k = ps.length := by omega
      have hq2 : ¬ ((ps.length : Int) < (ps.length : Int)) := by omega
      rw [List.take_length]
      go_wp2_with (first
        | (go_at_call 68; refine hgr.mono ?_; rintro e w1 ⟨v, rfl, ho, hE⟩))
      have H := (SH.nil (fun _ => False) w0).addOwn hE ho
      clear ho hE hgr
      go_loopw [6, 27] (fun vs vi wr => CcRel2 ps w0 vs vi wr) (fun _ vi _ => ps.length - (intOf vi).toNat)
      case atStart => exact ⟨0, rfl, Nat.zero_le _, H⟩
      case round =>
        clear H
        obtain ⟨k, rfl, hk, H⟩ := hrel
        by_cases hkn : k < ps.length
        · have hki : (k : Int) < (ps.length : Int) := by omega
          obtain ⟨A, c, hc, hrd⟩ := (HP.out.keep H.ext).at_ hkn
          have hsn := flatB_snoc ps hkn
          have hsl := congrArg List.length hsn
          rw [List.length_append] at hsl
          have ht := flatB_take ps (k + 1)
          have hb1 : ((flatB (ps.take k)).length + ps[k].2.length) * 1 ≤ 140737488355328 := by have := HL.out.2; omega
          have hm1 : (flatB (ps.take k)).length + ps[k].2.length ≤ maxLen := by have := HL.out.2; unfold maxLen; omega
          obtain ⟨ys, hys⟩ : ∃ ys, ps[k].2 = ys := ⟨_, rfl⟩
          rw [hys] at hc hrd hb1 hm1
          have HSN := Lib.hid (And.intro hsn hsl)
          have HYS := Lib.hid hys
          clear hsn hsl ht hys
          go_wp2_with (first
            | (refine L_append (encInt_len .u8) (encInt_one .u8) rfl rfl Tryd.underlying23 infoU8 rfl (by decide) H 0 rfl rfl rfl hrd hb1 hm1 ?_; clear H; intro v2 w H hnn; clear hnn; simp only [List.set_cons_zero] at H))
          go_roundw
          case rel => exact ⟨k + 1, by go_num, by omega, by rw [HSN.out.2, HSN.out.1, HYS.out, cellsOf_append]; exact H⟩
          case measure => simp [intOf]; omega
        · obtain rfl : k = ps.length := by omega
          rw [List.take_length] at H
          go_wp2
          go_ret
          exact ⟨_, rfl, H.retOwn 0 rfl (fun _ _ h => h), H.ext⟩
theorem crc_snoc (ps : List (Value × List Int)) {k : Nat} (hk : k < ps.length) (s : Int) : (ps.take (k + 1)).foldl (fun x p => crcMore x p.2) s = crcMore ((ps.take k).foldl (fun x p => crcMore x p.2) s) ps[k].2 := by
  rw [List.take_add_one, List.getElem?_eq_getElem hk, List.foldl_append]
  simp
def OfRel (ps : List (Value × List Int)) (w : World) (vs vi : Value) (wr : World) : Prop := ∃ k : Nat, vi = .int .i64 (k : Int) ∧ vs = .int .u32 ((ps.take k).foldl (fun x p => crcMore x p.2) 0) ∧ k ≤ ps.length ∧ wr = w
set_option maxRecDepth 100000 in
set_option maxHeartbeats 2000000 in
theorem crcOf_any (g : Nat) (ps : List (Value × List Int)) (w0 : World) (h : Parts w0 g ps) (hp : ps.length ≤ 1000) (hl : ∀ p ∈ ps, p.2.length ≤ 1000000) :
    Calls Tryd.prog 59 #[.slice (some ⟨g, 0, none⟩) ps.length ps.length] w0 fun e w' => e = .returned (.int .u32 (ps.foldl (fun x p => crcMore x p.2) 0)) ∧ w' = w0 := by
  have HP := Lib.hid h
  have HL := Lib.hid hl
  clear h hl
  go_enter Tryd.func59, Tryd.ntmps59
  go_wp2
  go_loopw [3, 8] (fun vs vi wr => OfRel ps w0 vs vi wr) (fun _ vi _ => ps.length - (intOf vi).toNat)
  case atStart => exact ⟨0, rfl, rfl, Nat.zero_le _, rfl⟩
  case round =>
    obtain ⟨k, rfl, rfl, hk, hwr⟩ := hrel
    replace hwr := hwr.symm
    subst hwr
    by_cases hkn : k < ps.length
    · have hki : (k : Int) < (ps.length : Int) := by omega
      obtain ⟨A, c, hc, hrd⟩ := HP.out.at_ hkn
      have hmem := List.getElem_mem hkn
      have hsn := crc_snoc ps hkn 0
      obtain ⟨s, hs⟩ : ∃ s, (ps.take k).foldl (fun x p => crcMore x p.2) 0 = s := ⟨_, rfl⟩
      have hmore := fun {W : World} (hr : RdS (encInt .u8) 1 W (.slice A ps[k].2.length c) ps[k].2) => crcMore_any s _ ps[k].2 W hr (HP.out.bytes _ hmem) (by have := HL.out _ hmem; omega)
      obtain ⟨ys, hys⟩ : ∃ ys, ps[k].2 = ys := ⟨_, rfl⟩
      rw [hys] at hc hrd hmore hsn
      rw [hs] at hsn ⊢
      have HSN := Lib.hid hsn
      clear hsn hys hs hmem
      go_wp2_with (first
        | (go_at_call 70; refine (hmore hrd).mono ?_; rintro e w9 ⟨rfl, hw9⟩; replace hw9 := hw9.symm; subst hw9))
      go_roundw
      case rel => exact ⟨k + 1, by go_num, by rw [HSN.out], by omega, rfl⟩
      case measure => simp [intOf]; omega
    · obtain rfl : k = ps.length := by omega
      have hq2 : ¬ ((ps.length : Int) < (ps.length : Int)) := by omega
      rw [List.take_length]
      go_wp2
      go_ret
      exact ⟨rfl, rfl⟩
end Go.Proofs.YtgmeahogdjhejaaDoor
