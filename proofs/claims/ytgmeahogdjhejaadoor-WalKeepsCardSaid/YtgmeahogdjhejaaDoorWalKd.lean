/- WalKeeps: words of its walk. -/
import Derived.Test.YtgmeahogdjhejaaDoorWalKc
import Derived.Test.YtgmeahogdjhejaaDoorWalDd
import Derived.Deep.RegionWith
namespace Go.Proofs.YtgmeahogdjhejaaDoor
set_option linter.unusedVariables false
set_option linter.unusedSimpArgs false
open Go.RowKit Go.Shelf

set_option maxHeartbeats 1000000 in
theorem few_c (v : Value) (xs : List Int) (k : Nat) (hk : k ≤ 1000) (w0 w : World) (hr : RdS (encInt .u8) 1 w0 v xs) : Calls Tryd.prog 15 #[v, .int .i64 (k : Int)] w fun e w' => (∃ A n c, e = .returned (.slice A n c) ∧ n = (xs.take k).length ∧ RdS (encInt .u8) 1 w0 (.slice A n c) (xs.take k)) ∧ w' = w := by
  obtain ⟨A, cap, rfl, hc⟩ := hr.len
  by_cases hl : k < xs.length
  · have hl' : (k : Int) < (xs.length : Int) := by omega
    obtain ⟨b, off, _, _, _, rfl, _, _⟩ := hr.cell (j := 0) (by omega)
    have hcc : k ≤ cap := by omega
    have hc0 : ¬ cap = 0 := by omega
    have h2 := sub_rd hr 0 k cap (by omega) hcc
    rw [List.drop_zero, Nat.add_zero] at h2
    have HR := Lib.hid h2
    clear hr h2
    go_enter Tryd.func15, Tryd.ntmps15
    go_wp2
    go_ret
    exact ⟨⟨_, _, _, rfl, by rw [List.length_take]; omega, by simpa using HR.out⟩, rfl⟩
  · have hl' : ¬ (k : Int) < (xs.length : Int) := by omega
    have HR := Lib.hid hr
    clear hr
    go_enter Tryd.func15, Tryd.ntmps15
    go_wp2
    go_ret
    exact ⟨⟨_, _, _, rfl, (by first | omega | (rw [List.length_take]; omega)), by rw [List.take_of_length_le (by omega)]; exact HR.out⟩, rfl⟩
theorem two_bytes {w : World} {g : Nat} {T : TypeId} {fr : Nat × Nat} {x y : Int} (h : w.heap[g]? = some (.cells #[.int .u8 x, .int .u8 y] T fr)) : RdS (encInt .u8) 1 w (.slice (some ⟨g, 0, none⟩) 2 2) [x, y] := by
  refine ⟨_, 2, rfl, Nat.le_refl _, .inr ⟨g, 0, _, T, fr, rfl, h, fun j hj i hi => ?_⟩⟩
  obtain rfl : i = 0 := by omega
  rcases (show j = 0 ∨ j = 1 by simp at hj; omega) with rfl | rfl <;> rfl
set_option maxRecDepth 100000 in
set_option maxHeartbeats 1000000 in
theorem tell_any (n : Nat) (hn : n < 256) (w : World) : Calls Tryd.prog 21 #[.int .i64 (n : Int)] w fun e w' => ∃ g, e = .returned (.slice (some ⟨g, 0, none⟩) 2 2) ∧ SH (fun _ => False) w w' [pt g (.cells #[.int .u8 0, .int .u8 (n : Int)] 5 (0, 0))] := by
  have H : SH (fun _ => False) w w [] := SH.nil _ _
  have h1 : (n : Int) / 256 = 0 := by omega
  have h2 : IntKind.u8.wrap (n : Int) = (n : Int) := by rw [IntKind.wrap_u8]; omega
  go_enter Tryd.func21, Tryd.ntmps21
  go_wp2_with (first | (refine L_lit (e := ?_) (cs := ?_) rfl rfl H ?_ ?_; rotate_left 2; (focus (intro _; first | (go_simp; done) | (go_simp; with_reducible rfl) | (go_simp; rfl))); all_goals skip; clear H; intro g w H; (try simp only [Act.put, List.setIfInBounds_toArray, List.set_cons_succ, List.set_cons_zero, List.getElem_toArray, List.getElem_cons_succ, List.getElem_cons_zero])))
  go_ret
  exact ⟨_, rfl, H⟩
theorem SH.jdiskAt {M : Nat → Prop} {w0 w : World} {L : List Asr} {b bs bm jb : Nat} {d : DS} {j : JS} (H : SH M w0 w L) (k : Nat) (hk : L[k]? = some (JD b bs bm jb d j)) {w' : World} {d' : DS} (he : Ext (DiskA b bs bm d).fp w w') (hs : (DiskA b bs bm d').says w') : SH M w0 w' (L.set k (JD b bs bm jb d' j)) := by
  have h0 := H.get k hk
  exact H.jd k hk (he.mono (fun i _ hi => .inl hi)) ⟨hs, he.keep h0.2.1 (fun h => h0.2.2 h), h0.2.2⟩
theorem L_loadDV {P : Program} {ops : Array Oper} {Q : Exit → Act → World → Prop} {a : Act} {w : World} {rest : List Oper} {o : Oper} (hgd : o.guard = none) {ty : TypeId} {x : Operand} (ho : o.op = .load ty x) {b off n cap : Nat} {xs : List DV} (hr : RdS dvCells 5 w (.slice (some ⟨b, off, none⟩) n cap) xs) {j : Nat} (hj : j < xs.length)
    (hx : a.eval x = .pointer (some ⟨b, off + j * 5, none⟩)) {s : DV} (hs : xs[j] = s) {d : TypeDesc} (hu : P.underlying ty = some d) (hd : d.isRow = true) (hi : (P.info? ty).map (·.size) = some 5)
    (k : wpList P ops Q rest (a.put o.dst (.agg #[.int .u8 s.2.kind, s.wv, .int .i64 s.2.x, .int .i64 s.2.y, .int .i64 s.2.z])) w) : wpList P ops Q (o :: rest) a w := by
  obtain ⟨b', off', cs, T, fr, he, hb, hcs⟩ := hr.cell hj
  cases he
  rw [hs] at hcs
  refine wpList_plain hgd fun K hK => ?_
  have hrun := R_loadmid (P := P) (a := a) ho hx hb hu hd hi (dvCells s) rfl hcs
  unfold Oper.wp
  rw [hrun]
  exact hK _ _ k
theorem info46 : (Tryd.prog.info? 46).map (·.size) = some 5 := by kernel_rfl
theorem one5 (a b c d e : Value) (ha : a.oneCell' = true) (hb : b.oneCell' = true) (hc : c.oneCell' = true) (hd : d.oneCell' = true) (he : e.oneCell' = true) : (#[a, b, c, d, e] : Array Value).all (·.oneCell') = true := by simp [ha, hb, hc, hd, he]
theorem K.facts {i : Nat} {d : DS} {j : JS} {wr : List (List Int)} {sure : Nat} (h : K i d j wr sure) : ∃ W, d.Fine W ∧ W ≤ 1000000 ∧ d.sure.length = 60 ∧ j.Ok d.sure.length := by
  obtain ⟨S, V, W, e, q0, fr, p, bs, c, hv, hW, _⟩ := h.body
  have := h.i60
  exact ⟨W, hv.fine, by omega, hv.len, by rw [hv.len]; exact h.ok⟩
theorem addr_add0 (a : Addr) : a.add 0 = a := by cases a; rfl
/-- A part of a row that is read. -/
theorem sub_rows {α : Type} {enc : α → List Value} {w : World} {A : Option Addr} {n cap : Nat} {xs : List α} (h : RdS enc 1 w (.slice A n cap) xs) (i m : Nat) (him : i ≤ m) (hm : m ≤ xs.length) :
    RdS enc 1 w (.slice (if cap = i then A else A.map (·.add i)) (m - i) (cap - i)) ((xs.drop i).take (m - i)) := by
  have hl : ((xs.drop i).take (m - i)).length = m - i := by rw [List.length_take, List.length_drop]; omega
  obtain ⟨A', cc, he, hc, hh⟩ := h
  cases he
  refine ⟨_, _, by rw [hl], by rw [hl]; omega, ?_⟩
  rcases hh with hh | ⟨b, o, cs, T, fr, hA, hb, hcs⟩
  · left; simp [hh]
  · by_cases he : cap = i
    · left
      rw [← List.length_eq_zero_iff, hl]
      omega
    · right
      rw [if_neg he]
      subst hA
      refine ⟨b, o + i, cs, T, fr, by simp [Addr.add_mid], hb, fun j hj k hk => ?_⟩
      rw [hl] at hj
      rw [List.getElem_take, List.getElem_drop, ← hcs (i + j) (by omega) k hk]
      congr 1
      omega
theorem tell_cells {w : World} {v : Value} {n : Nat} (h : RdS (encInt .u8) 1 w v (tellN n)) : ∃ bv ov cs, v = .slice (some ⟨bv, ov, none⟩) 2 cs ∧ w.cell? ⟨bv, ov, none⟩ = some (.int .u8 0) ∧ w.cell? ⟨bv, ov + 1, none⟩ = some (.int .u8 (n : Int)) := by
  obtain ⟨A, c, rfl, _⟩ := h.len
  obtain ⟨bv, ov, rfl, hc⟩ := byte_cell h (j := 0) (by rw [tell_len]; omega)
  exact ⟨bv, ov, c, rfl, hc 0 (by rw [tell_len]; omega), hc 1 (by rw [tell_len]; omega)⟩
end Go.Proofs.YtgmeahogdjhejaaDoor
