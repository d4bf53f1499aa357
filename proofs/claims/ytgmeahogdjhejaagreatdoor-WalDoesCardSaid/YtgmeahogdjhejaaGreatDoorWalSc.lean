/- The document's Int, four, Count. (Printed by genwal7.py, out of TabB and WalSc's own body.) -/
import Derived.Test.YtgmeahogdjhejaaGreatDoorWalSab
import Derived.ArgAppend
namespace Go.Proofs.YtgmeahogdjhejaaGreatDoor
set_option linter.unusedVariables false
set_option linter.unusedSimpArgs false
open Go.RowKit Go.Shelf

theorem r01_set (bs : List Int) (hl : bs.length = 8) (k : Nat) (hk : k < 8) {x : Int} (hx : bs[7 - k]? = some x) : (List.replicate (8 - k) (0 : Int) ++ bs.drop (8 - k)).set (7 - k) x = List.replicate (8 - (k + 1)) 0 ++ bs.drop (8 - (k + 1)) := by
  have h7 : 7 - k < bs.length := by omega
  rw [List.getElem?_eq_getElem h7] at hx
  cases Option.some.inj hx
  rw [show 8 - k = (7 - k) + 1 by omega, List.replicate_succ', List.append_assoc, List.set_append_right _ _ (by simp)]
  simp only [List.length_replicate, Nat.sub_self, List.cons_append, List.nil_append, List.set_cons_zero]
  rw [show 8 - (k + 1) = 7 - k by omega, List.drop_eq_getElem_cons h7]
def R01Rel (g : Nat) (m : Int) (bs : List Int) (w0 : World) (vu vi : Value) (wr : World) : Prop :=
  ∃ k : Nat, vi = .int .i64 (k : Int) ∧ vu = .int .u64 (m / 256 ^ k) ∧ k ≤ 8 ∧ SH (fun _ => False) w0 wr [pt g (.cells (bcells (List.replicate (8 - k) 0 ++ bs.drop (8 - k))) 5 (0, 0))]
theorem pow_step (m : Int) (h0 : 0 ≤ m) (k : Nat) : (m / 256 ^ k).tdiv 256 = m / 256 ^ (k + 1) := by
  rw [Int.tdiv_eq_ediv_of_nonneg (Int.ediv_nonneg h0 (Int.pow_nonneg (by decide))), Int.ediv_ediv_of_nonneg (Int.pow_nonneg (by decide)), Int.pow_succ]
theorem pow_wrap (m : Int) (h0 : 0 ≤ m) (h1 : m < 18446744073709551616) (k : Nat) : IntKind.u64.wrap (m / 256 ^ k) = m / 256 ^ k := by
  have h2 : 0 ≤ m / 256 ^ k := Int.ediv_nonneg h0 (Int.pow_nonneg (by decide))
  have h3 : m / 256 ^ k ≤ m := Int.ediv_le_self _ h0
  rw [IntKind.wrap_u64]
  exact Int.emod_eq_of_lt h2 (by omega)
theorem pow_bytes (m : Int) (k : Nat) (hk : k < 8) : m / 2 ^ (8 * (8 - 1 - (7 - k))) % 256 = m / 256 ^ k % 256 := by
  rw [show 8 * (8 - 1 - (7 - k)) = 8 * k by omega, Int.pow_mul]
  rfl
/-- Bytes in a row of one's own. -/
def OwnB (w : World) (xs : List Int) (e : Ending) (w' : World) : Prop := ∃ v, e = .returned v ∧ SH (fun _ => False) w w' [ownA 5 1 v xs.length (cellsOf (encInt .u8) xs)]
set_option maxRecDepth 100000 in
set_option maxHeartbeats 1000000 in
theorem r01Int_own (v : Value) (xs : List Int) (n : Int) (w0 : World) (hr : RdS (encInt .u8) 1 w0 v xs) (hl : xs.length ≤ 1000000000) :
    Calls Tryz.prog 80 #[v, .int .i64 n] w0 (OwnB w0 (xs ++ be8 n)) := by
  obtain ⟨i0, hi, hz, hsz, hby⟩ := info_parts info5
  have H : SH (fun _ => False) w0 w0 [] := SH.nil _ _
  obtain ⟨A, cap, rfl, hcap⟩ := hr.len
  obtain ⟨m, hm⟩ : ∃ m, n % 18446744073709551616 = m := ⟨_, rfl⟩
  have hm0 : 0 ≤ m := by omega
  have hm1 : m < 18446744073709551616 := by omega
  have hb8 := beN_eight n
  rw [hm] at hb8
  have hba := fun k (hk : k < 8) => beN_at m 8 (7 - k) (by omega)
  have hbl := beN_len m 8
  rw [← hb8]
  generalize beN m 8 = bs at *
  have hw : IntKind.u64.wrap n = m := by rw [IntKind.wrap_u64]; exact hm
  have HX := Lib.hid (And.intro hbl hba)
  clear hbl hba hb8 hm
  go_enter Tryz.func80, Tryz.ntmps80
  go_wp2_with (first
    | (refine L_make (n := 8) rfl rfl H Tryz.underlying22 hi hz rfl rfl (by rw [hby]; omega) (by simp only [maxLen]; omega) ?_; clear H; intro g w H; rw [hsz, made_bytes] at H))
  go_loopw [6, 7] (fun vu vi wr => R01Rel g m bs w0 vu vi wr) (fun _ vi _ => 8 - (intOf vi).toNat)
  case atStart =>
    refine ⟨0, rfl, by simp, Nat.zero_le _, ?_⟩
    rw [show bs.drop (8 - 0) = [] from List.drop_eq_nil_of_le (by rw [HX.out.1]; exact Nat.le_refl _), List.append_nil]
    exact H
  case round =>
    clear H
    obtain ⟨k, rfl, rfl, hk, H⟩ := hrel
    by_cases hkn : k < 8
    · have hki : (k : Int) < 8 := by omega
      have hst := pow_step m hm0 k
      have hwr := pow_wrap m hm0 hm1 (k + 1)
      have hset := r01_set bs HX.out.1 k hkn ((HX.out.2 k hkn).trans (by rw [pow_bytes m k hkn]))
      have hu0 : 0 ≤ m / 256 ^ k := Int.ediv_nonneg hm0 (Int.pow_nonneg (by decide))
      have hsz2 : 7 - k < (bcells (List.replicate (8 - k) (0 : Int) ++ bs.drop (8 - k))).size := by rw [bcells_size, List.length_append, List.length_replicate]; omega
      obtain ⟨u2, hu2⟩ : ∃ u2, m / 256 ^ (k + 1) = u2 := ⟨_, rfl⟩
      rw [hu2] at hst hwr
      generalize m / 256 ^ k = u1 at *
      have HS := Lib.hid (And.intro hset (And.intro hst hwr))
      have HU := Lib.hid hu2
      clear hu2
      clear hset hst hwr
      have hix : (7 : Int) - (k : Int) = ((7 - k : Nat) : Int) := by omega
      go_wp2_with (first | (refine L_store1 (off := 7 - k) rfl rfl H 0 rfl rfl rfl rfl rfl hsz2 Tryz.sizeOf5 ?_; clear H; intro w H; simp only [List.set_cons_zero, List.set_cons_succ, List.setIfInBounds_toArray, Act.eval, Array.getD_eq_getD_getElem?, List.getElem?_toArray, List.getElem?_cons_succ, List.getElem?_cons_zero, Option.getD_some] at H))
      rw [bcells_set, HS.out.1] at H
      go_roundw
      case rel => exact ⟨k + 1, by go_num, by rw [HS.out.2.1, HS.out.2.2, HU.out], by omega, H⟩
      case measure => simp [intOf]; omega
    · obtain rfl : k = 8 := by omega
      have h1 : ¬ ((8 : Nat) : Int) < 8 := by omega
      rw [Nat.sub_self, List.replicate_zero, List.nil_append, List.drop_zero] at H
      have hb1 : (0 + xs.length) * 1 ≤ 140737488355328 := by omega
      have hb2 : 0 + xs.length ≤ maxLen := by simp only [maxLen]; omega
      have hb3 : (xs.length + bs.length) * 1 ≤ 140737488355328 := by have := HX.out.1; omega
      have hb4 : xs.length + bs.length ≤ maxLen := by have := HX.out.1; simp only [maxLen]; omega
      go_wp2_with (first
        | (refine L_lit (e := 5) (cs := #[]) rfl rfl H (by intro _; first | (go_simp; done) | (go_simp; rfl)) ?_; clear H; intro g2 w H; replace H := H.toOwn 0 rfl 1 0 0 (Nat.le_refl _) (Nat.zero_le _) rfl [] rfl; simp only [List.set_cons_zero] at H)
        | (refine L_append (encInt_len .u8) (encInt_one .u8) rfl rfl Tryz.underlying22 info5 rfl (by decide) H 0 rfl rfl rfl (hr.keep H.ext) hb1 hb2 ?_; clear H; intro v2 w H hnn; clear hnn; simp only [List.set_cons_zero, List.nil_append, Nat.zero_add] at H)
        | (refine L_append (encInt_len .u8) (encInt_one .u8) rfl rfl Tryz.underlying22 info5 rfl (by decide) H 0 rfl rfl (xv := .slice (some ⟨g, 0, none⟩) 8 8) rfl (by have := bytesRd (H.at_ 1 rfl); rw [HX.out.1] at this; exact this) hb3 hb4 ?_; clear H; intro v3 w H hnn; clear hnn; simp only [List.set_cons_zero] at H))
      go_ret
      have H9 := H.drop (L' := [_]) (List.Sublist.cons_cons _ (List.nil_sublist _))
      rw [← cellsOf_append] at H9
      exact ⟨_, rfl, by rw [List.length_append]; exact H9⟩
/-- The first cells of what one owns, from some place on. -/
def partA (T : TypeId) (v : Value) (n : Nat) (xs : List Value) : Asr where
  fp := fun i => v.ownBlock = some i
  says := fun w => ∃ g off cap cs, v = .slice (some ⟨g, off, none⟩) n cap ∧ w.heap[g]? = some (.cells cs T (0, 0)) ∧ n = xs.length ∧ n ≤ cap ∧ off + cap ≤ cs.size ∧ ∀ j, j < n → cs[off + j]? = xs[j]?
  keep := fun w w' h ⟨g, off, cap, cs, hv, hg, r⟩ => ⟨g, off, cap, cs, hv, (h g (by rw [hv]; rfl)).trans hg, r⟩
theorem partA.rd {T : TypeId} {v : Value} {n : Nat} {xs : List Int} {w : World} (h : (partA T v n (cellsOf (encInt .u8) xs)).says w) : RdS (encInt .u8) 1 w v xs := by
  obtain ⟨g, off, cap, cs, rfl, hg, hn, hc, hs, hx⟩ := h
  rw [length_cellsOf (encInt_len .u8), Nat.mul_one] at hn
  subst hn
  refine ⟨_, cap, rfl, hc, .inr ⟨g, off, cs, T, _, rfl, hg, fun j hj i hi => ?_⟩⟩
  obtain rfl : i = 0 := by omega
  rw [Nat.mul_one, Nat.add_zero, hx j hj, cellsOf_int]
  simp [encInt, hj]
theorem partA.lt {T : TypeId} {v : Value} {n : Nat} {xs : List Value} {w : World} (h : (partA T v n xs).says w) {i : Nat} (hi : v.ownBlock = some i) : i < w.heap.size := by
  obtain ⟨g, off, cap, cs, rfl, hg, _⟩ := h
  cases hi
  exact blk_lt' hg
/-- A row of one's own from some cell on. -/
theorem SH.part {M : Nat → Prop} {w0 w : World} {L : List Asr} (H : SH M w0 w L) (k : Nat) {T : TypeId} {g n cap : Nat} {xs : List Value} (hA : L[k]? = some (ownA T 1 (.slice (some ⟨g, 0, none⟩) n cap) n xs)) (i : Nat) (hi : i ≤ n) :
    SH M w0 w (L.set k (partA T (.slice (some ⟨g, i, none⟩) (n - i) (cap - i)) (n - i) (xs.drop i))) := by
  refine H.upd k hA (Ext.refl _ _) ?_ (fun j hj => ?_)
  · obtain ⟨hl, ⟨h0, _⟩ | ⟨g', cap', cur, he, _, hg, hn, _, hs, ht⟩⟩ := H.get k hA
    · cases h0
    · cases he
      refine ⟨g, i, cap - i, cur, rfl, hg, by rw [List.length_drop]; omega, by omega, by omega, fun j hj => ?_⟩
      rw [List.getElem?_drop, ← ht, List.getElem?_take, if_pos (by omega), Array.getElem?_toList]
  · have hj' : some g = some j := hj
    cases hj'
    exact ⟨.inl rfl, H.lt _ (List.mem_of_getElem? hA) g rfl⟩
theorem setMany_get (vs : List Value) (s : Nat) (F : Array Value) (t : Nat) (h : s + vs.length ≤ F.size) : (Go.Sort.setMany F s vs)[t]? = if s ≤ t ∧ t < s + vs.length then vs[t - s]? else F[t]? := get_setMany vs s F t h
/-- 'append' behind what one owns from some cell on. -/
theorem L_appendP {P : Program} {ops : Array Oper} {Q : Exit → Act → World → Prop} {a : Act} {w w0 : World} {rest : List Oper} {o : Oper} {M : Nat → Prop} {L : List Asr}
    (hgd : o.guard = none) {s x : Operand} {t : TypeId} (ho : o.op = .call { callee := .builtin .append, args := #[s, x], argTypes := #[t, t] })
    {e : TypeId} {bytes : Nat} {z : Value} (ht : P.underlying t = some (.slice e)) (hinfo : (P.info? e).map (fun i => (i.zero, i.size, i.bytes)) = some (some z, 1, bytes)) (hzs : z.cells.size = 1) (H : SH M w0 w L) (i : Nat)
    {v : Value} {n : Nat} {xs : List Value} (hA : L[i]? = some (partA e v n xs)) (hs : a.eval s = v) {xv : Value} {ys : List Int} (hy0 : ys ≠ []) (hxv : a.eval x = xv) (hx : RdS (encInt .u8) 1 w xv ys) (hb : (n + ys.length) * bytes ≤ 140737488355328) (hn : n + ys.length ≤ maxLen)
    (kk : ∀ v' w', SH M w0 w' (L.set i (partA e v' (n + ys.length) (xs ++ cellsOf (encInt .u8) ys))) → wpList P ops Q rest (a.put o.dst v') w') : wpList P ops Q (o :: rest) a w := by
  obtain ⟨i0, hi0, hz0, hz1, hz2⟩ := info_parts hinfo
  have hlt := H.lt _ (List.mem_of_getElem? hA)
  have hsay := H.get i hA
  obtain ⟨g, off, cap, cs, rfl, hg, hnl, hnc, hoc, hcs⟩ := hsay
  obtain ⟨A, c, rfl, _⟩ := hx.len
  obtain ⟨ad, rfl, _, hnews⟩ := hx.news (encInt_len .u8) hy0
  have hlen : (cellsOf (encInt .u8) ys).length = ys.length * 1 := length_cellsOf (encInt_len .u8) ys
  have holds : ∀ j u, xs[j]? = some u → w.cell? ⟨g, off + j, none⟩ = some u := fun j u hu => by
    have hj : j < xs.length := (List.getElem?_eq_some_iff.1 hu).1
    rw [cell_of_row w g _ cs e _ hg, hcs j (by omega), hu]
  have hone : ∀ u ∈ cellsOf (encInt .u8) ys, u.oneCell' = true := fun u hu => by
    obtain ⟨y, _, hy⟩ := List.mem_flatMap.1 hu
    exact encInt_one .u8 y u hy
  refine wpList_append_arg w hgd s x t ho e i0 z 1 bytes ht hi0 hz0 hz1 hz2 hzs (by omega) g off n cap xs hs (by omega) holds ad ys.length c (cellsOf (encInt .u8) ys) hxv hlen hnews hone (fun hr j hj => ?_) hn hb (fun hr => ?_) (fun hr v' w' hown hgr => ?_)
  · rw [hlen] at hj
    have h1 : off + n * 1 + j < cs.size := by omega
    exact ⟨by rw [cell_of_row w g _ cs e _ hg, Array.getElem?_eq_getElem h1]; rfl, frozen_of_row w g _ cs e hg⟩
  · refine kk _ _ (H.upd i hA ((Ext.setCells g _ _ w).mono (fun j _ hj => by subst hj; rfl)) ?_ (fun j hj => ?_))
    · refine ⟨g, off, cap, _, rfl, setCells_heap g e _ _ w cs hg, by rw [List.length_append, hlen]; omega, hr, by simpa using hoc, fun j hj => ?_⟩
      rw [setMany_get _ _ _ _ (by rw [hlen]; omega), hlen]
      by_cases hjn : j < n
      · rw [if_neg (by omega), hcs j hjn, List.getElem?_append_left (by omega)]
      · rw [if_pos (by omega), List.getElem?_append_right (by omega)]
        congr 1
        omega
    · have hj' : some g = some j := hj
      cases hj'
      exact ⟨.inl rfl, Nat.lt_of_lt_of_le (blk_lt' hg) (Ext.setCells g _ _ w).size⟩
  · refine kk _ _ (H.upd i hA ((Ext.of_grown hgr).mono (fun j _ hj => by cases hj)) ?_ (fun j hj => ?_))
    · obtain ⟨hl, ⟨_, h0⟩ | ⟨g', cap', cur, rfl, _, hg', h1, _, h3, h4⟩⟩ := hown
      · exact absurd (List.eq_nil_of_length_eq_zero (by omega : ys.length = 0)) hy0
      · refine ⟨g', 0, cap', cur, rfl, hg', by omega, h1, by omega, fun j hj => ?_⟩
        rw [← h4, List.getElem?_take, if_pos (by omega), Array.getElem?_toList, Nat.zero_add]
    · have h9 := hown.lt j hj
      exact ⟨.inr h9.1, h9.2⟩
set_option maxRecDepth 100000 in
theorem four_any (n : Int) (w0 : World) : Calls Tryz.prog 63 #[.int .i64 n] w0 fun e w' => ∃ v, e = .returned v ∧ SH (fun _ => False) w0 w' [partA 5 v 4 (cellsOf (encInt .u8) (be4 n))] := by
  have hi := fun {w : World} => r01Int_own (.slice none 0 0) [] n w (RdS.nil _ _ _) (by simp)
  unfold OwnB at hi
  simp only [List.nil_append] at hi
  have hd : (cellsOf (encInt .u8) (be8 n)).drop 4 = cellsOf (encInt .u8) (be4 n) := rfl
  have hl8 : (be8 n).length = 8 := rfl
  rw [hl8] at hi
  generalize cellsOf (encInt .u8) (be8 n) = b8 at *
  generalize cellsOf (encInt .u8) (be4 n) = b4 at *
  have HD := Lib.hid hd
  clear hd hl8
  go_enter Tryz.func63, Tryz.ntmps63
  go_upto_region 1 with fail
  go_wp2_with (go_at_call 80; refine hi.mono ?_; rintro e w ⟨v, rfl, H⟩; obtain ⟨g, c, rfl, hc⟩ := own_some (H.get 0 rfl) (by omega); have hc4 : ¬ c = 4 := by omega)
  go_ret
  have H2 := H.part 0 rfl 4 (by omega)
  simp only [List.set_cons_zero] at H2
  rw [HD.out] at H2
  exact ⟨_, rfl, H2⟩
def CountRel (n : Nat) (w0 : World) (v3 : Value) (wr : World) : Prop := ∃ s : Nat, v3 = .int .i64 (s : Int) ∧ 1 ≤ s ∧ s ≤ countP n ∧ wr = w0
set_option maxRecDepth 100000 in
theorem refCount_any (n : Nat) (hn : n ≤ 65535) (w : World) : Calls Tryz.prog 55 #[.int .i64 (n : Int)] w fun e w' => e = .returned (.int .i64 (countP n : Int)) ∧ w' = w := by
  have h1 : ¬ (n : Int) < 0 := by omega
  have h2 : ¬ 65535 < (n : Int) := by omega
  have h3 : IntKind.i64.wrap ((n : Int) + 6) = (n : Int) + 6 := by rw [IntKind.wrap_i64]; omega
  have hc : countP n = (n + 5) / 24 + 1 := rfl
  have hc0 : 1 ≤ countP n := by omega
  obtain ⟨q, hq⟩ : ∃ q, countP n = q := ⟨_, rfl⟩
  have hst : CountRel n w (.int .i64 1) w := ⟨1, rfl, Nat.le_refl _, hc0, rfl⟩
  have HQ := Lib.hid (And.intro hq hc)
  rw [hq]
  clear hq hc hc0
  go_enter Tryz.func55, Tryz.ntmps55
  go_wp2_with fail
  go_loopw [3] (CountRel n w) (fun vi _ => 5000 - (intOf vi).toNat)
  case atStart => exact hst
  case round =>
    clear hst
    obtain ⟨s, rfl, hs1, hs2, rfl⟩ := hrel
    have hq9 := HQ.out.1
    have hc9 := HQ.out.2
    rw [hq9] at hs2 hc9
    have h4 : IntKind.i64.wrap (24 * (s : Int)) = 24 * (s : Int) := by rw [IntKind.wrap_i64]; omega
    have h5 : IntKind.i64.wrap ((s : Int) + 1) = ((s + 1 : Nat) : Int) := by rw [IntKind.wrap_i64]; omega
    by_cases hlt : 24 * (s : Int) < (n : Int) + 6
    · have hsq : s + 1 ≤ q := by omega
      clear hq9 hc9
      go_wp2_with fail
      go_roundw
      case rel => exact ⟨s + 1, rfl, by omega, by rw [HQ.out.1]; exact hsq, rfl⟩
      case measure => simp [intOf]; omega
    · obtain rfl : s = q := by omega
      clear hq9 hc9
      go_wp2_with fail
      go_ret
      exact ⟨rfl, rfl⟩
end Go.Proofs.YtgmeahogdjhejaaGreatDoor
