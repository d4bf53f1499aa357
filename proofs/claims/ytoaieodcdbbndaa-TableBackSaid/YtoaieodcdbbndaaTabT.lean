/- The document's Decode walked. (Printed by gentabt.py.) -/
import Derived.Test.YtoaieodcdbbndaaTabS
namespace Go.Proofs.Ytoaieodcdbbndaa
set_option linter.unusedVariables false
set_option linter.unusedSimpArgs false
open Go.RowKit

theorem L_convBytes {P : Program} {w w0 : World} {M : Nat → Prop} {L : List Asr} {a : Act} {ops : Array Oper} {rest : List Oper} {o : Oper} {Q : Exit → Act → World → Prop} (hgd : o.guard = none) {src dst e : TypeId} {x : Operand} (ho : o.op = .convert src dst x) (H : SH M w0 w L) {ys : List Int} (hx : a.eval x = .string (strOfNums ys)) (hb : ∀ y ∈ ys, 0 ≤ y ∧ y ≤ 255)
    (hs : P.underlying src = some .string) (hd : P.underlying dst = some (.slice e)) (he : P.underlying e = some (.int .u8))
    (k : ∀ A c w', SH M w0 w' (bytesA [(.slice A ys.length c, ys)] :: L) → wpList P ops Q rest (a.put o.dst (.slice A ys.length c)) w') : wpList P ops Q (o :: rest) a w :=
  wpList_plain hgd fun K hK => W_convBytes ho H hx hb hs hd he (fun A c w' H' _ => hK _ _ (k A c w' H'))
theorem AtR.bytes {xs : List Int} {a : Int} {rd : Rd} (h : AtR xs a rd) (hx : ∀ x ∈ xs, 0 ≤ x ∧ x ≤ 255) : ∀ l, rd = some l → ∀ x ∈ l, 0 ≤ x ∧ x ≤ 255 := by
  rcases h with ⟨_, rfl⟩ | ⟨k, _, _, rfl⟩
  · intro l hl; cases hl
  · intro l hl x hx2; cases hl; exact hx x (List.mem_of_mem_drop hx2)
theorem AtR.atEnd {xs : List Int} {a : Int} {rd : Rd} (h : AtR xs a rd) (he : a = (xs.length : Int)) : rd = some [] := by
  rcases h with ⟨rfl, rfl⟩ | ⟨k, rfl, hk, rfl⟩
  · omega
  · rw [List.drop_of_length_le (by omega)]
theorem AtR.notEnd {xs : List Int} {a : Int} {rd : Rd} (h : AtR xs a rd) (he : a ≠ (xs.length : Int)) : rd ≠ some [] := by
  rcases h with ⟨rfl, rfl⟩ | ⟨k, rfl, hk, rfl⟩
  · simp
  · intro h
    have h1 := congrArg List.length (Option.some.inj h)
    rw [List.length_drop] at h1
    simp at h1
    omega
theorem rdBlk_none : (rdBlk none).2 = none := rfl
theorem rdBlks_none : ∀ n, (rdBlks n none).2 = none
  | 0 => rfl
  | n + 1 => by rw [rdBlks_succ, rdBlks_none n]; rfl
def RDecRel (xs : List Int) (n g4 g2 : Nat) (n1 n2 n3 n4 n5 n6 : Int) (r7 : Rd) (w0 : World) (va vi : Value) (wr : World) : Prop :=
  ∃ (j : Nat) (a : Int) (bv : Value) (ps : List BV) (rd : Rd) (by_ : List (Value × List Int)), va = .int .i64 a ∧ AtR xs a rd ∧ vi = .int .i64 (j : Int) ∧ ps.length = j ∧ j ≤ n ∧ rdBlks j r7 = (ps.map (·.2), rd) ∧ (∀ p ∈ ps, (p.wv, p.2.wrap) ∈ by_ ∧ p.2.Fit) ∧
    SH (fun _ => False) w0 wr [pt g4 (.cells #[.int .i64 n1, .int .i64 n2, .int .i64 n3, .int .i64 n4, .int .i64 n5, .int .i64 n6, bv] 24 (0, 0)), pt g2 (.cells #[.int .i64 0, .int .i64 0, .int .i64 0, .int .i64 0, .int .i64 0, .int .i64 0, .slice none 0 0] 24 (0, 0)), ownA 45 6 bv j (cellsOf bvCells ps), bytesA by_]
theorem one6z : (#[Value.int .i64 0, .int .i64 0, .int .i64 0, .int .i64 0, .int .i64 0, .slice none 0 0] : Array Value).all (·.oneCell') = true := by simp [Value.oneCell']
theorem oneBV3 {w : World} {g : Nat} {T : TypeId} {fr : Nat × Nat} {id bgen at_ size ep : Int} {WA : Option Addr} {n wc : Nat} {wrap : List Int} (hn : wrap.length = n) (h : w.heap[g]? = some (.cells #[.int .i64 id, .int .i64 bgen, .int .i64 at_, .int .i64 size, .int .i64 ep, .slice WA n wc] T fr)) : RdS bvCells 6 w (.slice (some ⟨g, 0, none⟩) 1 1) [((WA, wc), ⟨id, bgen, at_, size, ep, wrap⟩)] := by
  subst hn
  exact oneBV (p := ((WA, wc), ⟨id, bgen, at_, size, ep, wrap⟩)) h
/-- What a call of Number answers. -/
def NumK (xs : List Int) (n : Int) (r : Rd) (W : World) (e : Ending) (w' : World) : Prop := ∃ a, e = .returned (.tuple #[.int .i64 n, .int .i64 a]) ∧ AtR xs a r ∧ w' = W
def WordK (xs : List Int) (f : List Int) (r : Rd) (W : World) (e : Ending) (w' : World) : Prop := ∃ a, e = .returned (.tuple #[.string (strOfNums f), .int .i64 a]) ∧ AtR xs a r ∧ Ext0 W w'
set_option maxRecDepth 100000 in
set_option maxHeartbeats 4000000 in
theorem refDecode_any (v : Value) (xs : List Int) (w0 : World) (hv : RdS (encInt .u8) 1 w0 v xs) (hx : ∀ x ∈ xs, 0 ≤ x ∧ x ≤ 255) (hl : xs.length ≤ 1000000) :
    Calls Try.prog 20 #[v] w0 (DecE w0 xs) := by
  have H : SH (fun _ => False) w0 w0 [] := SH.nil _ _
  have hnum : ∀ (rd : Rd) (n : Int) (r : Rd) (_ : rdN rd = (n, r)) (W : World) (a : Int), Ext0 w0 W → AtR xs a rd → Calls Try.prog 45 #[v, .int .i64 a] W (NumK xs n r W) := fun rd n r hr W a hE ha => by
    have := number_any v xs a rd W (hv.keep hE) hx hl ha
    unfold NumE at this
    rw [hr] at this
    exact this
  have hword : ∀ (rd : Rd) (f : List Int) (r : Rd) (_ : rdW 72 rd = (f, r)) (W : World) (a : Int), Ext0 w0 W → AtR xs a rd → Calls Try.prog 46 #[v, .int .i64 a, .int .i64 72] W (WordK xs f r W) := fun rd f r hr W a hE ha => by
    have := word_any v xs a rd W (hv.keep hE) hx hl ha
    unfold WordE at this
    rw [hr] at this
    exact this
  obtain ⟨n1, r1, h1⟩ : ∃ x y, rdN (some xs) = (x, y) := ⟨_, _, rfl⟩
  have hN1 := fun {W : World} {a : Int} => hnum (some xs) n1 r1 h1 W a
  obtain ⟨n2, r2, h2⟩ : ∃ x y, rdN r1 = (x, y) := ⟨_, _, rfl⟩
  have hN2 := fun {W : World} {a : Int} => hnum r1 n2 r2 h2 W a
  obtain ⟨n3, r3, h3⟩ : ∃ x y, rdN r2 = (x, y) := ⟨_, _, rfl⟩
  have hN3 := fun {W : World} {a : Int} => hnum r2 n3 r3 h3 W a
  obtain ⟨n4, r4, h4⟩ : ∃ x y, rdN r3 = (x, y) := ⟨_, _, rfl⟩
  have hN4 := fun {W : World} {a : Int} => hnum r3 n4 r4 h4 W a
  obtain ⟨n5, r5, h5⟩ : ∃ x y, rdN r4 = (x, y) := ⟨_, _, rfl⟩
  have hN5 := fun {W : World} {a : Int} => hnum r4 n5 r5 h5 W a
  obtain ⟨n6, r6, h6⟩ : ∃ x y, rdN r5 = (x, y) := ⟨_, _, rfl⟩
  have hN6 := fun {W : World} {a : Int} => hnum r5 n6 r6 h6 W a
  obtain ⟨n7, r7, h7⟩ : ∃ x y, rdN r6 = (x, y) := ⟨_, _, rfl⟩
  have hN7 := fun {W : World} {a : Int} => hnum r6 n7 r7 h7 W a
  have hdec : decTab xs = if n7 < 0 ∨ 12 < n7 then none else if (rdBlks n7.toNat r7).2 = some [] ∧ encTab ⟨n1, n2, n3, n4, n5, n6, (rdBlks n7.toNat r7).1⟩ = xs then some ⟨n1, n2, n3, n4, n5, n6, (rdBlks n7.toNat r7).1⟩ else none := by
    unfold decTab
    simp only [h1, h2, h3, h4, h5, h6, h7]
  clear h1 h2 h3 h4 h5 h6 h7
  have ha : AtR xs 0 (some xs) := .inr ⟨0, rfl, Nat.zero_le _, by simp⟩
  have HV := Lib.hid (And.intro hv (And.intro hx hl))
  have HD := Lib.hid hdec
  have hz : decTab xs = none → decR xs = (zeroT, 12) := fun h => by unfold decR; rw [h]
  have hso : ∀ t, decTab xs = some t → decR xs = (t, 0) := fun t h => by unfold decR; rw [h]
  have HZ := Lib.hid (And.intro hz hso)
  have HNUM := Lib.hid hnum
  have HWORD := Lib.hid hword
  obtain ⟨A, cap, rfl, _⟩ := hv.len
  clear hv hx hl hdec hz hso hnum hword
  go_enter Try.func20, Try.ntmps20
  go_upto_region 1 with (first
    | (refine L_alloc rfl rfl H Try.zeroValue24 ?_; clear H; intro g2 w H; simp only [Value.cells] at H))
  go_upto_region 9 with (first
    | (refine L_alloc rfl rfl H Try.zeroValue24 ?_; clear H; intro g4 w H; simp only [Value.cells] at H)
    | (go_at_call 45; refine (hN1 H.ext ha).mono ?_; clear ha; rintro e w9 ⟨a, rfl, ha, rfl⟩)
    | (go_at_call 45; refine (hN2 H.ext ha).mono ?_; clear ha; rintro e w9 ⟨a, rfl, ha, rfl⟩)
    | (go_at_call 45; refine (hN3 H.ext ha).mono ?_; clear ha; rintro e w9 ⟨a, rfl, ha, rfl⟩)
    | (go_at_call 45; refine (hN4 H.ext ha).mono ?_; clear ha; rintro e w9 ⟨a, rfl, ha, rfl⟩)
    | (go_at_call 45; refine (hN5 H.ext ha).mono ?_; clear ha; rintro e w9 ⟨a, rfl, ha, rfl⟩)
    | (go_at_call 45; refine (hN6 H.ext ha).mono ?_; clear ha; rintro e w9 ⟨a, rfl, ha, rfl⟩)
    | (go_at_call 45; refine (hN7 H.ext ha).mono ?_; clear ha; rintro e w9 ⟨a, rfl, ha, rfl⟩)
    | (refine L_store1 rfl rfl H 0 rfl rfl rfl rfl rfl (Nat.le_of_ble_eq_true rfl) Try.sizeOf3 ?_; clear H; intro w H; simp only [List.set_cons_zero, List.set_cons_succ, List.setIfInBounds_toArray, Act.eval, Array.getD_eq_getD_getElem?, List.getElem?_toArray, List.getElem?_cons_succ, List.getElem?_cons_zero, Option.getD_some] at H; (try simp only [Act.put, List.setIfInBounds_toArray, List.set_cons_succ, List.set_cons_zero, List.getElem_toArray, List.getElem_cons_succ, List.getElem_cons_zero])) | (refine L_storerow rfl rfl H 0 rfl rfl rfl info24 ?hn ?ho ?h1 ?_; (case hn => first | rfl | assumption); (case ho => first | rfl | assumption); (case h1 => first | assumption | exact one7 _ _ _ _ _ _ | rfl); clear H; intro w H; simp only [List.set_cons_zero, List.set_cons_succ, List.setIfInBounds_toArray, Act.eval, Array.getD_eq_getD_getElem?, List.getElem?_toArray, List.getElem?_cons_succ, List.getElem?_cons_zero, Option.getD_some] at H; (try simp only [Act.put, List.setIfInBounds_toArray, List.set_cons_succ, List.set_cons_zero, List.getElem_toArray, List.getElem_cons_succ, List.getElem_cons_zero])))
  clear hN1 hN2 hN3 hN4 hN5 hN6 hN7
  have hnone : r7 = none → decR xs = (zeroT, 12) := fun hr => HZ.out.1 (by
    rw [HD.out]
    split
    · rfl
    · rw [if_neg (by rintro ⟨h1, _⟩; rw [hr, rdBlks_none] at h1; cases h1)])
  rcases ha with ⟨rfl, hr7⟩ | ⟨k, rfl, hk, hr7⟩
  · have HRES := Lib.hid (hnone hr7)
    clear hnone hr7
    go_wp2_with (first | (refine L_storerow rfl rfl H 0 rfl rfl rfl info24 ?hn ?ho ?h1 ?_; (case hn => first | rfl | assumption); (case ho => first | rfl | assumption); (case h1 => first | assumption | exact one7 _ _ _ _ _ _ | rfl); clear H; intro w H; simp only [List.set_cons_zero, List.set_cons_succ, List.setIfInBounds_toArray, Act.eval, Array.getD_eq_getD_getElem?, List.getElem?_toArray, List.getElem?_cons_succ, List.getElem?_cons_zero, Option.getD_some] at H; (try simp only [Act.put, List.setIfInBounds_toArray, List.set_cons_succ, List.set_cons_zero, List.getElem_toArray, List.getElem_cons_succ, List.getElem_cons_zero])) | (refine L_storerow rfl rfl H 1 rfl rfl rfl info24 ?hn ?ho ?h1 ?_; (case hn => first | rfl | assumption); (case ho => first | rfl | assumption); (case h1 => first | assumption | exact one7 _ _ _ _ _ _ | rfl); clear H; intro w H; simp only [List.set_cons_zero, List.set_cons_succ, List.setIfInBounds_toArray, Act.eval, Array.getD_eq_getD_getElem?, List.getElem?_toArray, List.getElem?_cons_succ, List.getElem?_cons_zero, Option.getD_some] at H; (try simp only [Act.put, List.setIfInBounds_toArray, List.set_cons_succ, List.set_cons_zero, List.getElem_toArray, List.getElem_cons_succ, List.getElem_cons_zero])) | (refine L_storerow rfl rfl H 2 rfl rfl rfl info24 ?hn ?ho ?h1 ?_; (case hn => first | rfl | assumption); (case ho => first | rfl | assumption); (case h1 => first | assumption | exact one7 _ _ _ _ _ _ | rfl); clear H; intro w H; simp only [List.set_cons_zero, List.set_cons_succ, List.setIfInBounds_toArray, Act.eval, Array.getD_eq_getD_getElem?, List.getElem?_toArray, List.getElem?_cons_succ, List.getElem?_cons_zero, Option.getD_some] at H; (try simp only [Act.put, List.setIfInBounds_toArray, List.set_cons_succ, List.set_cons_zero, List.getElem_toArray, List.getElem_cons_succ, List.getElem_cons_zero])))
    (try simp only [Exit.inBlock, Exit.then])
    exact L_retrow2 (p := 2) (q := 3) (n := 7) rfl H 1 rfl rfl Try.underlying24 rfl info24 rfl rfl (v := .int .i64 12) rfl (DecE_none HRES.out H.ext)
  clear hnone
  have hk0 : ¬ (k : Int) < 0 := by omega
  by_cases hbad : n7 < 0 ∨ 12 < n7
  · have hres := HZ.out.1 (by rw [HD.out, if_pos hbad])
    have HRES := Lib.hid hres
    clear hres hk hr7
    rcases hbad with hb | hb
    · go_wp2_with (first | (refine L_storerow rfl rfl H 0 rfl rfl rfl info24 ?hn ?ho ?h1 ?_; (case hn => first | rfl | assumption); (case ho => first | rfl | assumption); (case h1 => first | assumption | exact one7 _ _ _ _ _ _ | rfl); clear H; intro w H; simp only [List.set_cons_zero, List.set_cons_succ, List.setIfInBounds_toArray, Act.eval, Array.getD_eq_getD_getElem?, List.getElem?_toArray, List.getElem?_cons_succ, List.getElem?_cons_zero, Option.getD_some] at H; (try simp only [Act.put, List.setIfInBounds_toArray, List.set_cons_succ, List.set_cons_zero, List.getElem_toArray, List.getElem_cons_succ, List.getElem_cons_zero])) | (refine L_storerow rfl rfl H 1 rfl rfl rfl info24 ?hn ?ho ?h1 ?_; (case hn => first | rfl | assumption); (case ho => first | rfl | assumption); (case h1 => first | assumption | exact one7 _ _ _ _ _ _ | rfl); clear H; intro w H; simp only [List.set_cons_zero, List.set_cons_succ, List.setIfInBounds_toArray, Act.eval, Array.getD_eq_getD_getElem?, List.getElem?_toArray, List.getElem?_cons_succ, List.getElem?_cons_zero, Option.getD_some] at H; (try simp only [Act.put, List.setIfInBounds_toArray, List.set_cons_succ, List.set_cons_zero, List.getElem_toArray, List.getElem_cons_succ, List.getElem_cons_zero])) | (refine L_storerow rfl rfl H 2 rfl rfl rfl info24 ?hn ?ho ?h1 ?_; (case hn => first | rfl | assumption); (case ho => first | rfl | assumption); (case h1 => first | assumption | exact one7 _ _ _ _ _ _ | rfl); clear H; intro w H; simp only [List.set_cons_zero, List.set_cons_succ, List.setIfInBounds_toArray, Act.eval, Array.getD_eq_getD_getElem?, List.getElem?_toArray, List.getElem?_cons_succ, List.getElem?_cons_zero, Option.getD_some] at H; (try simp only [Act.put, List.setIfInBounds_toArray, List.set_cons_succ, List.set_cons_zero, List.getElem_toArray, List.getElem_cons_succ, List.getElem_cons_zero])))
      (try simp only [Exit.inBlock, Exit.then])
      exact L_retrow2 (p := 2) (q := 3) (n := 7) rfl H 1 rfl rfl Try.underlying24 rfl info24 rfl rfl (v := .int .i64 12) rfl (DecE_none HRES.out H.ext)
    · have hb2 : ¬ n7 < 0 := by omega
      go_wp2_with (first | (refine L_storerow rfl rfl H 0 rfl rfl rfl info24 ?hn ?ho ?h1 ?_; (case hn => first | rfl | assumption); (case ho => first | rfl | assumption); (case h1 => first | assumption | exact one7 _ _ _ _ _ _ | rfl); clear H; intro w H; simp only [List.set_cons_zero, List.set_cons_succ, List.setIfInBounds_toArray, Act.eval, Array.getD_eq_getD_getElem?, List.getElem?_toArray, List.getElem?_cons_succ, List.getElem?_cons_zero, Option.getD_some] at H; (try simp only [Act.put, List.setIfInBounds_toArray, List.set_cons_succ, List.set_cons_zero, List.getElem_toArray, List.getElem_cons_succ, List.getElem_cons_zero])) | (refine L_storerow rfl rfl H 1 rfl rfl rfl info24 ?hn ?ho ?h1 ?_; (case hn => first | rfl | assumption); (case ho => first | rfl | assumption); (case h1 => first | assumption | exact one7 _ _ _ _ _ _ | rfl); clear H; intro w H; simp only [List.set_cons_zero, List.set_cons_succ, List.setIfInBounds_toArray, Act.eval, Array.getD_eq_getD_getElem?, List.getElem?_toArray, List.getElem?_cons_succ, List.getElem?_cons_zero, Option.getD_some] at H; (try simp only [Act.put, List.setIfInBounds_toArray, List.set_cons_succ, List.set_cons_zero, List.getElem_toArray, List.getElem_cons_succ, List.getElem_cons_zero])) | (refine L_storerow rfl rfl H 2 rfl rfl rfl info24 ?hn ?ho ?h1 ?_; (case hn => first | rfl | assumption); (case ho => first | rfl | assumption); (case h1 => first | assumption | exact one7 _ _ _ _ _ _ | rfl); clear H; intro w H; simp only [List.set_cons_zero, List.set_cons_succ, List.setIfInBounds_toArray, Act.eval, Array.getD_eq_getD_getElem?, List.getElem?_toArray, List.getElem?_cons_succ, List.getElem?_cons_zero, Option.getD_some] at H; (try simp only [Act.put, List.setIfInBounds_toArray, List.set_cons_succ, List.set_cons_zero, List.getElem_toArray, List.getElem_cons_succ, List.getElem_cons_zero])))
      (try simp only [Exit.inBlock, Exit.then])
      exact L_retrow2 (p := 2) (q := 3) (n := 7) rfl H 1 rfl rfl Try.underlying24 rfl info24 rfl rfl (v := .int .i64 12) rfl (DecE_none HRES.out H.ext)
  have ha : AtR xs (k : Int) r7 := .inr ⟨k, rfl, hk, hr7⟩
  clear hk hr7
  have hdec := HD.out
  rw [if_neg hbad] at hdec
  clear HD
  obtain ⟨n, rfl⟩ := Int.eq_ofNat_of_zero_le (show 0 ≤ n7 by omega)
  have hn12 : n ≤ 12 := by omega
  have hA : ¬ (n : Int) < 0 := by omega
  have hB : ¬ 12 < (n : Int) := by omega
  rw [Int.toNat_natCast] at hdec
  have HD := Lib.hid hdec
  clear hdec hbad
  have H2 := (H.addEmpty (ownA 45 6 (.slice none 0 0) 0 (cellsOf bvCells [])) (World.ownsRow_nil _ _ _ _) (fun i h => by cases h)).addEmpty (bytesA []) (fun p hp => by cases hp) (fun i ⟨p, hp, _⟩ => by cases hp)
  clear H
  simp only [List.cons_append, List.nil_append] at H2
  go_wp2_with fail
  go_loopw [5, 7] (fun va vi wr => RDecRel xs n g4 g2 n1 n2 n3 n4 n5 n6 r7 w0 va vi wr) (fun _ vi _ => n - (intOf vi).toNat)
  case atStart => exact ⟨0, _, .slice none 0 0, [], r7, [], rfl, ha, rfl, rfl, by omega, rfl, by simp, H2⟩
  case round =>
    clear H2 hA hB ha hk0
    obtain ⟨j, a, bv, ps, rd, by_, rfl, ha, rfl, hpl, hj12, hrb, hfp, H⟩ := hrel
    by_cases hjn : j < n
    · have hji : (j : Int) < (n : Int) := by omega
      obtain ⟨b1, q1, hq1⟩ : ∃ x y, rdN rd = (x, y) := ⟨_, _, rfl⟩
      have hI1 := fun {W : World} {a : Int} => HNUM.out rd b1 q1 hq1 W a
      obtain ⟨b2, q2, hq2⟩ : ∃ x y, rdN q1 = (x, y) := ⟨_, _, rfl⟩
      have hI2 := fun {W : World} {a : Int} => HNUM.out q1 b2 q2 hq2 W a
      obtain ⟨b3, q3, hq3⟩ : ∃ x y, rdN q2 = (x, y) := ⟨_, _, rfl⟩
      have hI3 := fun {W : World} {a : Int} => HNUM.out q2 b3 q3 hq3 W a
      obtain ⟨b4, q4, hq4⟩ : ∃ x y, rdN q3 = (x, y) := ⟨_, _, rfl⟩
      have hI4 := fun {W : World} {a : Int} => HNUM.out q3 b4 q4 hq4 W a
      obtain ⟨b5, q5, hq5⟩ : ∃ x y, rdN q4 = (x, y) := ⟨_, _, rfl⟩
      have hI5 := fun {W : World} {a : Int} => HNUM.out q4 b5 q5 hq5 W a
      obtain ⟨f, q6, hq6⟩ : ∃ x y, rdW 72 q5 = (x, y) := ⟨_, _, rfl⟩
      have hT := fun {W : World} {a : Int} => HWORD.out q5 f q6 hq6 W a
      have hblk : rdBlk rd = (⟨b1, b2, b3, b4, b5, f⟩, q6) := by
        unfold rdBlk
        simp only [hq1, hq2, hq3, hq4, hq5, hq6]
      have hrb2 : rdBlks (j + 1) r7 = (ps.map (·.2) ++ [⟨b1, b2, b3, b4, b5, f⟩], q6) := by
        rw [rdBlks_succ, hrb, hblk]
      have HRB := Lib.hid hrb2
      have HFP := Lib.hid hfp
      have HQ6 := Lib.hid hq6
      have hb1' : (j + 1) * 64 ≤ 140737488355328 := by omega
      have hb2' : j + 1 ≤ maxLen := by simp only [maxLen]; omega
      clear hrb hblk hrb2 hfp hq1 hq2 hq3 hq4 hq5 hq6
      go_upto_region 20 with (first
        | (refine L_alloc rfl rfl H Try.zeroValue45 ?_; clear H; intro g8 w H; simp only [Value.cells] at H)
        | (go_at_call 45; refine (hI1 H.ext ha).mono ?_; clear ha; rintro e w9 ⟨a, rfl, ha, rfl⟩)
        | (go_at_call 45; refine (hI2 H.ext ha).mono ?_; clear ha; rintro e w9 ⟨a, rfl, ha, rfl⟩)
        | (go_at_call 45; refine (hI3 H.ext ha).mono ?_; clear ha; rintro e w9 ⟨a, rfl, ha, rfl⟩)
        | (go_at_call 45; refine (hI4 H.ext ha).mono ?_; clear ha; rintro e w9 ⟨a, rfl, ha, rfl⟩)
        | (go_at_call 45; refine (hI5 H.ext ha).mono ?_; clear ha; rintro e w9 ⟨a, rfl, ha, rfl⟩)
        | (refine L_store1 rfl rfl H 0 rfl rfl rfl rfl rfl (Nat.le_of_ble_eq_true rfl) Try.sizeOf3 ?_; clear H; intro w H; simp only [List.set_cons_zero, List.set_cons_succ, List.setIfInBounds_toArray, Act.eval, Array.getD_eq_getD_getElem?, List.getElem?_toArray, List.getElem?_cons_succ, List.getElem?_cons_zero, Option.getD_some] at H; (try simp only [Act.put, List.setIfInBounds_toArray, List.set_cons_succ, List.set_cons_zero, List.getElem_toArray, List.getElem_cons_succ, List.getElem_cons_zero])) | (refine L_storerow rfl rfl H 0 rfl rfl rfl info45 ?hn ?ho ?h1 ?_; (case hn => first | rfl | assumption); (case ho => first | rfl | assumption); (case h1 => first | assumption | exact one6z | rfl); clear H; intro w H; simp only [List.set_cons_zero, List.set_cons_succ, List.setIfInBounds_toArray, Act.eval, Array.getD_eq_getD_getElem?, List.getElem?_toArray, List.getElem?_cons_succ, List.getElem?_cons_zero, Option.getD_some] at H; (try simp only [Act.put, List.setIfInBounds_toArray, List.set_cons_succ, List.set_cons_zero, List.getElem_toArray, List.getElem_cons_succ, List.getElem_cons_zero])))
      have hfit : f.length ≤ 72 ∧ ∀ x ∈ f, 0 ≤ x ∧ x ≤ 255 := by
        have := rdW_fit (rd := q5) (ha.bytes HV.out.2.1)
        rw [HQ6.out] at this
        exact this
      have HFIT := Lib.hid hfit
      clear hfit
      clear hI1 hI2 hI3 hI4 hI5
      go_wp2_with (first
        | (go_at_call 46; refine (hT H.ext ha).mono ?_; clear ha; rintro e w9 ⟨a, rfl, ha, hE⟩; replace H := H.calls hE; clear hE)
        | (refine L_convBytes (ys := f) rfl rfl H rfl HFIT.out.2 Try.underlying9 Try.underlying34 Try.underlying5 ?_; clear H; intro WA wc w H; (try simp only [Act.put, List.setIfInBounds_toArray, List.set_cons_succ, List.set_cons_zero, List.getElem_toArray, List.getElem_cons_succ, List.getElem_cons_zero]))
        | (refine L_store1 rfl rfl H 1 rfl rfl rfl rfl rfl (Nat.le_of_ble_eq_true rfl) Try.sizeOf34 ?_; clear H; intro w H; simp only [List.set_cons_zero, List.set_cons_succ, List.setIfInBounds_toArray, Act.eval, Array.getD_eq_getD_getElem?, List.getElem?_toArray, List.getElem?_cons_succ, List.getElem?_cons_zero, Option.getD_some] at H; (try simp only [Act.put, List.setIfInBounds_toArray, List.set_cons_succ, List.set_cons_zero, List.getElem_toArray, List.getElem_cons_succ, List.getElem_cons_zero]))
        | (refine L_load1 rfl rfl H 2 rfl rfl rfl Try.isAgg22 ?_; (try simp only [Act.put, List.setIfInBounds_toArray, List.set_cons_succ, List.set_cons_zero, List.getElem_toArray, List.getElem_cons_succ, List.getElem_cons_zero]))
        | (refine L_loadrow rfl rfl H 1 rfl rfl Try.underlying45 rfl info45 rfl ?_; (try simp only [Act.put, List.setIfInBounds_toArray, List.set_cons_succ, List.set_cons_zero, List.getElem_toArray, List.getElem_cons_succ, List.getElem_cons_zero]))
        | (refine L_litE (e := 45) (cs := ?_) rfl rfl H ?_ ?_; rotate_left; (focus (intro _; first | (go_simp; done) | (go_simp; rfl))); all_goals skip; clear H; intro gl w H hE; clear hE; have hu := oneBV3 (id := b1) (bgen := b2) (at_ := b3) (size := b4) (ep := b5) (WA := WA) (wc := wc) (wrap := f) rfl (H.at_ 0 rfl))
        | (refine L_append bvLen bvOne (xv := .slice (some ⟨gl, 0, none⟩) 1 1) (ys := [((WA, wc), ⟨b1, b2, b3, b4, b5, f⟩)]) rfl rfl Try.underlying22 infoBZ rfl (by decide) H 5 rfl rfl rfl hu hb1' hb2' ?_; clear H hu; intro v2 w H hnn; clear hnn; simp only [List.set_cons_zero, List.set_cons_succ] at H; obtain ⟨gn, cn, rfl⟩ := own_form (H.get 5 rfl) (by simp))
        | (refine L_store1 rfl rfl H 3 rfl rfl rfl rfl rfl (Nat.le_of_ble_eq_true rfl) Try.sizeOf22 ?_; clear H; intro w H; simp only [List.set_cons_zero, List.set_cons_succ, List.setIfInBounds_toArray, Act.eval, Array.getD_eq_getD_getElem?, List.getElem?_toArray, List.getElem?_cons_succ, List.getElem?_cons_zero, Option.getD_some] at H; (try simp only [Act.put, List.setIfInBounds_toArray, List.set_cons_succ, List.set_cons_zero, List.getElem_toArray, List.getElem_cons_succ, List.getElem_cons_zero])))
      have H9 := H.drop (L' := [_, _, _, _, _]) (List.Sublist.cons _ (List.Sublist.cons_cons _ (List.Sublist.cons _ (List.Sublist.refl _))))
      clear H
      have H := SH.mergeBA (L1 := [_, _, _]) H9
      clear H9
      simp only [List.cons_append, List.nil_append] at H
      go_roundw
      case rel =>
        refine ⟨j + 1, _, _, ps ++ [((WA, wc), ⟨b1, b2, b3, b4, b5, f⟩)], q6, _, rfl, ha, by go_num, by simp [hpl], by omega, by rw [HRB.out, List.map_append]; rfl, ?_, by rw [cellsOf_append]; exact H⟩
        intro p hp
        rcases List.mem_append.1 hp with hp | hp
        · exact ⟨List.mem_cons_of_mem _ (HFP.out p hp).1, (HFP.out p hp).2⟩
        · rw [List.mem_singleton.1 hp]
          exact ⟨by simp [BV.wv], by have := HFIT.out.1; show f.length ≤ 1000; omega, HFIT.out.2⟩
      case measure => simp [intOf]; omega
    · obtain ⟨Abv, cbv, rfl⟩ := own_slice (H.get 2 rfl)
      obtain rfl : j = n := by omega
      have hjn2 : ¬ ((j : Int) < (j : Int)) := by omega
      have hdec := HD.out
      rw [hrb] at hdec
      dsimp only at hdec
      have hfit : ∀ b ∈ ps.map (·.2), Blk.Fit b := fun b hb => by obtain ⟨p, hp, rfl⟩ := List.mem_map.1 hb; exact (hfp p hp).2
      have HFP := Lib.hid hfp
      have HPL := Lib.hid hpl
      have HFIT := Lib.hid hfit
      by_cases hae : a = (xs.length : Int)
      · have hrd := ha.atEnd hae
        subst hae
        have henc := fun {W : World} (hb : BsR W (.slice Abv j cbv) ps) => refEncode_any ⟨n1, n2, n3, n4, n5, n6, ps.map (·.2)⟩ _ ps W rfl hb (by omega) hfit
        simp only [tabV] at henc
        have hetb := encTab_bytes (t := ⟨n1, n2, n3, n4, n5, n6, ps.map (·.2)⟩) hfit
        obtain ⟨et, het⟩ : ∃ et, encTab ⟨n1, n2, n3, n4, n5, n6, ps.map (·.2)⟩ = et := ⟨_, rfl⟩
        rw [het] at hdec henc hetb
        have hcv1 := fun {W : World} {u : Value} (h1 : RdS (encInt .u8) 1 W u et) => run_string (src := 34) (dst := 9) h1 Try.underlying34 Try.underlying5 Try.underlying9
        have hcv2 := fun {W : World} {u : Value} (h1 : RdS (encInt .u8) 1 W u xs) => run_string (src := 34) (dst := 9) h1 Try.underlying34 Try.underlying5 Try.underlying9
        by_cases hq : et = xs
        · have hres := HZ.out.2 _ (by rw [hdec, if_pos ⟨hrd, hq⟩])
          have HRES := Lib.hid hres
          rw [hq] at henc hcv1
          generalize strOfNums xs = sx at hcv1 hcv2
          clear hres hdec hq hetb het ha hrd hfit hpl hfp hrb
          go_wp2_with fail
          refine D_start H (by kernel_rfl) (fun hS => ?_)
          try simp only [Act.put, List.setIfInBounds_toArray, List.set_cons_succ, List.set_cons_zero]
          refine D_take 0 (v := ?_) rfl (by kernel_rfl) (by kernel_rfl) (by kernel_rfl) (fun _ _ _ h => h) rfl (by rfl) (fun W hS => ?_) hS ?_
          rotate_left; (focus (first | (go_simp; done) | (go_simp; with_reducible rfl) | (go_simp; rfl))); all_goals skip; (try simp only [List.set_cons_succ, List.set_cons_zero])
          refine D_take 1 (v := ?_) rfl (by kernel_rfl) (by kernel_rfl) (by kernel_rfl) (fun _ _ _ h => h) rfl (by rfl) (fun W hS => ?_) hS ?_
          rotate_left; (focus (first | (go_simp; done) | (go_simp; with_reducible rfl) | (go_simp; rfl))); all_goals skip; (try simp only [List.set_cons_succ, List.set_cons_zero])
          refine D_take 2 (v := ?_) rfl (by kernel_rfl) (by kernel_rfl) (by kernel_rfl) (fun _ _ _ h => h) rfl (by rfl) (fun W hS => ?_) hS ?_
          rotate_left; (focus (first | (go_simp; done) | (go_simp; with_reducible rfl) | (go_simp; rfl))); all_goals skip; (try simp only [List.set_cons_succ, List.set_cons_zero])
          refine D_take 3 (v := ?_) rfl (by kernel_rfl) (by kernel_rfl) (by kernel_rfl) (fun _ _ _ h => h) rfl (by rfl) (fun W hS => ?_) hS ?_
          rotate_left; (focus (first | (go_simp; done) | (go_simp; with_reducible rfl) | (go_simp; rfl))); all_goals skip; (try simp only [List.set_cons_succ, List.set_cons_zero])
          refine D_take 4 (v := ?_) rfl (by kernel_rfl) (by kernel_rfl) (by kernel_rfl) (fun _ _ _ h => h) rfl (by rfl) (fun W hS => ?_) hS ?_
          rotate_left; (focus (first | (go_simp; done) | (go_simp; with_reducible rfl) | (go_simp; rfl))); all_goals skip; (try simp only [List.set_cons_succ, List.set_cons_zero])
          refine D_take 5 (v := (.agg #[.int .i64 n1, .int .i64 n2, .int .i64 n3, .int .i64 n4, .int .i64 n5, .int .i64 n6, .slice Abv j cbv])) rfl (by kernel_rfl) (by kernel_rfl) (by kernel_rfl) (fun _ _ _ h => h) rfl (by rfl) (fun W hS => R_loadrow (ty := 24) (x := .tmp 4) rfl hS 0 rfl rfl Try.underlying24 rfl info24 rfl) hS ?_; (try simp only [List.set_cons_succ, List.set_cons_zero])
          refine D_take 8 (v := ?_) rfl (by kernel_rfl) (by kernel_rfl) (by kernel_rfl) (fun _ _ _ h => h) rfl (by rfl) (fun W hS => ?_) hS ?_
          rotate_left; (focus (first | (go_simp; done) | (go_simp; with_reducible rfl) | (go_simp; rfl))); all_goals skip; (try simp only [List.set_cons_succ, List.set_cons_zero])
          refine D_take 9 (v := (.string sx)) rfl (by kernel_rfl) (by kernel_rfl) (by kernel_rfl) (fun _ _ _ h => h) rfl (by rfl) (fun W hS => R_convert (src := 34) (dst := 9) (x := .tmp 134) rfl rfl (hcv2 (HV.out.1.keep hS.ext))) hS ?_; (try simp only [List.set_cons_succ, List.set_cons_zero])
          refine D_one 6 rfl (by kernel_rfl) (by rfl) ?_
          refine R_call (f := 18) (args := #[.agg #[.int .i64 n1, .int .i64 n2, .int .i64 n3, .int .i64 n4, .int .i64 n5, .int .i64 n6, .slice Abv j cbv]]) (by first | (go_simp; done) | (go_simp; rfl)) (henc ⟨RdS.own bvLen HPL.out.symm (hS.get 2 rfl), fun p hp => hS.get 3 (A := bytesA by_) rfl _ (HFP.out p hp).1⟩) ?_
          rintro e w ⟨v2, rfl, hv2, hE⟩
          have hS2 := hS.calls hE
          clear hS
          have hS := hS2
          clear hS2 hE
          refine ⟨_, rfl, hS, ?_⟩
          try simp only [Act.put, List.getElem_toArray, List.getElem_cons_succ, List.getElem_cons_zero, List.setIfInBounds_toArray, List.set_cons_succ, List.set_cons_zero]
          refine D_one 7 rfl (by kernel_rfl) (by rfl) ?_
          refine wp_of_value (v := .string sx) (R_convert (src := 34) (dst := 9) (x := .tmp 132) rfl rfl (hcv1 hv2)) ⟨hS, ?_⟩
          try simp only [Act.put, List.getElem_toArray, List.getElem_cons_succ, List.getElem_cons_zero, List.setIfInBounds_toArray, List.set_cons_succ, List.set_cons_zero]
          refine D_take 10 (v := (.bool false)) rfl (by kernel_rfl) (by kernel_rfl) (by kernel_rfl) (fun _ _ _ h => h) rfl (by rfl) (fun W hS => by first | (go_simp; done) | (go_simp; rfl)) hS ?_; (try simp only [List.set_cons_succ, List.set_cons_zero])
          refine D_take 11 (v := ?_) rfl (by kernel_rfl) (by kernel_rfl) (by kernel_rfl) (fun _ _ _ h => h) rfl (by rfl) (fun W hS => ?_) hS ?_
          rotate_left; (focus (first | (go_simp; done) | (go_simp; with_reducible rfl) | (go_simp; rfl))); all_goals skip; (try simp only [List.set_cons_succ, List.set_cons_zero])
          refine wpAnyH_done (by kernel_rfl) ?_ _
          clear H
          have H := hS
          clear hS
          go_wp2_with (first
            | (refine L_loadrow rfl rfl H 0 rfl rfl Try.underlying24 rfl info24 rfl ?_; (try simp only [Act.put, List.setIfInBounds_toArray, List.set_cons_succ, List.set_cons_zero, List.getElem_toArray, List.getElem_cons_succ, List.getElem_cons_zero]))
            | (refine L_storerow rfl rfl H 1 rfl rfl rfl info24 rfl rfl (one7s _ _ _ _ _ _ _ _ _) ?_; clear H; intro w H; simp only [List.set_cons_zero, List.set_cons_succ, List.setIfInBounds_toArray, Act.eval, Array.getD_eq_getD_getElem?, List.getElem?_toArray, List.getElem?_cons_succ, List.getElem?_cons_zero, Option.getD_some] at H; (try simp only [Act.put, List.setIfInBounds_toArray, List.set_cons_succ, List.set_cons_zero, List.getElem_toArray, List.getElem_cons_succ, List.getElem_cons_zero])))
          (try simp only [Exit.inBlock, Exit.then])
          refine L_retrow2 (p := 2) (q := 3) (n := 7) rfl H 1 rfl rfl Try.underlying24 rfl info24 rfl rfl (v := .int .i64 0) rfl ?_
          unfold DecE
          rw [HRES.out]
          exact ⟨.slice Abv j cbv, ps, rfl, rfl, ⟨RdS.own bvLen HPL.out.symm (H.get 2 rfl), fun p hp => H.get 3 (A := bytesA by_) rfl _ (HFP.out p hp).1⟩, by have := HPL.out; omega, HFIT.out, H.ext⟩
        · have hres := HZ.out.1 (by rw [hdec, if_neg (fun h => hq h.2)])
          have HRES := Lib.hid hres
          have hne : ((strOfNums et).toList == (strOfNums xs).toList) = false := by
            have : (strOfNums et).toList ≠ (strOfNums xs).toList := fun h => hq (str_inj hetb HV.out.2.1 h)
            simpa using this
          generalize strOfNums xs = sx at hcv2 hne
          generalize strOfNums et = se at hcv1 hne
          clear hres hdec hq hetb het ha hrd hfit hpl hfp hrb
          go_wp2_with fail
          refine D_start H (by kernel_rfl) (fun hS => ?_)
          try simp only [Act.put, List.setIfInBounds_toArray, List.set_cons_succ, List.set_cons_zero]
          refine D_take 0 (v := ?_) rfl (by kernel_rfl) (by kernel_rfl) (by kernel_rfl) (fun _ _ _ h => h) rfl (by rfl) (fun W hS => ?_) hS ?_
          rotate_left; (focus (first | (go_simp; done) | (go_simp; with_reducible rfl) | (go_simp; rfl))); all_goals skip; (try simp only [List.set_cons_succ, List.set_cons_zero])
          refine D_take 1 (v := ?_) rfl (by kernel_rfl) (by kernel_rfl) (by kernel_rfl) (fun _ _ _ h => h) rfl (by rfl) (fun W hS => ?_) hS ?_
          rotate_left; (focus (first | (go_simp; done) | (go_simp; with_reducible rfl) | (go_simp; rfl))); all_goals skip; (try simp only [List.set_cons_succ, List.set_cons_zero])
          refine D_take 2 (v := ?_) rfl (by kernel_rfl) (by kernel_rfl) (by kernel_rfl) (fun _ _ _ h => h) rfl (by rfl) (fun W hS => ?_) hS ?_
          rotate_left; (focus (first | (go_simp; done) | (go_simp; with_reducible rfl) | (go_simp; rfl))); all_goals skip; (try simp only [List.set_cons_succ, List.set_cons_zero])
          refine D_take 3 (v := ?_) rfl (by kernel_rfl) (by kernel_rfl) (by kernel_rfl) (fun _ _ _ h => h) rfl (by rfl) (fun W hS => ?_) hS ?_
          rotate_left; (focus (first | (go_simp; done) | (go_simp; with_reducible rfl) | (go_simp; rfl))); all_goals skip; (try simp only [List.set_cons_succ, List.set_cons_zero])
          refine D_take 4 (v := ?_) rfl (by kernel_rfl) (by kernel_rfl) (by kernel_rfl) (fun _ _ _ h => h) rfl (by rfl) (fun W hS => ?_) hS ?_
          rotate_left; (focus (first | (go_simp; done) | (go_simp; with_reducible rfl) | (go_simp; rfl))); all_goals skip; (try simp only [List.set_cons_succ, List.set_cons_zero])
          refine D_take 5 (v := (.agg #[.int .i64 n1, .int .i64 n2, .int .i64 n3, .int .i64 n4, .int .i64 n5, .int .i64 n6, .slice Abv j cbv])) rfl (by kernel_rfl) (by kernel_rfl) (by kernel_rfl) (fun _ _ _ h => h) rfl (by rfl) (fun W hS => R_loadrow (ty := 24) (x := .tmp 4) rfl hS 0 rfl rfl Try.underlying24 rfl info24 rfl) hS ?_; (try simp only [List.set_cons_succ, List.set_cons_zero])
          refine D_take 8 (v := ?_) rfl (by kernel_rfl) (by kernel_rfl) (by kernel_rfl) (fun _ _ _ h => h) rfl (by rfl) (fun W hS => ?_) hS ?_
          rotate_left; (focus (first | (go_simp; done) | (go_simp; with_reducible rfl) | (go_simp; rfl))); all_goals skip; (try simp only [List.set_cons_succ, List.set_cons_zero])
          refine D_take 9 (v := (.string sx)) rfl (by kernel_rfl) (by kernel_rfl) (by kernel_rfl) (fun _ _ _ h => h) rfl (by rfl) (fun W hS => R_convert (src := 34) (dst := 9) (x := .tmp 134) rfl rfl (hcv2 (HV.out.1.keep hS.ext))) hS ?_; (try simp only [List.set_cons_succ, List.set_cons_zero])
          refine D_one 6 rfl (by kernel_rfl) (by rfl) ?_
          refine R_call (f := 18) (args := #[.agg #[.int .i64 n1, .int .i64 n2, .int .i64 n3, .int .i64 n4, .int .i64 n5, .int .i64 n6, .slice Abv j cbv]]) (by first | (go_simp; done) | (go_simp; rfl)) (henc ⟨RdS.own bvLen HPL.out.symm (hS.get 2 rfl), fun p hp => hS.get 3 (A := bytesA by_) rfl _ (HFP.out p hp).1⟩) ?_
          rintro e w ⟨v2, rfl, hv2, hE⟩
          have hS2 := hS.calls hE
          clear hS
          have hS := hS2
          clear hS2 hE
          refine ⟨_, rfl, hS, ?_⟩
          try simp only [Act.put, List.getElem_toArray, List.getElem_cons_succ, List.getElem_cons_zero, List.setIfInBounds_toArray, List.set_cons_succ, List.set_cons_zero]
          refine D_one 7 rfl (by kernel_rfl) (by rfl) ?_
          refine wp_of_value (v := .string se) (R_convert (src := 34) (dst := 9) (x := .tmp 132) rfl rfl (hcv1 hv2)) ⟨hS, ?_⟩
          try simp only [Act.put, List.getElem_toArray, List.getElem_cons_succ, List.getElem_cons_zero, List.setIfInBounds_toArray, List.set_cons_succ, List.set_cons_zero]
          refine D_take 10 (v := (.bool true)) rfl (by kernel_rfl) (by kernel_rfl) (by kernel_rfl) (fun _ _ _ h => h) rfl (by rfl) (fun W hS => by first | (go_simp; done) | (go_simp; rfl)) hS ?_; (try simp only [List.set_cons_succ, List.set_cons_zero])
          refine D_take 11 (v := ?_) rfl (by kernel_rfl) (by kernel_rfl) (by kernel_rfl) (fun _ _ _ h => h) rfl (by rfl) (fun W hS => ?_) hS ?_
          rotate_left; (focus (first | (go_simp; done) | (go_simp; with_reducible rfl) | (go_simp; rfl))); all_goals skip; (try simp only [List.set_cons_succ, List.set_cons_zero])
          refine wpAnyH_done (by kernel_rfl) ?_ _
          clear H
          have H := hS
          clear hS
          go_wp2_with (first
            | (refine L_storerow rfl rfl H 0 rfl rfl rfl info24 ?hn ?ho ?h1 ?_; (case hn => first | rfl | assumption); (case ho => first | rfl | assumption); (case h1 => first | assumption | exact one7 _ _ _ _ _ _ | rfl); clear H; intro w H; simp only [List.set_cons_zero, List.set_cons_succ, List.setIfInBounds_toArray, Act.eval, Array.getD_eq_getD_getElem?, List.getElem?_toArray, List.getElem?_cons_succ, List.getElem?_cons_zero, Option.getD_some] at H; (try simp only [Act.put, List.setIfInBounds_toArray, List.set_cons_succ, List.set_cons_zero, List.getElem_toArray, List.getElem_cons_succ, List.getElem_cons_zero])) | (refine L_storerow rfl rfl H 1 rfl rfl rfl info24 ?hn ?ho ?h1 ?_; (case hn => first | rfl | assumption); (case ho => first | rfl | assumption); (case h1 => first | assumption | exact one7 _ _ _ _ _ _ | rfl); clear H; intro w H; simp only [List.set_cons_zero, List.set_cons_succ, List.setIfInBounds_toArray, Act.eval, Array.getD_eq_getD_getElem?, List.getElem?_toArray, List.getElem?_cons_succ, List.getElem?_cons_zero, Option.getD_some] at H; (try simp only [Act.put, List.setIfInBounds_toArray, List.set_cons_succ, List.set_cons_zero, List.getElem_toArray, List.getElem_cons_succ, List.getElem_cons_zero])))
          (try simp only [Exit.inBlock, Exit.then])
          exact L_retrow2 (p := 2) (q := 3) (n := 7) rfl H 1 rfl rfl Try.underlying24 rfl info24 rfl rfl (v := .int .i64 12) rfl (DecE_none HRES.out H.ext)
      · have hrd := ha.notEnd hae
        have hres := HZ.out.1 (by rw [hdec, if_neg (fun h => hrd h.1)])
        have HRES := Lib.hid hres
        have hae2 : (a == (xs.length : Int)) = false := by simp [hae]
        clear hres hdec ha hrd hfit hpl hfp hrb
        go_wp2_with fail
        refine D_start H (by kernel_rfl) (fun hS => ?_)
        try simp only [Act.put, List.setIfInBounds_toArray, List.set_cons_succ, List.set_cons_zero]
        refine D_take 0 (v := ?_) rfl (by kernel_rfl) (by kernel_rfl) (by kernel_rfl) (fun _ _ _ h => h) rfl (by rfl) (fun W hS => ?_) hS ?_
        rotate_left; (focus (first | (go_simp; done) | (go_simp; with_reducible rfl) | (go_simp; rfl))); all_goals skip; (try simp only [List.set_cons_succ, List.set_cons_zero])
        refine D_take 1 (v := ?_) rfl (by kernel_rfl) (by kernel_rfl) (by kernel_rfl) (fun _ _ _ h => h) rfl (by rfl) (fun W hS => ?_) hS ?_
        rotate_left; (focus (first | (go_simp; done) | (go_simp; with_reducible rfl) | (go_simp; rfl))); all_goals skip; (try simp only [List.set_cons_succ, List.set_cons_zero])
        refine D_take 2 (v := ?_) rfl (by kernel_rfl) (by kernel_rfl) (by kernel_rfl) (fun _ _ _ h => h) rfl (by rfl) (fun W hS => ?_) hS ?_
        rotate_left; (focus (first | (go_simp; done) | (go_simp; with_reducible rfl) | (go_simp; rfl))); all_goals skip; (try simp only [List.set_cons_succ, List.set_cons_zero])
        refine D_take 3 (v := (.bool true)) rfl (by kernel_rfl) (by kernel_rfl) (by kernel_rfl) (fun _ _ _ h => h) rfl (by rfl) (fun W hS => by first | (go_simp; done) | (go_simp; rfl)) hS ?_; (try simp only [List.set_cons_succ, List.set_cons_zero])
        refine D_take 4 (v := ?_) rfl (by kernel_rfl) (by kernel_rfl) (by kernel_rfl) (fun _ _ _ h => h) rfl (by rfl) (fun W hS => ?_) hS ?_
        rotate_left; (focus (first | (go_simp; done) | (go_simp; with_reducible rfl) | (go_simp; rfl))); all_goals skip; (try simp only [List.set_cons_succ, List.set_cons_zero])
        refine D_skip 5 rfl (by kernel_rfl) (by kernel_rfl) (by kernel_rfl) (fun _ _ _ h => h) rfl (by rfl) hS ?_; (try simp only [List.set_cons_succ, List.set_cons_zero])
        refine D_skip 6 rfl (by kernel_rfl) (by kernel_rfl) (by kernel_rfl) (fun _ _ _ h => h) rfl (by rfl) hS ?_; (try simp only [List.set_cons_succ, List.set_cons_zero])
        refine D_skip 7 rfl (by kernel_rfl) (by kernel_rfl) (by kernel_rfl) (fun _ _ _ h => h) rfl (by rfl) hS ?_; (try simp only [List.set_cons_succ, List.set_cons_zero])
        refine D_skip 8 rfl (by kernel_rfl) (by kernel_rfl) (by kernel_rfl) (fun _ _ _ h => h) rfl (by rfl) hS ?_; (try simp only [List.set_cons_succ, List.set_cons_zero])
        refine D_skip 9 rfl (by kernel_rfl) (by kernel_rfl) (by kernel_rfl) (fun _ _ _ h => h) rfl (by rfl) hS ?_; (try simp only [List.set_cons_succ, List.set_cons_zero])
        refine D_skip 10 rfl (by kernel_rfl) (by kernel_rfl) (by kernel_rfl) (fun _ _ _ h => h) rfl (by rfl) hS ?_; (try simp only [List.set_cons_succ, List.set_cons_zero])
        refine D_take 11 (v := ?_) rfl (by kernel_rfl) (by kernel_rfl) (by kernel_rfl) (fun _ _ _ h => h) rfl (by rfl) (fun W hS => ?_) hS ?_
        rotate_left; (focus (first | (go_simp; done) | (go_simp; with_reducible rfl) | (go_simp; rfl))); all_goals skip; (try simp only [List.set_cons_succ, List.set_cons_zero])
        refine wpAnyH_done (by kernel_rfl) ?_ _
        clear H
        have H := hS
        clear hS
        go_wp2_with (first
          | (refine L_storerow rfl rfl H 0 rfl rfl rfl info24 ?hn ?ho ?h1 ?_; (case hn => first | rfl | assumption); (case ho => first | rfl | assumption); (case h1 => first | assumption | exact one7 _ _ _ _ _ _ | rfl); clear H; intro w H; simp only [List.set_cons_zero, List.set_cons_succ, List.setIfInBounds_toArray, Act.eval, Array.getD_eq_getD_getElem?, List.getElem?_toArray, List.getElem?_cons_succ, List.getElem?_cons_zero, Option.getD_some] at H; (try simp only [Act.put, List.setIfInBounds_toArray, List.set_cons_succ, List.set_cons_zero, List.getElem_toArray, List.getElem_cons_succ, List.getElem_cons_zero])) | (refine L_storerow rfl rfl H 1 rfl rfl rfl info24 ?hn ?ho ?h1 ?_; (case hn => first | rfl | assumption); (case ho => first | rfl | assumption); (case h1 => first | assumption | exact one7 _ _ _ _ _ _ | rfl); clear H; intro w H; simp only [List.set_cons_zero, List.set_cons_succ, List.setIfInBounds_toArray, Act.eval, Array.getD_eq_getD_getElem?, List.getElem?_toArray, List.getElem?_cons_succ, List.getElem?_cons_zero, Option.getD_some] at H; (try simp only [Act.put, List.setIfInBounds_toArray, List.set_cons_succ, List.set_cons_zero, List.getElem_toArray, List.getElem_cons_succ, List.getElem_cons_zero])))
        (try simp only [Exit.inBlock, Exit.then])
        exact L_retrow2 (p := 2) (q := 3) (n := 7) rfl H 1 rfl rfl Try.underlying24 rfl info24 rfl rfl (v := .int .i64 12) rfl (DecE_none HRES.out H.ext)
end Go.Proofs.Ytoaieodcdbbndaa

