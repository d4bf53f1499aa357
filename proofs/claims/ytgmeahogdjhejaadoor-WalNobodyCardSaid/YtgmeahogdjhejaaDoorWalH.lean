/- sheet.Lay. -/
import Derived.Test.YtgmeahogdjhejaaDoorWalG
import Derived.Deep.CutRange
import Derived.Deep.CutBlock
namespace Go.Proofs.YtgmeahogdjhejaaDoor
set_option linter.unusedVariables false
set_option linter.unusedSimpArgs false
open Go.RowKit Go.Shelf
attribute [local go_sem] Oper.semAt_some

theorem own_slice {w : World} {base : Nat} {T : TypeId} {k : Nat} {v : Value} {n : Nat} {xs : List Value} (h : w.ownsRow base T k v n xs) : ∃ A c, v = .slice A n c := by
  rcases h.2 with ⟨h1, h2⟩ | ⟨g, c, cur, h1, _⟩
  · exact ⟨none, 0, by rw [h1, h2]⟩
  · exact ⟨_, c, h1⟩
theorem own_rd {w : World} {base : Nat} {T : TypeId} {v : Value} {n : Nat} {ys : List Int} (h : w.ownsRow base T 1 v n (cellsOf (encInt .u8) ys)) (hn : n = ys.length) : RdS (encInt .u8) 1 w v ys := RdS.own (encInt_len .u8) hn h
theorem zB_cells (k : Nat) : cellsOf (encInt .u8) (List.replicate k 0) = zB k := by rw [cellsOf_int]; simp [zB]
theorem RdS.putObj {α : Type} {enc : α → List Value} {k : Nat} {w : World} {v : Value} {xs : List α} (h : RdS enc k w v xs) {D : Nat} {o : Obj} (hK : w.heap[D]? = some o) (hc : o.isCells = false) (o' : Obj) : RdS enc k (w.putObj D o') v xs := by
  obtain ⟨A, cap, rfl, hcap, h | ⟨b, off, cs, T, fr, rfl, hb, hcs⟩⟩ := h
  · exact ⟨A, cap, rfl, hcap, .inl h⟩
  · refine ⟨_, cap, rfl, hcap, .inr ⟨b, off, cs, T, fr, rfl, (World.putObj_heap_other (fun e => ?_)).trans hb, hcs⟩⟩
    rw [e, hK] at hb
    cases hb
    cases hc
theorem ext_putObj {w0 w : World} (h : Ext0 w0 w) {D : Nat} (hD : w0.heap.size ≤ D) (o' : Obj) : Ext0 w0 (w.putObj D o') :=
  h.trans (Ext.of_grown (grownBy_putObj' w D o')) (fun i hi e => by cases e; omega)
theorem clipB_any (v : Value) (xs : List Int) (w : World) (hr : RdS (encInt .u8) 1 w v xs) : Calls Tryd.prog 52 #[v] w (GivesB w xs) := by
  obtain ⟨A, cap, rfl, hcap, h⟩ := hr
  have hci : (xs.length : Int) ≤ (cap : Int) := by omega
  obtain ⟨n, hn⟩ : ∃ n, xs.length = n := ⟨_, rfl⟩
  rw [hn] at hci ⊢
  have HH := Lib.hid (And.intro h hn)
  clear h hn hcap
  go_enter Tryd.func52, Tryd.ntmps52
  go_wp2
  go_ret
  exact ⟨_, rfl, ⟨_, _, by rw [HH.out.2]; rfl, by rw [HH.out.2]; exact Nat.le_refl _, HH.out.1⟩, Ext.refl _ _⟩
theorem RdS.clip {α : Type} {enc : α → List Value} {k : Nat} {w : World} {A : Option Addr} {n c : Nat} {xs : List α} (h : RdS enc k w (.slice A n c) xs) : RdS enc k w (.slice A n n) xs := by
  obtain ⟨A', c', he, _, hh⟩ := h
  cases he
  exact ⟨_, _, rfl, Nat.le_refl _, hh⟩
theorem clipS_any (A : Option Addr) (n cap : Nat) (hc : n ≤ cap) (w : World) : Calls Tryd.prog 52 #[.slice A n cap] w fun e w' => e = .returned (.slice A n n) ∧ w' = w := by
  have hci : (n : Int) ≤ (cap : Int) := by omega
  clear hc
  go_enter Tryd.func52, Tryd.ntmps52
  go_wp2
  go_ret
  exact ⟨rfl, rfl⟩
theorem u32_int {x : Int} (h : U32 x) : IntKind.i64.wrap x = x := by rw [IntKind.wrap_i64]; unfold U32 at h; omega
/-- What is laid when the pieces of these numbers have come. -/
def laid (m d : List Int) (pre : List Nat) : List Int := pre.flatMap (sectP m d)
theorem laid_snoc (m d : List Int) (pre : List Nat) (x : Nat) : laid m d (pre ++ [x]) = laid m d pre ++ sectP m d x := by simp [laid]
theorem laid_len {m : List Int} (hm : m.length = 8) (d : List Int) (pre : List Nat) : (laid m d pre).length = 32 * pre.length := by
  induction pre with
  | nil => rfl
  | cons x pre ih =>
    unfold laid at ih ⊢
    rw [List.flatMap_cons, List.length_append, ih, sectP_len hm, List.length_cons]
    omega
theorem sect_piece (m d : List Int) (x : Nat) : sectP m d x = (d.drop (x * 24)).take 24 ++ (List.replicate (24 - min 24 (d.length - x * 24)) 0 ++ m) := by
  unfold sectP
  rw [← List.append_assoc]
  congr 1
  apply List.ext_getElem?
  intro k
  by_cases hk : k < 24
  · rw [List.getElem?_map, List.getElem?_range hk, Option.map_some, List.getD_eq_getElem?_getD]
    by_cases h : x * 24 + k < d.length
    · rw [List.getElem?_append_left (by rw [List.length_take, List.length_drop]; omega), List.getElem?_take, if_pos hk, List.getElem?_drop, Nat.mul_comm 24 x, List.getElem?_eq_getElem h]
      rfl
    · rw [List.getElem?_append_right (by rw [List.length_take, List.length_drop]; omega), List.getElem?_eq_none (by omega : d.length ≤ 24 * x + k), List.length_take, List.length_drop, List.getElem?_replicate, if_pos (by omega)]
      rfl
  · rw [List.getElem?_eq_none (by simp; omega), List.getElem?_eq_none (by rw [List.length_append, List.length_take, List.length_drop, List.length_replicate]; omega)]
def LayE (xs : List Int) (w : World) (e : Ending) (w' : World) : Prop := ∃ v, e = .returned (.tuple #[v, .int .i64 0]) ∧ RdS (encInt .u8) 1 w' v xs ∧ Ext0 w w' ∧ ∀ j, v.ownBlock = some j → w.heap.size ≤ j
theorem rd_piece24 {w : World} {g off n c : Nat} {xs : List Int} (h : RdS (encInt .u8) 1 w (.slice (some ⟨g, off, none⟩) n c) xs) (x : Nat) : RdS (encInt .u8) 1 w (.slice (some ⟨g, off + x * 24, none⟩) (min 24 (xs.length - x * 24)) (min 24 (xs.length - x * 24))) ((xs.drop (x * 24)).take 24) := by
  have hl : ((xs.drop (x * 24)).take 24).length = min 24 (xs.length - x * 24) := by rw [List.length_take, List.length_drop]
  obtain ⟨A', c', he, hc, hh⟩ := h
  cases he
  refine ⟨_, _, by rw [hl], by rw [hl]; exact Nat.le_refl _, ?_⟩
  rcases hh with hh | ⟨b, o, cs, T, fr, hA, hb, hcs⟩
  · left; simp [hh]
  · cases hA
    right
    refine ⟨_, _, cs, T, fr, rfl, hb, fun j hj i hi => ?_⟩
    have hj2 : x * 24 + j < xs.length := by rw [hl] at hj; omega
    rw [List.getElem_take, List.getElem_drop, ← hcs (x * 24 + j) hj2 i hi]
    congr 1
    omega
/-- What lies apart while the pieces come. -/
def layL (e q : Int) (b : List Int) (gd cd g8 g10 Bs Bn : Nat) (Am : Option Addr) (cm : Nat) (v : Value) (pre : List Nat) : List Asr :=
  [ownA 5 1 v (32 * pre.length) (cellsOf (encInt .u8) (laid (markP e q) (matterP e q b) pre)), pt Bn (.cells #[.int .i64 24] 3 (0, 0)), pt Bs (.cells #[.slice (some ⟨gd, 0, none⟩) (b.length + 6) cd] 23 (0, 0)), pt g10 (.cells #[v] 23 (0, 0)),
    ownA 5 1 (.slice (some ⟨gd, 0, none⟩) (b.length + 6) cd) (b.length + 6) (cellsOf (encInt .u8) (matterP e q b)), pt g8 (.cells #[.slice Am 8 cm] 23 (0, 0)), ownA 5 1 (.slice Am 8 cm) 8 (cellsOf (encInt .u8) (markP e q))]
theorem layL_low (e q : Int) (b : List Int) (gd cd g8 g10 Bs Bn : Nat) (Am : Option Addr) (cm : Nat) (v : Value) (pre : List Nat) (B : Nat) : Low B (layL e q b gd cd g8 g10 Bs Bn Am cm v pre) := by
  intro A hA
  simp only [layL, List.mem_cons, List.not_mem_nil, or_false] at hA
  rcases hA with rfl | rfl | rfl | rfl | rfl | rfl | rfl <;> first | exact .inl (cellsA_pt _ _ _ _) | exact .inl (cellsA_own _ _ _ _ _)
set_option maxRecDepth 100000 in
set_option maxHeartbeats 4000000 in
theorem lay_any (e q : Int) (v : Value) (b : List Int) (w0 : World) (he : U32 e) (hq : U32 q) (hr : RdS (encInt .u8) 1 w0 v b) (hb : ∀ x ∈ b, 0 ≤ x ∧ x ≤ 255) (hl : b.length ≤ 65535) :
    Calls Tryd.prog 40 #[.int .i64 e, .int .i64 q, v] w0 (LayE (layP e q b) w0) := by
  obtain ⟨A, cap, rfl, hcap⟩ := hr.len
  have H : SH (fun _ => False) w0 w0 [] := SH.nil _ _
  have hmk : ∀ {W : World}, Calls Tryd.prog 56 #[.int .i64 e, .int .i64 q] W (fun e' w' => ∃ v, e' = .returned v ∧ w'.ownsRow W.heap.size 5 1 v 8 (cellsOf (encInt .u8) (markP e q)) ∧ Ext0 W w') := fun {W} => marked_any e q W
  have hl2 : ∀ {W : World}, Calls Tryd.prog 58 #[.int .i64 (b.length : Int), .int .i64 2] W (GivesB W (be2 b.length)) := fun {W} => last2_any _ W
  have hmb : ∀ x ∈ markP e q, 0 ≤ x ∧ x ≤ 255 := fun x hx => by unfold markP at hx; rcases List.mem_append.1 hx with h | h <;> exact be4_bytes _ x h
  have hcr := crcTwo_rng (markP e q) (matter0 b)
  have hm0l : (matter0 b).length = b.length + 2 := by unfold matter0; simp [be2]
  have hm0b : ∀ x ∈ matter0 b, 0 ≤ x ∧ x ≤ 255 := fun x hx => by unfold matter0 at hx; rcases List.mem_append.1 hx with h | h; exact be2_bytes _ x h; exact hb x h
  have hml := matterP_len e q b
  have HF := Lib.hid (And.intro hr (And.intro hb (And.intro hmb (And.intro hm0l (And.intro hm0b hml)))))
  have h1 : ¬ e < 0 := by unfold U32 at he; omega
  have h2 : ¬ q < 0 := by unfold U32 at hq; omega
  have h3 : ¬ 4294967295 < e := by unfold U32 at he; omega
  have h4 : ¬ 4294967295 < q := by unfold U32 at hq; omega
  have h5 : ¬ min e q < 0 := by omega
  have h6 : ¬ 4294967295 < max e q := by omega
  have h7 : ¬ 65535 < (b.length : Int) := by omega
  clear hr hb hmb hm0l hm0b hml he hq
  obtain ⟨cr, hcre⟩ : ∃ cr, crcTwo (markP e q) (matter0 b) = cr := ⟨_, rfl⟩
  rw [hcre] at hcr
  have hwcr := u32_int hcr
  have hl4 : ∀ {W : World}, Calls Tryd.prog 58 #[.int .i64 cr, .int .i64 4] W (GivesB W (be4 cr)) := fun {W} => last4_any _ W
  have HCR := Lib.hid hcre
  clear hcre hcr
  refine callsIn_wide.1 (callsIn_of_wp_marks (F := Fence.wide) (n := 3) Tryd.func40 rfl trivial (wpIn_wide.2 ?_) rfl)
  simp only [Tryd.ntmps40, List.size_toArray, List.length_cons, List.length_nil, Nat.reduceAdd, Nat.reduceSub, Array.replicate_succ, Array.replicate_zero, List.push_toArray, List.append_toArray, List.nil_append, List.cons_append]
  go_upto_region 6 with (first
    | (go_at_call 56; refine hmk.mono ?_; rintro e1 w1 ⟨vm, rfl, ho, hE⟩; replace H := H.addOwn hE ho; clear ho hE; obtain ⟨Am, cm, rfl⟩ := own_slice (H.get 0 rfl))
    | (refine L_alloc rfl rfl H Tryd.zeroValue23 ?_; clear H; intro g8 w H; simp only [Value.cells] at H; (try simp only [Act.put, List.setIfInBounds_toArray, List.set_cons_succ, List.set_cons_zero, List.getElem_toArray, List.getElem_cons_succ, List.getElem_cons_zero]))
    | (refine L_store1 rfl rfl H 0 rfl rfl rfl rfl rfl (Nat.le_of_ble_eq_true rfl) Tryd.sizeOf23 ?_; clear H; intro w H; simp only [List.set_cons_zero, List.set_cons_succ, List.setIfInBounds_toArray, Act.eval, Array.getD_eq_getD_getElem?, List.getElem?_toArray, List.getElem?_cons_succ, List.getElem?_cons_zero, Option.getD_some] at H; (try simp only [Act.put, List.setIfInBounds_toArray, List.set_cons_succ, List.set_cons_zero, List.getElem_toArray, List.getElem_cons_succ, List.getElem_cons_zero])))
  clear hmk h1 h2 h3 h4 h5 h6
  go_upto_region 7 with (first
    | (go_at_call 58; refine hl2.mono ?_; rintro e1 w1 ⟨v32, rfl, hv32, hE⟩; replace H := H.calls hE; clear hE; obtain ⟨A32, c32, rfl⟩ := hv32.isSlice)
    | (refine L_litE (e := 23) (cs := #[.slice A32 2 c32, .slice A b.length cap]) rfl rfl H (by intro _; first | (go_simp; done) | (go_simp; rfl)) ?_; clear H; intro gl w H hE; replace hv32 := hv32.keep hE; clear hE)
    | (go_at_call 57; refine (concat2 (two_parts (H.at_ 0 rfl) hv32 (HF.out.1.keep H.ext) (be2_bytes _) HF.out.2.1) (by show 0 < 2; omega) (by show 2 + b.length ≤ 1000000; omega)).mono ?_; rintro e1 w4 ⟨v35, rfl, ho, hE⟩; replace H := H.addOwn hE ho; clear ho hE hv32))
  have H2 := H.drop (L' := [_, _, _]) (List.Sublist.cons_cons _ (List.Sublist.cons _ (List.Sublist.refl _)))
  clear H hl2
  have H := H2
  clear H2
  have hl35 : (be2 (b.length : Int) ++ b).length = b.length + 2 := HF.out.2.2.2.1
  have hm0 : be2 (b.length : Int) ++ b = matter0 b := rfl
  rw [hl35, hm0] at H
  obtain ⟨A35, c35, rfl⟩ := own_slice (H.get 0 rfl)
  have HM0 := Lib.hid (And.intro hl35 hm0)
  clear hl35 hm0
  go_upto_region 8 with (first
    | (refine L_load1 rfl rfl H 1 rfl rfl rfl Tryd.isAgg23 ?_; (try simp only [Act.put, List.setIfInBounds_toArray, List.set_cons_succ, List.set_cons_zero, List.getElem_toArray, List.getElem_cons_succ, List.getElem_cons_zero]))
    | (refine L_litE (e := 23) (cs := #[.slice Am 8 cm, .slice A35 (b.length + 2) c35]) rfl rfl H (by intro _; first | (go_simp; done) | (go_simp; rfl)) ?_; clear H; intro gl w H hE; clear hE)
    | (go_at_call 59; refine (crcOf2 (two_parts (H.at_ 0 rfl) (own_rd (H.get 3 rfl) rfl) (own_rd (H.get 1 rfl) HF.out.2.2.2.1.symm) HF.out.2.2.1 HF.out.2.2.2.2.1) (by show 8 ≤ 1000000; omega) (by rw [HF.out.2.2.2.1]; omega)).mono ?_; rintro e1 w5 ⟨rfl, hw5⟩; replace hw5 := hw5.symm; subst hw5; rw [HCR.out])
    | (go_at_call 58; refine hl4.mono ?_; rintro e1 w1 ⟨v42, rfl, hv42, hE⟩; replace H := H.calls hE; clear hE; obtain ⟨A42, c42, rfl⟩ := hv42.isSlice)
    | (refine L_litE (e := 23) (cs := #[.slice A35 (b.length + 2) c35, .slice A42 4 c42]) rfl rfl H (by intro _; first | (go_simp; done) | (go_simp; rfl)) ?_; clear H; intro gl w H hE; replace hv42 := hv42.keep hE; clear hE)
    | (go_at_call 57; refine (concat2 (two_parts (H.at_ 0 rfl) (own_rd (H.get 2 rfl) HF.out.2.2.2.1.symm) hv42 HF.out.2.2.2.2.1 (be4_bytes _)) (by rw [HF.out.2.2.2.1]; omega) (by rw [HF.out.2.2.2.1]; show b.length + 2 + 4 ≤ 1000000; omega)).mono ?_; rintro e1 w4 ⟨v44, rfl, ho, hE⟩; replace H := H.addOwn hE ho; clear ho hE hv42))
  have H2 := H.drop (L' := [_, _, _]) (List.Sublist.cons_cons _ (List.Sublist.cons _ (List.Sublist.cons _ (List.Sublist.cons _ (List.Sublist.refl _)))))
  clear H hl4
  have h44 : matter0 b ++ be4 cr = matterP e q b := by rw [← HCR.out]; rfl
  rw [h44, HF.out.2.2.2.2.2] at H2
  obtain ⟨gd, cd, rfl, hcd⟩ := own_some (H2.get 0 rfl) (by omega)
  have HM := Lib.hid (And.intro h44 HM0.out)
  clear h44 HM0 HCR hwcr h7
  go_wp2_with (first
    | (refine L_alloc rfl rfl H2 Tryd.zeroValue23 ?_; clear H2; intro g10 w H2; simp only [Value.cells] at H2; (try simp only [Act.put, List.setIfInBounds_toArray, List.set_cons_succ, List.set_cons_zero, List.getElem_toArray, List.getElem_cons_succ, List.getElem_cons_zero]))
    | (go_at_call 46; refine (chunk_any _ _ _ 24 (by decide) _).mono ?_; rintro e1 w9 ⟨Bs, Bn, rfl, h⟩; replace H2 := H2.cat h; clear h; simp only [List.cons_append, List.nil_append] at H2))
  clear HM
  have hsz9 : w0.heap.size ≤ w9.heap.size := H2.ext.size
  have hcnt : countP b.length = (b.length + 6 + 23) / 24 := by unfold countP; omega
  have hH0 := H2.addNil 5 1
  refine (wpIn_wide (n := 3)).1 ?_
  apply wpIn_rangeFunc_ownG (F := Fence.wide) (n := 3) (gf := 63) (lb := #[.pointer (some ⟨Bs, 0, none⟩), .pointer (some ⟨Bn, 0, none⟩)]) rfl (by decide) rfl trivial (enters_of Tryd.func63 (by kernel_rfl) rfl)
    (chunk24_stops Fence.wide (3 - 1) trivial rfl (by decide) Bs Bn gd 0 (b.length + 6) cd (countP b.length) hcnt (by omega) hcd w9 (H2.at_ 1 rfl) (H2.at_ 0 rfl))
    (fun h k => kpB_t h k) (kpB_b (blk_lt' (H2.at_ 1 rfl)) (blk_lt' (H2.at_ 0 rfl))) (Below.refl _ _) (fun _ => rfl)
    (fun pre W => ∃ v, SH (fun _ => False) w0 W (layL e q b gd cd g8 g10 Bs Bn Am cm v pre)) (fun _ _ _ => False)
    (fun pre W W' row ⟨v, hs⟩ hg hr => ⟨v, hs.walked (layL_low _ _ _ _ _ _ _ _ _ _ _ _ _ _) hsz9 hg hr⟩) (fun _ _ _ _ _ h _ _ => h) ⟨_, hH0⟩
  case hassign =>
    intro l x W K hK
    gi_wp2
    exact hK
  case hbody =>
    rintro l pre x W ⟨v, hs⟩ hpre
    have K := hs.inner
    obtain ⟨e0, he0⟩ : ∃ e0, min 24 (b.length + 6 - x * 24) = e0 := ⟨_, rfl⟩
    obtain ⟨ys, hys⟩ : ∃ ys, ((matterP e q b).drop (x * 24)).take 24 = ys := ⟨_, rfl⟩
    have hpx : piece24 gd 0 (b.length + 6) x = .slice (some ⟨gd, 0 + x * 24, none⟩) e0 e0 := by unfold piece24; rw [he0]
    have hyl : ys.length = e0 := by rw [← hys, List.length_take, List.length_drop, HF.out.2.2.2.2.2]; exact he0
    have hprF : ∀ {w' : World}, w'.ownsRow 0 5 1 (.slice (some ⟨gd, 0, none⟩) (b.length + 6) cd) (b.length + 6) (cellsOf (encInt .u8) (matterP e q b)) → RdS (encInt .u8) 1 w' (.slice (some ⟨gd, 0 + x * 24, none⟩) e0 e0) ys := fun {w'} h => by
      have h1 := rd_piece24 (own_rd h HF.out.2.2.2.2.2.symm) x
      rw [hys, HF.out.2.2.2.2.2, he0] at h1
      exact h1
    have hsect : sectP (markP e q) (matterP e q b) x = ys ++ (List.replicate (24 - e0) 0 ++ markP e q) := by rw [sect_piece, hys, HF.out.2.2.2.2.2, he0]
    have hcl : pre.length < 3000 := by unfold countP at hpre; omega
    have he24 : e0 ≤ 24 := by omega
    have hwz : IntKind.i64.wrap (24 - (e0 : Int)) = ((24 - e0 : Nat) : Int) := by rw [IntKind.wrap_i64]; omega
    have HY := Lib.hid (And.intro hsect hyl)
    rw [hpx]
    generalize hM : fps (layL e q b gd cd g8 g10 Bs Bn Am cm v pre) = M0 at K
    unfold layL at K
    have HM0 := Lib.hid hM
    clear hM hpx hys hsect he0 hyl hpre
    gi_wp2_with (first
      | (refine IL_load1 rfl (by intro c h; cases h) (fun _ => rfl) rfl K 3 rfl rfl rfl Tryd.isAgg23 ?_; (try simp only [Act.put, List.setIfInBounds_toArray, List.set_cons_succ, List.set_cons_zero, List.getElem_toArray, List.getElem_cons_succ, List.getElem_cons_zero]))
      | (refine IL_load1 rfl (by intro c h; cases h) (fun _ => rfl) rfl K 5 rfl rfl rfl Tryd.isAgg23 ?_; (try simp only [Act.put, List.setIfInBounds_toArray, List.set_cons_succ, List.set_cons_zero, List.getElem_toArray, List.getElem_cons_succ, List.getElem_cons_zero]))
      | (refine IL_appendB rfl (by intro c h; cases h) (fun _ => rfl) rfl K 0 rfl rfl rfl (hprF (K.get 4 rfl)) (by rw [HY.out.2]; omega) ?_; clear K; intro v1 w1 K; simp only [List.set_cons_zero] at K; obtain ⟨A1, c1, rfl⟩ := own_slice (K.get 0 rfl))
      | (refine IL_appendB rfl (by intro c h; cases h) (fun _ => rfl) rfl K 0 rfl rfl rfl (own_rd (K.get 6 rfl) rfl) (by rw [HY.out.2]; show _ + 8 ≤ _; omega) ?_; clear K; intro v1 w1 K; simp only [List.set_cons_zero] at K; obtain ⟨A1, c1, rfl⟩ := own_slice (K.get 0 rfl))
      | (refine IL_appendZ (k := 24 - e0) rfl (by intro c h; cases h) (fun _ => rfl) rfl K 0 rfl rfl rfl (by rw [HY.out.2]; omega) ?_; clear K; intro v1 w1 K; simp only [List.set_cons_zero] at K; obtain ⟨A1, c1, rfl⟩ := own_slice (K.get 0 rfl))
      | (refine IL_store1 rfl (by intro c h; cases h) (fun _ => rfl) rfl K 3 rfl rfl rfl rfl rfl (Nat.le_of_ble_eq_true rfl) Tryd.sizeOf23 ?_; clear K; intro w1 K; simp only [List.set_cons_zero, List.set_cons_succ, List.setIfInBounds_toArray, Act.eval, Array.getD_eq_getD_getElem?, List.getElem?_toArray, List.getElem?_cons_succ, List.getElem?_cons_zero, Option.getD_some] at K; (try simp only [Act.put, List.setIfInBounds_toArray, List.set_cons_succ, List.set_cons_zero, List.getElem_toArray, List.getElem_cons_succ, List.getElem_cons_zero])))
    have hM := HM0.out
    subst hM
    have hO := hs.outer K
    have e1 : 32 * (pre ++ [x]).length = 32 * pre.length + ys.length + (24 - e0) + (markP e q).length := by
      rw [List.length_append, HY.out.2]
      show 32 * (pre.length + 1) = 32 * pre.length + e0 + (24 - e0) + 8
      omega
    have e2 : cellsOf (encInt .u8) (laid (markP e q) (matterP e q b) (pre ++ [x])) = cellsOf (encInt .u8) (laid (markP e q) (matterP e q b) pre) ++ cellsOf (encInt .u8) ys ++ zB (24 - e0) ++ cellsOf (encInt .u8) (markP e q) := by
      rw [laid_snoc, HY.out.1, cellsOf_append, cellsOf_append, cellsOf_append, zB_cells]
      simp only [List.append_assoc]
    refine ⟨(layL_low _ _ _ _ _ _ _ _ _ _ _ _ _ _).keeps hs K, kpB_of (hs.at_ 2 rfl) (hs.at_ 1 rfl) (K.at_ 2 rfl) (K.at_ 1 rfl), ⟨.slice A1 (32 * pre.length + ys.length + (24 - e0) + (markP e q).length) c1, ?_⟩⟩
    unfold layL
    rw [e1, e2]
    exact hO
  case hdone =>
    rintro D ps W hD rfl ⟨v, hs⟩ hK
    unfold layL at hs
    rw [List.length_range] at hs
    have hlaid : laid (markP e q) (matterP e q b) (List.range (countP b.length)) = layP e q b := rfl
    rw [hlaid] at hs
    have hll := layP_len e q b
    have HLL := Lib.hid hll
    clear hll hlaid
    obtain ⟨m, hm⟩ : ∃ m, 32 * countP b.length = m := ⟨_, rfl⟩
    have HLM := Lib.hid (HLL.out.trans hm)
    rw [hm] at hs
    clear hm HLL
    obtain ⟨Al, cl, rfl⟩ := own_slice (hs.get 0 rfl)
    have hlc : m ≤ cl := by
      rcases (hs.get 0 rfl).2 with ⟨h1, h2⟩ | ⟨g, c, cur, h1, _, _, h3, _⟩
      · omega
      · cases h1; exact h3
    go_wp2_with (first
      | (refine L_load1 rfl rfl hs 3 rfl rfl rfl Tryd.isAgg23 ?_; (try simp only [Act.put, List.setIfInBounds_toArray, List.set_cons_succ, List.set_cons_zero, List.getElem_toArray, List.getElem_cons_succ, List.getElem_cons_zero]))
      | (go_at_call 52; refine (clipS_any Al m cl hlc W).mono ?_; rintro e1 w10 ⟨rfl, hw10⟩; replace hw10 := hw10.symm; subst hw10))
    refine ⟨by simp, .inl ⟨_, _, rfl, run_takeDeferred hK, ?_⟩⟩
    refine ⟨_, results_tmp2 rfl _ _ _, _, rfl, ((own_rd (hs.get 0 rfl) HLM.out.symm).clip).putObj hK rfl _, ext_putObj hs.ext (Nat.le_trans hsz9 hD) _, fun j hj => ?_⟩
    rcases hs.own _ (List.mem_cons_self) j (show (Value.slice Al m cl).ownBlock = some j by cases Al <;> exact hj) with h | h
    · exact h.elim
    · exact h
  case hstop =>
    rintro D c pre W _ _ h _
    exact h.elim
end Go.Proofs.YtgmeahogdjhejaaDoor
