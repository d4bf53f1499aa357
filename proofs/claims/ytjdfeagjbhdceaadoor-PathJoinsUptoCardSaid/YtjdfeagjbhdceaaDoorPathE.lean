/- The law PathJoins holds for all paths s, t, u that are, with what the reading takes, of bulk at most 1048576: the card. -/
import Derived.Test.YtjdfeagjbhdceaaDoorPathD
namespace Go.Proofs.YtjdfeagjbhdceaaDoor
set_option linter.unusedVariables false
set_option linter.unusedSimpArgs false
open Go.ChangeShapes Go.WideShapes Go.ChangeAt Go.RowKit
open Go.ChangeMaps (open_string shut_string)

theorem joinL_snoc : ∀ (l : List (List UInt8)) (p : List UInt8), joinL (l ++ [p]) = if l = [] then p else joinL l ++ 47 :: p
  | [], p => rfl
  | [q], p => rfl
  | q :: r :: l, p => by
    have ih := joinL_snoc (r :: l) p
    rw [if_neg (by simp)] at ih
    rw [if_neg (by simp)]
    show joinL (q :: r :: (l ++ [p])) = _
    rw [joinL, joinL, show r :: (l ++ [p]) = (r :: l) ++ [p] from rfl, ih]
    simp
theorem joinL_take (l : List (List UInt8)) (k : Nat) : (joinL (l.take k)).length ≤ (joinL l).length := by
  induction k with
  | zero => simp [joinL]
  | succ k ih =>
    by_cases hk : k < l.length
    · have h : ∀ (r : List (List UInt8)) (m : List (List UInt8)), (joinL m).length ≤ (joinL (m ++ r)).length := by
        intro r
        induction r with
        | nil => intro m; simp
        | cons p r ih2 =>
          intro m
          have h1 := ih2 (m ++ [p])
          rw [joinL_snoc, List.append_assoc] at h1
          refine Nat.le_trans ?_ h1
          split
          · rename_i e; subst e; simp [joinL]
          · simp
      have := h (l.drop (k + 1)) (l.take (k + 1))
      rwa [List.take_append_drop] at this
    · rw [List.take_of_length_le (by omega)]; exact Nat.le_refl _
def JoRel (ps : List (List UInt8)) (s : ByteArray) (v : Value) (w0 : World) (va vi : Value) (wr : World) : Prop :=
  ∃ (k : Nat) (al : ByteArray), vi = .int .i64 (k : Int) ∧ va = .string al ∧ k ≤ ps.length ∧ Hid (lst al = joinL (ps.take k)) ∧ Strs wr v ps ∧ Ext0 w0 wr

set_option maxRecDepth 100000 in
set_option maxHeartbeats 4000000 in
theorem pathJoins_walk (s t u : ByteArray) (w0 : World) (hm : ML w0) (hs : s.size < 4294967281) (ht : t.size < 4294967281) (hu : u.size < 4294967281) : Calls Tryd.prog 4 #[.string s, .string t, .string u] w0 fun e w' => e = .returned (.bool true) ∧ Ext0 w0 w' := by
  have H : Ext0 w0 w0 := Ext.refl _ _
  have hM : ∀ {w : World}, Ext0 w0 w → ML w := fun h => hm.ext h
  have ha := fun {w : World} (hm : ML w) => awake_any w hm
  have hg := fun {w : World} (hm : ML w) => good_any s w hs hm
  have hp := fun {w : World} (hm : ML w) => parts_any s w hs hm
  have hss := fun {w : World} (hm : ML w) => under_any s s w hs hs hm
  have hst := fun {w : World} (hm : ML w) => under_any s t w hs ht hm
  have htu := fun {w : World} (hm : ML w) => under_any t u w ht hu hm
  have hsu := fun {w : World} (hm : ML w) => under_any s u w hs hu hm
  have hts := fun {w : World} (hm : ML w) => under_any t s w ht hs hm
  rw [under_self] at hss
  have hl := parts_len (lst s)
  rw [lst_len] at hl
  have hpart := fun p (h : p ∈ partsL (lst s)) => parts_part h
  have hsz := fun p (h : p ∈ partsL (lst s)) => (show p.length < 4294967281 from by
    have h1 : p ∈ cut (lst s) := by unfold partsL at h; split at h
                                    · simp at h
                                    · exact h
    have := cut_len (lst s) p h1
    rw [lst_len] at this; omega)
  have hgd := parts_good (lst s)
  have hjn := fun h => good_join (s := lst s) h
  have htr := fun (h : underL (lst s) (lst t) = true) (k : underL (lst t) (lst u) = true) => under_trans h k
  have han := under_anti (lst s) (lst t)
  generalize underL (lst s) (lst t) = bst at hst htr han
  generalize underL (lst t) (lst u) = btu at htu htr
  generalize underL (lst s) (lst u) = bsu at hsu htr
  generalize underL (lst t) (lst s) = bts at hts han
  generalize goodL (lst s) = gd at hg hgd hjn
  generalize partsL (lst s) = ps at hp hl hpart hsz hgd hjn
  have hl2 : ps.length ≤ 4294967300 := by omega
  have HQ := Lib.hid (And.intro hpart (And.intro hsz (And.intro hgd (And.intro hjn (And.intro htr han)))))
  clear hpart hsz hgd hjn hl htr han
  go_enter Tryd.func4, Tryd.ntmps4
  go_wp2_with (first
    | (go_at_call 9; refine (hp (hM H)).mono ?_; rintro e w ⟨⟨v, rfl, hv⟩, h⟩; replace H := H.trans0 h; clear h))
  clear hp
  go_loopw [8, 9] (fun va vi wr => JoRel ps s v w0 va vi wr) (fun _ vi _ => ps.length - (intOf vi).toNat)
  case atStart => exact ⟨0, ByteArray.empty, rfl, rfl, Nat.zero_le _, Lib.hid rfl, hv, H⟩
  case round =>
    clear H hv
    obtain ⟨k, al, rfl, rfl, hk, HJ, hv, H⟩ := hrel
    by_cases hkn : k < ps.length
    · have hki : (k : Int) < (ps.length : Int) := by omega
      rcases hv with ⟨rfl, rfl⟩ | ⟨hne, b, T, fr, rfl, hb⟩
      · simp at hkn
      · have hcell : wr.cell? ⟨b, k, none⟩ = some (.string (bs ps[k])) := by
          rw [cell_of_row wr b _ _ T fr hb]; simp [strRow, hkn]
        have hmem : ps[k] ∈ ps := List.getElem_mem hkn
        have htk : ps.take (k + 1) = ps.take k ++ [ps[k]] := by rw [List.take_add_one, List.getElem?_eq_getElem hkn]; rfl
        generalize ps[k] = x at hcell hmem htk
        have hx1 := HQ.out.1 x hmem
        have hx2 := HQ.out.2.1 x hmem
        have hgx : goodL x = true := by unfold goodL; rw [hx1]; rfl
        have hbx : lst (bs x) = x := lst_bs x
        have hzx : (bs x).size < 4294967281 := by rw [← lst_len, hbx]; exact hx2
        have hcg := fun {w : World} (hm : ML w) => good_any (bs x) w hzx hm
        have hcp : ∀ {w : World}, ML w → Calls Tryd.prog 9 #[.string (bs x)] w fun e w' => (∃ b1 : Nat, e = .returned (.slice (some ⟨b1, 0, none⟩) 1 1)) ∧ Ext0 w w' := fun {w} hm => by
          refine (parts_any (bs x) w hzx hm).mono ?_
          rw [hbx, hx1]
          rintro e w' ⟨⟨v1, rfl, ⟨h1, rfl⟩ | ⟨_, b1, T1, fr1, rfl, hb1⟩⟩, h⟩
          · cases h1
          · exact ⟨⟨b1, rfl⟩, h⟩
        rw [hbx, hgx] at hcg
        have hal : al.size < 4294967281 := by
          have h1 : gd = true := by rw [HQ.out.2.2.1]; simp; omega
          have h2 := joinL_take ps k
          rw [HQ.out.2.2.2.1 h1, ← HJ.out, lst_len, lst_len] at h2
          omega
        have HT := Lib.hid (And.intro htk hbx)
        clear hmem htk hx1 hx2 hgx hbx
        generalize hbs : bs x = y at hcell hcg hcp HT hzx
        have HB := Lib.hid hbs
        clear hbs
        have hkeep : ∀ {w : World}, Ext0 wr w → Strs w (.slice (some ⟨b, 0, none⟩) ps.length ps.length) ps := fun h => .inr ⟨hne, b, T, fr, rfl, h.block0 hb⟩
        have HK : Hid (∀ w : World, Ext0 wr w → Strs w (.slice (some ⟨b, 0, none⟩) ps.length ps.length) ps) := Lib.hid (fun w h => hkeep h)
        have hcl : ∀ {w : World}, Ext0 wr w → w.cell? ⟨b, k, none⟩ = some (.string y) := fun h => h.cell hcell (fun e => e)
        have R : Ext0 wr wr := Ext.refl _ _
        clear hkeep
        by_cases hk0 : 0 < k
        · have hk0' : 0 < (k : Int) := by omega
          go_wp2_with (first
            | (go_at_call 6; refine (hcg (hM H)).mono ?_; rintro e w ⟨rfl, h⟩; replace H := H.trans0 h; replace R := R.trans0 h; clear h; have hc2 := hcl R)
            | (go_at_call 9; refine (hcp (hM H)).mono ?_; rintro e w ⟨⟨b1, rfl⟩, h⟩; replace H := H.trans0 h; replace R := R.trans0 h; clear h))
          refine ⟨⟨k + 1, _, by go_num, rfl, hkn, Lib.hid ?_, HK.out _ R, H⟩, ?_⟩
          · rw [HT.out.1, joinL_snoc, if_neg (by intro e; rcases List.take_eq_nil_iff.1 e with h | h; omega; simp [h] at hkn), ← HJ.out]
            simp [lst, ByteArray.data_append, show y.data.toList = x from HT.out.2]
          · simp [intOf]; omega
        · obtain rfl : k = 0 := by omega
          go_wp2_with (first
            | (go_at_call 6; refine (hcg (hM H)).mono ?_; rintro e w ⟨rfl, h⟩; replace H := H.trans0 h; replace R := R.trans0 h; clear h; have hc2 := hcl R)
            | (go_at_call 9; refine (hcp (hM H)).mono ?_; rintro e w ⟨⟨b1, rfl⟩, h⟩; replace H := H.trans0 h; replace R := R.trans0 h; clear h))
          refine ⟨⟨0 + 1, _, by go_num, rfl, hkn, Lib.hid ?_, HK.out _ R, H⟩, ?_⟩
          · rw [HT.out.1, joinL_snoc, if_pos (by simp)]
            have : lst al = [] := by rw [HJ.out]; rfl
            simp [lst, ByteArray.data_append, show y.data.toList = x from HT.out.2, show al.data.toList = [] from this]
          · simp [intOf]; omega
    · obtain rfl : k = ps.length := by omega
      have hlen : ∃ A cap, v = .slice A ps.length cap := by
        rcases hv with ⟨rfl, rfl⟩ | ⟨_, b, T, fr, rfl, hb⟩
        · exact ⟨_, _, rfl⟩
        · exact ⟨_, _, rfl⟩
      obtain ⟨A, cap, rfl⟩ := hlen
      clear hv
      have hgd := HQ.out.2.2.1
      have hjn : gd = true → (al.toList = s.toList) := fun h => by
        have h1 := HJ.out
        rw [List.take_length, HQ.out.2.2.2.1 h] at h1
        rw [Go.ByteArray.toList_eq, Go.ByteArray.toList_eq]; exact h1
      have hg0 : ((gd != decide (0 < (ps.length : Int))) = false) := by rw [hgd]; simp
      clear hg0
      have htr := HQ.out.2.2.2.2.1
      have han := HQ.out.2.2.2.2.2
      cases gd
      · have hz : ¬ 0 < (ps.length : Int) := by intro h; have : 0 < ps.length := by omega
                                                simp [this] at hgd
        have hz0 : ps.length = 0 := by omega
        clear hgd hjn
        cases bst
        · clear htr han
          go_wp2_with (first
            | (go_at_call 6; refine (hg (hM H)).mono ?_; rintro e w ⟨rfl, h⟩; replace H := H.trans0 h; clear h)
            | (go_at_call 5; refine (ha (hM H)).mono ?_; rintro e w ⟨rfl, h⟩; replace H := H.trans0 h; clear h)
            | (go_at_call_of 11 (#[Value.string s, Value.string s]); refine (hss (hM H)).mono ?_; rintro e w ⟨rfl, h⟩; replace H := H.trans0 h; clear h)
            | (go_at_call_of 11 (#[Value.string s, Value.string t]); refine (hst (hM H)).mono ?_; rintro e w ⟨rfl, h⟩; replace H := H.trans0 h; clear h)
            | (go_at_call_of 11 (#[Value.string t, Value.string u]); refine (htu (hM H)).mono ?_; rintro e w ⟨rfl, h⟩; replace H := H.trans0 h; clear h)
            | (go_at_call_of 11 (#[Value.string s, Value.string u]); refine (hsu (hM H)).mono ?_; rintro e w ⟨rfl, h⟩; replace H := H.trans0 h; clear h)
            | (go_at_call_of 11 (#[Value.string t, Value.string s]); refine (hts (hM H)).mono ?_; rintro e w ⟨rfl, h⟩; replace H := H.trans0 h; clear h))
          go_ret
          exact ⟨rfl, H⟩
        · obtain rfl : bts = false := by simpa using han
          cases btu
          · clear htr han
            go_wp2_with (first
              | (go_at_call 6; refine (hg (hM H)).mono ?_; rintro e w ⟨rfl, h⟩; replace H := H.trans0 h; clear h)
              | (go_at_call 5; refine (ha (hM H)).mono ?_; rintro e w ⟨rfl, h⟩; replace H := H.trans0 h; clear h)
              | (go_at_call_of 11 (#[Value.string s, Value.string s]); refine (hss (hM H)).mono ?_; rintro e w ⟨rfl, h⟩; replace H := H.trans0 h; clear h)
              | (go_at_call_of 11 (#[Value.string s, Value.string t]); refine (hst (hM H)).mono ?_; rintro e w ⟨rfl, h⟩; replace H := H.trans0 h; clear h)
              | (go_at_call_of 11 (#[Value.string t, Value.string u]); refine (htu (hM H)).mono ?_; rintro e w ⟨rfl, h⟩; replace H := H.trans0 h; clear h)
              | (go_at_call_of 11 (#[Value.string s, Value.string u]); refine (hsu (hM H)).mono ?_; rintro e w ⟨rfl, h⟩; replace H := H.trans0 h; clear h)
              | (go_at_call_of 11 (#[Value.string t, Value.string s]); refine (hts (hM H)).mono ?_; rintro e w ⟨rfl, h⟩; replace H := H.trans0 h; clear h))
            go_ret
            exact ⟨rfl, H⟩
          · obtain rfl := htr rfl rfl
            clear htr han
            go_wp2_with (first
              | (go_at_call 6; refine (hg (hM H)).mono ?_; rintro e w ⟨rfl, h⟩; replace H := H.trans0 h; clear h)
              | (go_at_call 5; refine (ha (hM H)).mono ?_; rintro e w ⟨rfl, h⟩; replace H := H.trans0 h; clear h)
              | (go_at_call_of 11 (#[Value.string s, Value.string s]); refine (hss (hM H)).mono ?_; rintro e w ⟨rfl, h⟩; replace H := H.trans0 h; clear h)
              | (go_at_call_of 11 (#[Value.string s, Value.string t]); refine (hst (hM H)).mono ?_; rintro e w ⟨rfl, h⟩; replace H := H.trans0 h; clear h)
              | (go_at_call_of 11 (#[Value.string t, Value.string u]); refine (htu (hM H)).mono ?_; rintro e w ⟨rfl, h⟩; replace H := H.trans0 h; clear h)
              | (go_at_call_of 11 (#[Value.string s, Value.string u]); refine (hsu (hM H)).mono ?_; rintro e w ⟨rfl, h⟩; replace H := H.trans0 h; clear h)
              | (go_at_call_of 11 (#[Value.string t, Value.string s]); refine (hts (hM H)).mono ?_; rintro e w ⟨rfl, h⟩; replace H := H.trans0 h; clear h))
            go_ret
            exact ⟨rfl, H⟩
      · have hz : 0 < (ps.length : Int) := by have : 0 < ps.length := by simpa using hgd
                                              omega
        have hal := hjn rfl
        clear hgd hjn
        cases bst
        · clear htr han
          go_wp2_with (first
            | (go_at_call 6; refine (hg (hM H)).mono ?_; rintro e w ⟨rfl, h⟩; replace H := H.trans0 h; clear h)
            | (go_at_call 5; refine (ha (hM H)).mono ?_; rintro e w ⟨rfl, h⟩; replace H := H.trans0 h; clear h)
            | (go_at_call_of 11 (#[Value.string s, Value.string s]); refine (hss (hM H)).mono ?_; rintro e w ⟨rfl, h⟩; replace H := H.trans0 h; clear h)
            | (go_at_call_of 11 (#[Value.string s, Value.string t]); refine (hst (hM H)).mono ?_; rintro e w ⟨rfl, h⟩; replace H := H.trans0 h; clear h)
            | (go_at_call_of 11 (#[Value.string t, Value.string u]); refine (htu (hM H)).mono ?_; rintro e w ⟨rfl, h⟩; replace H := H.trans0 h; clear h)
            | (go_at_call_of 11 (#[Value.string s, Value.string u]); refine (hsu (hM H)).mono ?_; rintro e w ⟨rfl, h⟩; replace H := H.trans0 h; clear h)
            | (go_at_call_of 11 (#[Value.string t, Value.string s]); refine (hts (hM H)).mono ?_; rintro e w ⟨rfl, h⟩; replace H := H.trans0 h; clear h))
          go_ret
          exact ⟨rfl, H⟩
        · obtain rfl : bts = false := by simpa using han
          cases btu
          · clear htr han
            go_wp2_with (first
              | (go_at_call 6; refine (hg (hM H)).mono ?_; rintro e w ⟨rfl, h⟩; replace H := H.trans0 h; clear h)
              | (go_at_call 5; refine (ha (hM H)).mono ?_; rintro e w ⟨rfl, h⟩; replace H := H.trans0 h; clear h)
              | (go_at_call_of 11 (#[Value.string s, Value.string s]); refine (hss (hM H)).mono ?_; rintro e w ⟨rfl, h⟩; replace H := H.trans0 h; clear h)
              | (go_at_call_of 11 (#[Value.string s, Value.string t]); refine (hst (hM H)).mono ?_; rintro e w ⟨rfl, h⟩; replace H := H.trans0 h; clear h)
              | (go_at_call_of 11 (#[Value.string t, Value.string u]); refine (htu (hM H)).mono ?_; rintro e w ⟨rfl, h⟩; replace H := H.trans0 h; clear h)
              | (go_at_call_of 11 (#[Value.string s, Value.string u]); refine (hsu (hM H)).mono ?_; rintro e w ⟨rfl, h⟩; replace H := H.trans0 h; clear h)
              | (go_at_call_of 11 (#[Value.string t, Value.string s]); refine (hts (hM H)).mono ?_; rintro e w ⟨rfl, h⟩; replace H := H.trans0 h; clear h))
            go_ret
            exact ⟨rfl, H⟩
          · obtain rfl := htr rfl rfl
            clear htr han
            go_wp2_with (first
              | (go_at_call 6; refine (hg (hM H)).mono ?_; rintro e w ⟨rfl, h⟩; replace H := H.trans0 h; clear h)
              | (go_at_call 5; refine (ha (hM H)).mono ?_; rintro e w ⟨rfl, h⟩; replace H := H.trans0 h; clear h)
              | (go_at_call_of 11 (#[Value.string s, Value.string s]); refine (hss (hM H)).mono ?_; rintro e w ⟨rfl, h⟩; replace H := H.trans0 h; clear h)
              | (go_at_call_of 11 (#[Value.string s, Value.string t]); refine (hst (hM H)).mono ?_; rintro e w ⟨rfl, h⟩; replace H := H.trans0 h; clear h)
              | (go_at_call_of 11 (#[Value.string t, Value.string u]); refine (htu (hM H)).mono ?_; rintro e w ⟨rfl, h⟩; replace H := H.trans0 h; clear h)
              | (go_at_call_of 11 (#[Value.string s, Value.string u]); refine (hsu (hM H)).mono ?_; rintro e w ⟨rfl, h⟩; replace H := H.trans0 h; clear h)
              | (go_at_call_of 11 (#[Value.string t, Value.string s]); refine (hts (hM H)).mono ?_; rintro e w ⟨rfl, h⟩; replace H := H.trans0 h; clear h))
            go_ret
            exact ⟨rfl, H⟩
theorem joins_contract (H : Type) (enc : TypeId × Value → H) (W : World) (base : Nat) (args : Array Value) (ds gs : List (DataW H)) (before : List MemPlace)
    (hval : ∀ (j : Nat) t v, Tryd.f4.params[j]? = some t → args[j]? = some v → Value.okWide Tryd.prog W .any base t v)
    (hW : DataW.Whole enc Tryd.prog Tryd.f4.params.toList Rows.pathJoinsSpec.vars false W args.toList ds gs before) (hk : Rows.uptoSmall H (ds ++ gs) = true) (hsh : W.ShapedOpen Tryd.prog) :
    Calls Tryd.prog 4 args W fun e W' => ∃ v, e = .returned v ∧ Rows.pathJoinsSpec.post enc Tryd.prog Tryd.f4 false true false false W args v W' := by
  have hW' := hW
  obtain ⟨p, q, hA0, hV, rfl, hfz, hnd⟩ := hW
  have hA : DataW.TrodAll enc Tryd.prog W 0 (fun _ => true) true Tryd.f4.params.toList args.toList ds p := hA0
  rw [Tryd.params4] at hA hval
  obtain ⟨v0, vs0, d0, ds0, p0, q0, hargs, rfl, rfl, h0, r0⟩ := trodAll_cons hA
  obtain ⟨v1, vs1, d1, ds1, p1, q1, rfl, rfl, rfl, h1, r1⟩ := trodAll_cons r0
  obtain ⟨v2, vs2, d2, ds2, p2, q2, rfl, rfl, rfl, h2, r2⟩ := trodAll_cons r1
  obtain ⟨rfl, rfl, rfl⟩ := trodAll_nil r2
  obtain rfl : args = #[v0, v1, v2] := by cases args; simp_all
  obtain ⟨rfl, rfl⟩ := trodVars_none hV
  obtain ⟨a0, rfl, rfl, rfl, w0⟩ := open_string Tryd.underlying9 (hval 0 9 v0 rfl rfl) h0
  obtain ⟨a1, rfl, rfl, rfl, w1⟩ := open_string Tryd.underlying9 (hval 1 9 v1 rfl rfl) h1
  obtain ⟨a2, rfl, rfl, rfl, w2⟩ := open_string Tryd.underlying9 (hval 2 9 v2 rfl rfl) h2
  clear hA0
  simp only [List.append_nil] at hW'
  refine (pathJoins_walk a0 a1 a2 W (splitL.s1_3 W hsh) (str_small hk (by simp)) (str_small hk (by simp)) (str_small hk (by simp))).mono fun e W' ⟨he, hg⟩ => ?_
  have bel := hg.below
  subst he
  exact ⟨_, rfl, _, _, _, [], _, [], hW', trodAll_mk1 (shut_bool Tryd.underlying4 _), trodAll_cons_mk (shut_string Tryd.underlying9 w0) (trodAll_cons_mk (shut_string Tryd.underlying9 w1) (trodAll_cons_mk (shut_string Tryd.underlying9 w2) trodAll_mk0)), rfl, bel.frame _, fun h => by cases h⟩

theorem joins_met (os : Os) : laidMet Tryd.prog Rows.pathJoinsUptoRow.laid ((pathWorld os #[.string ByteArray.empty, .string ByteArray.empty, .string ByteArray.empty]).forCall (fun _ _ => 0) ⟨#[], #[.string ByteArray.empty, .string ByteArray.empty, .string ByteArray.empty], []⟩).memory :=
  laidMet_of_run' 8 (by kernel_rfl) (by kernel_rfl)
theorem joins_reads (os : Os) {H : Type} (enc : TypeId × Value → H) : ∃ places, DataW.whole enc Tryd.prog ((pathWorld os #[.string ByteArray.empty, .string ByteArray.empty, .string ByteArray.empty]).forCall (fun _ _ => 0) ⟨#[], #[.string ByteArray.empty, .string ByteArray.empty, .string ByteArray.empty], []⟩).memory Tryd.f4.params.toList Rows.pathJoinsSpec.vars false #[Value.string ByteArray.empty, .string ByteArray.empty, .string ByteArray.empty].toList 8 = some ([.lit (.string []), .lit (.string []), .lit (.string [])], [], places) :=
  ⟨[], by kernel_rfl⟩
set_option maxRecDepth 100000 in
theorem joins_lifted (os : Os) (started : os.Started) (H : Type) (enc : TypeId × Value → H) (F : Stop.Interp) :
    ReturnsInHanded {} Tryd.checked os 4 .any ((Rows.OpenSpec.upto Rows.pathJoinsSpec).preRow enc Tryd.prog Tryd.f4 Rows.pathJoinsUptoRow.domain false Rows.pathJoinsUptoRow.laid) (((Rows.OpenSpec.upto Rows.pathJoinsSpec).at F).post enc Tryd.prog Tryd.f4 false true false false) := by
  obtain ⟨places, hx⟩ := joins_reads os enc
  refine returnsInHanded_of_row (C := Tryd.checked) (s := Rows.OpenSpec.upto Rows.pathJoinsSpec) pown started (by kernel_rfl) Tryd.func4
    (witness_row_at (enc := enc) (C := Tryd.checked) false (pathWorld os #[.string ByteArray.empty, .string ByteArray.empty, .string ByteArray.empty]) #[.string ByteArray.empty, .string ByteArray.empty, .string ByteArray.empty] rfl (by kernel_rfl) (by kernel_rfl) (by kernel_rfl)
      (OpenSpec.preRow_of_cond 8 hx (by kernel_rfl) (fun k hk => by cases hk; kernel_rfl) (by kernel_rfl) (joins_met os))) ?_
  intro W base args ds gs before hval hW _ hcond _ _ hsh _
  exact joins_contract H enc W base args ds gs before hval hW (hcond _ rfl) hsh
theorem joins_said : Rows.PathJoinsUptoSaid :=
  OpenClaim.holds_of_cond 4 Tryd.f4 rfl rfl rfl rfl rfl rfl rfl ⟨rfl, rfl, rfl, rfl, rfl⟩ rfl rfl rfl rfl rfl (by kernel_rfl) Tryd.func4 (by kernel_rfl)
    (of_decide_eq_true (by kernel_rfl)) (by unfold Func.isWrapper; first | (rw [if_pos (by decide +kernel)]; kernel_rfl) | (rw [if_neg (by decide +kernel)]; exact ⟨rfl, rfl⟩))
    (fun os started H enc _ F => by rw [OpenClaim.pre_eq_preRow]; exact joins_lifted os started H enc F)
theorem joins_plain (f : FuncId) (fn : Func) (hf : Tryd.pinned.checked.prog.funcNamed "garderobe/garderobelaw18.PathJoins" = some f) (hfn : Tryd.pinned.checked.prog.funcs[f]? = some fn) :
    false = Tryd.pinned.checked.prog.looks [] ∧ ∀ (j : Nat) t, fn.params[j]? = some t → Tryd.pinned.checked.prog.wantsStandIn t = false := by
  obtain rfl : f = 4 := Option.some.inj ((show Tryd.prog.funcNamed "garderobe/garderobelaw18.PathJoins" = some 4 by kernel_rfl).symm.trans hf) |>.symm
  obtain rfl : fn = Tryd.f4 := (Option.some.inj (Tryd.func4.symm.trans hfn)).symm
  refine ⟨by kernel_rfl, fun j t ht => ?_⟩
  rw [Tryd.params4] at ht
  have hm : t ∈ [9, 9, 9] := by simpa using Array.mem_of_getElem? ht
  obtain rfl : t = 9 := by simpa using hm
  exact (show Tryd.prog.wantsStandIn 9 = false by kernel_rfl)
/-- THE STATEMENT. -/
theorem pathJoins_holds : Rows.PathJoinsUptoCardSaid :=
  Claim7.holds_tied_plain_at .later [] _ _ _ _ joins_said (fun _ h => by cases h) (by kernel_rfl) (fun _ h => by cases h) pathJoinsUpto_row_tie rfl ⟨rfl, rfl⟩ (by kernel_rfl) rfl joins_plain (by kernel_rfl)
#print axioms pathJoins_holds
end Go.Proofs.YtjdfeagjbhdceaaDoor
