/- Spans: space.Holes walked. -/
import Derived.Test.YtjdfeagjbhdceaaSpaceD
import Derived.Laws.OwnMore
namespace Go.Proofs.Ytjdfeagjbhdceaa
set_option linter.unusedVariables false
set_option linter.unusedSimpArgs false
open Go.RowKit Go.Shelf

theorem clip_any (v : Value) (n : Nat) (xs : List Value) (base : Nat) (w : World) (ho : w.ownsRow base 34 2 v n xs) (hn : n ≤ 100000) :
    Calls Try.prog 47 #[v] w fun e w' => (∃ v', e = .returned v' ∧ w.ownsRow base 34 2 v n xs ∧ ((v' = v ∧ v = .slice none 0 0) ∨ ∃ g cap, v = .slice (some ⟨g, 0, none⟩) n cap ∧ v' = .slice (some ⟨g, 0, none⟩) n n)) ∧ w' = w := by
  have HO := Lib.hid ho
  obtain ⟨hl, ⟨rfl, rfl⟩ | ⟨g, cap, cur, rfl, hbase, hg, hc, _, _, _⟩⟩ := ho
  · go_enter Try.func47, Try.ntmps47
    go_wp2
    go_ret
    exact ⟨⟨_, rfl, HO.out, .inl (by simp)⟩, rfl⟩
  · clear hg
    go_enter Try.func47, Try.ntmps47
    go_wp2
    go_ret
    exact ⟨⟨_, rfl, HO.out, .inr ⟨g, cap, rfl, by simp⟩⟩, rfl⟩
theorem RdS.clipped {w : World} {base : Nat} {v v' : Value} {n : Nat} {xs : List Sp} (hn : n = xs.length) (ho : w.ownsRow base 34 2 v n (cellsOf Sp.cells xs)) (h : (v' = v ∧ v = .slice none 0 0) ∨ ∃ g cap, v = .slice (some ⟨g, 0, none⟩) n cap ∧ v' = .slice (some ⟨g, 0, none⟩) n n) : RdS Sp.cells 2 w v' xs := by
  have hr := RdS.own Sp.clen hn ho
  rcases h with ⟨rfl, _⟩ | ⟨g, cap, rfl, rfl⟩
  · exact hr
  · subst hn
    obtain ⟨A, cap', he, hc, h⟩ := hr
    cases he
    exact ⟨_, _, rfl, Nat.le_refl _, h⟩

theorem oneSpan {w : World} {g : Nat} {T : TypeId} {fr : Nat × Nat} {s : Sp} (hg : w.heap[g]? = some (.cells #[.int .i64 s.at_, .int .i64 s.len] T fr)) : RdS Sp.cells 2 w (.slice (some ⟨g, 0, none⟩) 1 1) [s] :=
  ⟨_, 1, rfl, Nat.le_refl _, .inr ⟨g, 0, _, T, fr, rfl, hg, fun j hj i hi => by
    obtain rfl : j = 0 := by simp at hj; omega
    match i, hi with
    | 0, _ => rfl
    | 1, _ => rfl⟩⟩
/-- A load of an element of a slice of spans. -/
theorem L_loadSp {P : Program} {ops : Array Oper} {Q : Exit → Act → World → Prop} {a : Act} {w : World} {rest : List Oper} {o : Oper} (hgd : o.guard = none) {ty : TypeId} {x : Operand} (ho : o.op = .load ty x) {b off n cap : Nat} {xs : List Sp} (hr : RdS Sp.cells 2 w (.slice (some ⟨b, off, none⟩) n cap) xs) {j : Nat} (hj : j < xs.length)
    (hx : a.eval x = .pointer (some ⟨b, off + j * 2, none⟩)) {s : Sp} (hs : xs[j] = s) {d : TypeDesc} (hu : P.underlying ty = some d) (hd : d.isRow = true) (hi : (P.info? ty).map (·.size) = some 2) (k : wpList P ops Q rest (a.put o.dst (.agg #[.int .i64 s.at_, .int .i64 s.len])) w) : wpList P ops Q (o :: rest) a w := by
  obtain ⟨b', off', cs, T, fr, he, hb, hcs⟩ := hr.cell hj
  cases he
  rw [hs] at hcs
  refine wpList_load_mid hgd ty x ho b (off + j * 2) hx s.cells d (fun i u hu' => ?_) hu hd hi k
  rw [cell_of_row w b _ cs T fr hb, hcs i (by have := (List.getElem?_eq_some_iff.1 hu').1; rw [Sp.clen] at this; exact this)]
  exact hu'

def HoRel (zs : List Sp) (A : Option Addr) (cap : Nat) (w0 : World) (vo ve vi : Value) (wr : World) : Prop :=
  ∃ (k : Nat) (e : Int) (out : List Sp), ve = .int .i64 e ∧ vi = .int .i64 (k : Int) ∧ k ≤ zs.length ∧ 0 ≤ e ∧ e ≤ 4096 ∧ out.length ≤ k ∧ Hid (out ++ holesGo e (zs.drop k) = holesGo 0 zs) ∧ SH (fun _ => False) w0 wr [ownA 34 2 vo out.length (cellsOf Sp.cells out), ownA 34 2 (.slice A zs.length cap) zs.length (cellsOf Sp.cells zs)]

set_option maxRecDepth 100000 in
set_option maxHeartbeats 8000000 in
theorem holes_any (sv : Value) (xs : List Sp) (t : Int) (w0 : World) (hlen : xs.length ≤ 1000) (hr : RdS Sp.cells 2 w0 sv xs) (ht0 : 0 ≤ t) (ht : t ≤ 4096) (hsm : Small xs) :
    Calls Try.prog 19 #[sv, .int .i64 t] w0 fun e w' => (∃ v, e = .returned v ∧ RdS Sp.cells 2 w' v (holesL xs t)) ∧ Ext0 w0 w' := by
  have hgd := good_any sv xs t w0 hlen hr ht0 ht hsm
  have hso := fun {w : World} (h : Ext0 w0 w) => sorted_any sv xs (by omega) w (hr.keep h)
  obtain ⟨hs, hhs⟩ : ∃ hs, holesL xs t = hs := ⟨_, rfl⟩
  have HH := Lib.hid hhs
  rw [hhs]
  obtain ⟨q, hq⟩ : ∃ q, goodB xs t = q := ⟨_, rfl⟩
  have HQ := Lib.hid hq
  rw [hq] at hgd
  have H : SH (fun _ => False) w0 w0 [] := SH.nil _ _
  clear hq hhs
  cases q
  · go_enter Try.func19, Try.ntmps19
    go_wp2_with (go_at_call 16; refine hgd.mono ?_; rintro e w ⟨rfl, hE⟩)
    go_ret
    exact ⟨⟨_, rfl, by rw [← HH.out]; unfold holesL; rw [HQ.out]; exact RdS.nil _ _ _⟩, hE⟩
  · go_enter Try.func19, Try.ntmps19
    go_wp2_with (first
      | (go_at_call 16; refine hgd.mono ?_; rintro e w ⟨rfl, hE⟩; replace H := H.calls hE; clear hE)
      | (go_at_call 45; refine (hso H.ext).mono ?_; rintro e w ⟨v, ys, rfl, hp, hs', ho, hE⟩; replace H := H.addOwn hE ho; have hyl : ys.length ≤ 1000 := (by rw [hp.length_eq]; exact hlen); have hnb : (ys.length + [(⟨t, 0⟩ : Sp)].length) * 16 ≤ 140737488355328 := (by simp only [List.length_cons, List.length_nil]; omega); have hnm : ys.length + [(⟨t, 0⟩ : Sp)].length ≤ maxLen := (by simp only [maxLen, List.length_cons, List.length_nil]; omega); have HPS := Lib.hid (And.intro hp hs'); clear hE ho hp hs' hso)
      | (refine L_append Sp.clen Sp.one rfl rfl Try.underlying22 tinfo34 rfl (by decide) (H.alloc (.cells #[.int .i64 t, .int .i64 0] 34)) 1 rfl rfl rfl (oneSpan (s := ⟨t, 0⟩) ((H.alloc (.cells #[.int .i64 t, .int .i64 0] 34)).at_ 0 rfl)) hnb hnm ?_; clear H; intro v2 w2 H hnn; simp only [List.set_cons_succ, List.set_cons_zero] at H; replace H := H.drop (List.sublist_cons_self _ _); rw [← cellsOf_append] at H; obtain ⟨A, cap, rfl, _⟩ := (RdS.own Sp.clen (by simp) (H.get 0 rfl)).len; simp only [List.length_append, List.length_cons, List.length_nil, Nat.zero_add] at H))
    have HG : Hid (hs = holesGo 0 (ys ++ [⟨t, 0⟩])) := Lib.hid (by rw [← HH.out]; exact holesL_go ht0 HPS.out.1 HPS.out.2 HQ.out)
    have HZ : Hid (∀ s ∈ ys ++ [(⟨t, 0⟩ : Sp)], 0 ≤ s.at_ ∧ s.at_ ≤ t ∧ 0 ≤ s.len ∧ s.at_ + s.len ≤ t) := Lib.hid (fun s hs => by
      have hg : GoodS xs t := of_decide_eq_true HQ.out
      rcases List.mem_append.1 hs with hs | hs
      · have := hg.1 s (HPS.out.1.subset hs); omega
      · rw [List.mem_singleton.1 hs]; simp only; omega)
    have hzl : (ys ++ [(⟨t, 0⟩ : Sp)]).length = ys.length + 1 := by simp
    rw [← hzl] at H
    have hyl1 : ((ys.length : Int) + 1) = ((ys ++ [(⟨t, 0⟩ : Sp)]).length : Int) := by rw [hzl]; omega
    rw [hyl1, ← hzl]
    have hzl2 : (ys ++ [(⟨t, 0⟩ : Sp)]).length ≤ 1001 := by omega
    clear hyl1 hzl hnb hnm hgd hsm
    generalize ys ++ [(⟨t, 0⟩ : Sp)] = zs at H HG HZ hzl2 ⊢
    replace H := H.addNil 34 2
    go_loopw [5, 6, 8, 20] (fun vo ve _ vi wr => HoRel zs A cap w0 vo ve vi wr) (fun _ _ _ vi _ => zs.length - (intOf vi).toNat)
    case atStart => exact ⟨0, 0, [], rfl, rfl, Nat.zero_le _, Int.le_refl _, by omega, Nat.le_refl _, Lib.hid rfl, H⟩
    case round =>
      clear H
      obtain ⟨k, e, out, rfl, rfl, hk, he0, he1, hol, HR, H⟩ := hrel
      by_cases hkn : k < zs.length
      · have hki : (k : Int) < (zs.length : Int) := by omega
        obtain ⟨b, off, _, _, _, rfl, _, _⟩ := (RdS.own Sp.clen rfl (H.get 1 rfl)).cell hkn
        have hdr : zs.drop k = zs[k] :: zs.drop (k + 1) := List.drop_eq_getElem_cons hkn
        obtain ⟨z1, z2, z3, z4⟩ := HZ.out zs[k] (List.getElem_mem hkn)
        obtain ⟨s, hsk⟩ : ∃ s, zs[k] = s := ⟨_, rfl⟩
        rw [hsk] at hdr z1 z2 z3 z4
        have HS := Lib.hid hsk
        have HR2 := Lib.hid (show out ++ ((if e < s.at_ then [⟨e, s.at_ - e⟩] else []) ++ holesGo (s.at_ + s.len) (zs.drop (k + 1))) = holesGo 0 zs by rw [← HR.out, hdr]; rfl)
        clear hdr hsk HR
        by_cases hes : e < s.at_
        · have hnb : (out.length + [(⟨e, s.at_ - e⟩ : Sp)].length) * 16 ≤ 140737488355328 := by simp only [List.length_cons, List.length_nil]; omega
          have hnm : out.length + [(⟨e, s.at_ - e⟩ : Sp)].length ≤ maxLen := by simp only [maxLen, List.length_cons, List.length_nil]; omega
          have H2 := ((H.alloc (.cells #[.int .i64 s.at_, .int .i64 s.len] 34)).alloc (.cells #[.int .i64 e, .int .i64 (s.at_ - e)] 34))
          simp only [World.size_alloc] at H2
          go_wp2_with (first
            | (refine L_loadSp (ty := 34) (b := b) (off := off) rfl rfl (RdS.own Sp.clen rfl (H.get 1 rfl)) hkn rfl HS.out Try.underlying34 rfl info34 ?_; (try simp only [Act.put, List.setIfInBounds_toArray, List.set_cons_succ, List.set_cons_zero, List.getElem_toArray, List.getElem_cons_succ, List.getElem_cons_zero]))
            | (refine L_append Sp.clen Sp.one rfl rfl Try.underlying22 tinfo34 rfl (by decide) H2 2 rfl rfl rfl (oneSpan (s := ⟨e, s.at_ - e⟩) (H2.at_ 0 rfl)) hnb hnm ?_; clear H H2; intro v2 w2 H hnn; simp only [List.set_cons_succ, List.set_cons_zero] at H; have hb1 := H.at_ 1 rfl; have hcA := cell_of_row w2 _ 0 _ _ _ hb1; have hcB := cell_of_row w2 _ 1 _ _ _ hb1))
          have H3 := H.drop (L' := [_, _]) (List.Sublist.cons _ (List.Sublist.cons _ (List.Sublist.refl _)))
          rw [← cellsOf_append] at H3
          refine ⟨⟨k + 1, s.at_ + s.len, out ++ [⟨e, s.at_ - e⟩], by go_num, by go_num, hkn, by omega, by omega, by simp; omega, Lib.hid (by rw [← HR2.out, if_pos hes]; simp), by simpa using H3⟩, ?_⟩
          simp [intOf]; omega
        · go_wp2_with (refine L_loadSp (ty := 34) (b := b) (off := off) rfl rfl (RdS.own Sp.clen rfl (H.get 1 rfl)) hkn rfl HS.out Try.underlying34 rfl info34 ?_; (try simp only [Act.put, List.setIfInBounds_toArray, List.set_cons_succ, List.set_cons_zero, List.getElem_toArray, List.getElem_cons_succ, List.getElem_cons_zero]))
          refine ⟨⟨k + 1, s.at_ + s.len, out, by go_num, by go_num, hkn, by omega, by omega, by omega, Lib.hid (by rw [← HR2.out, if_neg hes]; rfl), (H.alloc _).drop (List.sublist_cons_self _ _)⟩, ?_⟩
          simp [intOf]; omega
      · obtain rfl : k = zs.length := by omega
        have hon : out = hs := by have := HR.out; rw [List.drop_length] at this; rw [HG.out, ← this]; simp [holesGo]
        have hcl := clip_any u5 out.length _ 0 _ (H.get 0 rfl) (by omega)
        go_wp2_with (go_at_call 47; refine hcl.mono ?_; rintro e w ⟨⟨v', rfl, ho, hv⟩, rfl⟩)
        go_ret
        exact ⟨⟨_, rfl, by rw [← hon]; exact RdS.clipped rfl ho hv⟩, H.ext⟩
end Go.Proofs.Ytjdfeagjbhdceaa
