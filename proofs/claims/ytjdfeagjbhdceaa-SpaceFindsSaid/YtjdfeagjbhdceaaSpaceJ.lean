/- SpaceOrder: the order of spans does not count; with one less there is as much more room: for every input. -/
import Derived.Test.YtjdfeagjbhdceaaSpaceI
import Derived.Test.YtjdfeagjbhdceaaDiskH
import Derived.Deep.RegionWith
namespace Go.Proofs.Ytjdfeagjbhdceaa
set_option linter.unusedVariables false
set_option linter.unusedSimpArgs false
open Go.RowKit Go.Shelf

theorem RdS.dropS {w : World} {b off n cap : Nat} {xs : List Sp} (h : RdS Sp.cells 2 w (.slice (some ⟨b, off, none⟩) n cap) xs) (m : Nat) (hm : m ≤ xs.length) : RdS Sp.cells 2 w (.slice (some ⟨b, off + m * 2, none⟩) (xs.length - m) (cap - m)) (xs.drop m) := by
  obtain ⟨A', cap', he, hc, h⟩ := h
  cases he
  refine ⟨_, cap - m, by rw [List.length_drop], by rw [List.length_drop]; omega, ?_⟩
  rcases h with h | ⟨b', off', cs, T, fr, h1, h2, h3⟩
  · left; rw [h]; simp
  · cases h1
    right
    refine ⟨b, off + m * 2, cs, T, fr, rfl, h2, fun j hj i hi => ?_⟩
    rw [List.getElem_drop, ← h3 (m + j) (by rw [List.length_drop] at hj; omega) i hi]
    congr 1
    rw [Nat.add_mul]; omega
theorem R_loadCell {P : Program} {a : Act} {w : World} {o : Oper} {ty : TypeId} {x : Operand} (ho : o.op = .load ty x) {p : Addr} {v : Value} (hx : a.eval x = .pointer (some p)) (hc : w.cell? p = some v) (hag : ∀ w, (isAgg ty).run P w = .ok false w) : (execOp a.eval o).run P w = .ok (.value v) w := by
  unfold execOp
  simp only [ho, hx, Instr.loadAt, Instr.sureAddr, loadVar, Sem.run_bind, Sem.run_pure, Result.andThen_ok, hag]
  simp [hc]
theorem RdS.cellAt {w : World} {b off n cap : Nat} {xs : List Sp} (h : RdS Sp.cells 2 w (.slice (some ⟨b, off, none⟩) n cap) xs) {j : Nat} (hj : j < xs.length) {s : Sp} (hs : xs[j] = s) : w.cell? ⟨b, off + j * 2, none⟩ = some (.int .i64 s.at_) ∧ w.cell? ⟨b, off + j * 2 + 1, none⟩ = some (.int .i64 s.len) := by
  obtain ⟨b', off', cs, T, fr, he, hb, hcs⟩ := h.cell hj
  cases he
  rw [hs] at hcs
  exact ⟨by rw [cell_of_row w b _ cs T fr hb]; exact hcs 0 (by omega), by rw [cell_of_row w b _ cs T fr hb]; exact hcs 1 (by omega)⟩

def OrRel (l : List Sp) (w0 : World) (vt vi : Value) (wr : World) : Prop :=
  ∃ j : Nat, vi = .int .i64 ((j : Int) - 1) ∧ j ≤ l.length ∧ SH (fun _ => False) w0 wr [ownA 34 2 vt (l.length - j) (cellsOf Sp.cells ((l.drop j).reverse))]

set_option maxRecDepth 100000 in
set_option maxHeartbeats 8000000 in
theorem order_walk (sv : Value) (xs : List Sp) (a : Int) (w0 : World) (hr : RdS Sp.cells 2 w0 sv xs) (hok : ∀ x ∈ xs, x.Ok) (ha0 : 0 ≤ a) (ha1 : a ≤ 65535) :
    Calls Try.prog 5 #[sv, .int .u16 a] w0 fun e w' => e = .returned (.bool true) ∧ Ext0 w0 w' := by
  have H : SH (fun _ => False) w0 w0 [] := SH.nil _ _
  have hfew := few_any sv xs w0 hr
  have hl : (xs.take 40).length ≤ 40 := by rw [List.length_take]; omega
  have hsm : Small (xs.take 40) := fun s hs => hok s (List.mem_of_mem_take hs)
  generalize xs.take 40 = l at hfew hl hsm
  obtain ⟨t, ht⟩ : ∃ t, a % 4097 = t := ⟨_, rfl⟩
  have ht0 : 0 ≤ t := by omega
  have ht1 : t ≤ 4096 := by omega
  have hta : Int.tmod a 4097 = t := by rw [← ht]; exact Int.tmod_eq_emod_of_nonneg ha0
  have HSM := Lib.hid hsm
  clear hsm
  go_enter Try.func5, Try.ntmps5
  go_wp2_with (first
    | (go_at_call 12; refine hfew.mono ?_; rintro e w ⟨⟨v, rfl, hv⟩, rfl⟩; obtain ⟨A, cap, rfl, hcap⟩ := hv.len))
  clear hfew
  replace H := (H.alloc (.cells #[] 34)).toOwn 0 rfl 2 0 0 (Nat.le_refl _) (Nat.zero_le _) rfl [] rfl
  simp only [List.set_cons_zero] at H
  go_loopw [7, 8] (fun vt vi wr => OrRel l w vt vi wr) (fun _ vi _ => (intOf vi + 1).toNat)
  case atStart => exact ⟨l.length, rfl, Nat.le_refl _, by simpa [cellsOf] using H⟩
  case round =>
    clear H
    obtain ⟨j, rfl, hj, H⟩ := hrel
    by_cases hj0 : 0 < j
    · have hji : 0 ≤ (j : Int) - 1 := by omega
      have hjn : j - 1 < l.length := by omega
      obtain ⟨b, off, _, _, _, rfl, _, _⟩ := hv.cell hjn
      have hdr : l.drop (j - 1) = l[j - 1] :: l.drop j := by rw [List.drop_eq_getElem_cons hjn, show j - 1 + 1 = j by omega]
      obtain ⟨s, hs⟩ : ∃ s, l[j - 1] = s := ⟨_, rfl⟩
      rw [hs] at hdr
      have HS := Lib.hid hs
      have HD := Lib.hid hdr
      clear hs hdr
      have hcast : ((j : Int) - 1) = ((j - 1 : Nat) : Int) := by omega
      have hnb : (l.length - j + [s].length) * 16 ≤ 140737488355328 := by simp only [List.length_cons, List.length_nil]; omega
      have hnm : l.length - j + [s].length ≤ maxLen := by simp only [maxLen, List.length_cons, List.length_nil]; omega
      have H2 := H.alloc (.cells #[.int .i64 s.at_, .int .i64 s.len] 34)
      rw [hcast]
      obtain ⟨i, hi⟩ : ∃ i, j - 1 = i := ⟨_, rfl⟩
      simp only [hi] at HS HD hjn ⊢
      have hil : (i : Int) < (l.length : Int) := by omega
      clear hcast hji
      go_wp2_with (first
        | (refine L_loadSp (ty := 34) (b := b) (off := off) rfl rfl (hv.keep H.ext) hjn rfl HS.out Try.underlying34 rfl info34 ?_; (try simp only [Act.put, List.setIfInBounds_toArray, List.set_cons_succ, List.set_cons_zero, List.getElem_toArray, List.getElem_cons_succ, List.getElem_cons_zero]))
        | (refine L_append Sp.clen Sp.one rfl rfl Try.underlying22 tinfo34 rfl (by decide) H2 1 rfl rfl rfl (oneSpan (s := s) (H2.at_ 0 rfl)) hnb hnm ?_; clear H H2; intro v2 w2 H hnn; simp only [List.set_cons_succ, List.set_cons_zero] at H))
      have H3 := H.drop (List.sublist_cons_self _ _)
      rw [← cellsOf_append] at H3
      refine ⟨⟨i, by go_num, by omega, ?_⟩, ?_⟩
      · rw [HD.out, List.reverse_cons, show l.length - i = l.length - j + [s].length by simp; omega]
        exact H3
      · simp [intOf]; try omega
    · obtain rfl : j = 0 := by omega
      rw [List.drop_zero, Nat.sub_zero] at H
      have hlr : l.reverse.length = l.length := List.length_reverse
      have hrv : RdS Sp.cells 2 wr u7 l.reverse := RdS.own Sp.clen hlr.symm (H.get 0 rfl)
      obtain ⟨A2, cap2, rfl, _⟩ := hrv.len
      have H0 : SH (fun _ => False) w wr [] := H.drop (List.nil_sublist _)
      clear H
      have H := H0
      clear H0
      have hsm2 : Small l.reverse := fun s hs => HSM.out s (List.mem_reverse.1 hs)
      have hg1 := fun {w : World} (h : RdS Sp.cells 2 w (.slice A l.length cap) l) => good_any _ l t w (by omega) h ht0 ht1 HSM.out
      have hg2 := fun {w : World} (h : RdS Sp.cells 2 w (.slice A2 l.reverse.length cap2) l.reverse) => good_any _ l.reverse t w (by omega) h ht0 ht1 hsm2
      rw [goodB_perm t (List.reverse_perm l)] at hg2
      have hh1 := fun {w : World} (h : RdS Sp.cells 2 w (.slice A l.length cap) l) => holes_any _ l t w (by omega) h ht0 ht1 HSM.out
      have hh2 := fun {w : World} (h : RdS Sp.cells 2 w (.slice A2 l.reverse.length cap2) l.reverse) => holes_any _ l.reverse t w (by omega) h ht0 ht1 hsm2
      rw [holesL_perm t (List.reverse_perm l)] at hh2
      have hhl := holesL_len (xs := l) ht0 ht1
      generalize holesL l t = hs at hh1 hh2 hhl
      have haw := fun {w : World} => awake_space w
      obtain ⟨q, hq⟩ : ∃ q, goodB l t = q := ⟨_, rfl⟩
      rw [hq] at hg1 hg2
      rw [hlr] at hrv hg2 hh2 ⊢
      have HQ := Lib.hid hq
      have hji : ¬ 0 ≤ ((0 : Nat) : Int) - 1 := by omega
      clear hq hsm2 hlr
      by_cases hdone : l.length = 0 ∨ q = false
      · have hstop : ((l.length : Int) == 0 || !q) = true := by rcases hdone with h | h <;> simp [h]
        cases q
        · clear hdone hstop
          go_wp2_with (first
            | (go_at_call_of 16 (Value.slice A l.length cap); refine (hg1 (hv.keep H.ext)).mono ?_; rintro e w1 ⟨rfl, h⟩; replace H := H.calls h; (try replace hrv := hrv.keep h); clear h)
            | (go_at_call_of 16 (Value.slice A2 l.length cap2); refine (hg2 hrv).mono ?_; rintro e w1 ⟨rfl, h⟩; replace H := H.calls h; replace hrv := hrv.keep h; clear h)
            | (go_at_call_of 19 (Value.slice A l.length cap); refine (hh1 (hv.keep H.ext)).mono ?_; rintro e w1 ⟨⟨v1, rfl, hv1⟩, h⟩; replace H := H.calls h; replace hrv := hrv.keep h; clear h)
            | (go_at_call_of 19 (Value.slice A2 l.length cap2); refine (hh2 hrv).mono ?_; rintro e w1 ⟨⟨v2, rfl, hv2⟩, h⟩; replace H := H.calls h; replace hrv := hrv.keep h; replace hv1 := hv1.keep h; clear h)
            | (go_at_call 18; refine (same_any _ _ hs hs _ hv1 hv2 (by omega) (by omega)).mono ?_; rintro e w2 ⟨⟨q', rfl, hq'⟩, h⟩; obtain rfl : q' = true := hq'.2 rfl; replace H := H.calls h; clear h hv1 hv2 hq')
            | (go_at_call 15; refine haw.mono ?_; rintro e w1 ⟨rfl, h⟩; replace H := H.calls h; clear h))
          all_goals (go_ret; exact ⟨rfl, H.ext⟩)
        · have h0 : l.length = 0 := by simpa using hdone
          have h0' : ((l.length : Int) == 0) = true := by simp [h0]
          clear hdone hstop h0
          go_wp2_with (first
            | (go_at_call_of 16 (Value.slice A l.length cap); refine (hg1 (hv.keep H.ext)).mono ?_; rintro e w1 ⟨rfl, h⟩; replace H := H.calls h; (try replace hrv := hrv.keep h); clear h)
            | (go_at_call_of 16 (Value.slice A2 l.length cap2); refine (hg2 hrv).mono ?_; rintro e w1 ⟨rfl, h⟩; replace H := H.calls h; replace hrv := hrv.keep h; clear h)
            | (go_at_call_of 19 (Value.slice A l.length cap); refine (hh1 (hv.keep H.ext)).mono ?_; rintro e w1 ⟨⟨v1, rfl, hv1⟩, h⟩; replace H := H.calls h; replace hrv := hrv.keep h; clear h)
            | (go_at_call_of 19 (Value.slice A2 l.length cap2); refine (hh2 hrv).mono ?_; rintro e w1 ⟨⟨v2, rfl, hv2⟩, h⟩; replace H := H.calls h; replace hrv := hrv.keep h; replace hv1 := hv1.keep h; clear h)
            | (go_at_call 18; refine (same_any _ _ hs hs _ hv1 hv2 (by omega) (by omega)).mono ?_; rintro e w2 ⟨⟨q', rfl, hq'⟩, h⟩; obtain rfl : q' = true := hq'.2 rfl; replace H := H.calls h; clear h hv1 hv2 hq')
            | (go_at_call 15; refine haw.mono ?_; rintro e w1 ⟨rfl, h⟩; replace H := H.calls h; clear h))
          all_goals (go_ret; exact ⟨rfl, H.ext⟩)
      · have hne : 0 < l.length := by
          rcases Nat.eq_zero_or_pos l.length with h | h
          · exact absurd (Or.inl h) hdone
          · exact h
        obtain rfl : q = true := by cases q <;> simp_all
        have h0' : ((l.length : Int) == 0) = false := by rw [beq_eq_false_iff_ne]; omega
        have hgood : GoodS l t := of_decide_eq_true HQ.out
        obtain ⟨b, off, cs', T', fr', rfl, hb', hcs'⟩ := hv.cell hne
        clear hb' hcs'
        obtain ⟨A1, hA1⟩ : ∃ A1, (if cap = 1 then some (⟨b, off, none⟩ : Addr) else some ⟨b, off + 2, none⟩) = A1 := ⟨_, rfl⟩
        have hd1 : RdS Sp.cells 2 w (.slice A1 (l.length - 1) (cap - 1)) (l.drop 1) := by
          have h1 := hv.dropS 1 (by omega)
          by_cases hc1 : cap = 1
          · rw [if_pos hc1] at hA1
            subst hA1
            have hl1 : l.length = 1 := by omega
            have : l.drop 1 = [] := List.drop_eq_nil_of_le (by omega)
            rw [this]
            exact ⟨_, _, by rw [hl1]; rfl, by simp, .inl rfl⟩
          · rw [if_neg hc1] at hA1
            subst hA1
            exact h1
        have hn1 : (1 : Int) ≤ (l.length : Int) := by omega
        have hsm1 : Small (l.drop 1) := fun s hs => HSM.out s (List.mem_of_mem_drop hs)
        obtain ⟨s, r, hlsr⟩ : ∃ s r, l = s :: r := by
          cases l with
          | nil => simp at hne
          | cons s r => exact ⟨s, r, rfl⟩
        have hle := less ht0 (hlsr ▸ hgood)
        have hdr : l.drop 1 = r := by rw [hlsr]; rfl
        have hls : l[0] = s := by subst hlsr; rfl
        rw [← hlsr, ← hdr] at hle
        have hc := fun {w : World} (h : RdS Sp.cells 2 w (.slice (some ⟨b, off, none⟩) l.length cap) l) => (h.cellAt hne hls).2
        have hg3 := fun {w : World} (h : RdS Sp.cells 2 w (.slice A1 (l.length - 1) (cap - 1)) (l.drop 1)) => good_any _ (l.drop 1) t w (by rw [List.length_drop]; omega) h ht0 ht1 hsm1
        rw [show goodB (l.drop 1) t = true from decide_eq_true hle.1] at hg3
        have hf1 := fun {w : World} (h : RdS Sp.cells 2 w (.slice (some ⟨b, off, none⟩) l.length cap) l) => free_any _ l t w (by omega) h ht0 ht1 HSM.out
        have hf3 := fun {w : World} (h : RdS Sp.cells 2 w (.slice A1 (l.length - 1) (cap - 1)) (l.drop 1)) => free_any _ (l.drop 1) t w (by rw [List.length_drop]; omega) h ht0 ht1 hsm1
        rw [hle.2] at hf3
        have hfl := free_le (xs := l) ht0
        have hsl := hgood.1 s (by rw [hlsr]; simp)
        generalize freeL l t = fr at hf1 hf3 hfl
        generalize l.drop 1 = l1 at hd1 hg3 hf3
        have hcc : l.length ≤ cap := hcap
        clear hlsr hdr hls hle hgood hsm1 hdone
        generalize l.length = n at hn1 hv h0' hd1 hc hg3 hf1 hf3 hne hcc hl hrv hg1 hg2 hh1 hh2 ⊢
        go_wp2_with (first
          | (go_at_call_of 16 (Value.slice (some ⟨b, off, none⟩) n cap); refine (hg1 (hv.keep H.ext)).mono ?_; rintro e w1 ⟨rfl, h⟩; replace H := H.calls h; (try replace hrv := hrv.keep h); clear h)
          | (go_at_call_of 16 (Value.slice A2 n cap2); refine (hg2 hrv).mono ?_; rintro e w1 ⟨rfl, h⟩; replace H := H.calls h; replace hrv := hrv.keep h; clear h)
          | (go_at_call_of 19 (Value.slice (some ⟨b, off, none⟩) n cap); refine (hh1 (hv.keep H.ext)).mono ?_; rintro e w1 ⟨⟨v1, rfl, hv1⟩, h⟩; replace H := H.calls h; replace hrv := hrv.keep h; clear h)
          | (go_at_call_of 19 (Value.slice A2 n cap2); refine (hh2 hrv).mono ?_; rintro e w1 ⟨⟨v2, rfl, hv2⟩, h⟩; replace H := H.calls h; replace hrv := hrv.keep h; replace hv1 := hv1.keep h; clear h)
          | (go_at_call 18; refine (same_any _ _ hs hs _ hv1 hv2 (by omega) (by omega)).mono ?_; rintro e w2 ⟨⟨q', rfl, hq'⟩, h⟩; obtain rfl : q' = true := hq'.2 rfl; replace H := H.calls h; clear h hv1 hv2 hq')
          | (go_at_call 15; refine haw.mono ?_; rintro e w1 ⟨rfl, h⟩; replace H := H.calls h; clear h))
        clear hg1 hg2 hh1 hh2 hrv
        have hw1 : Ext0 w w1 := H.ext
        have H9 : SH (fun _ => False) w w1 [] := H
        refine D_start H9 (by kernel_rfl) (fun hS => ?_)
        try simp only [Act.put, List.setIfInBounds_toArray, List.set_cons_succ, List.set_cons_zero]
        refine D_one 0 rfl (by kernel_rfl) (by rfl) ?_
        refine R_call (f := 15) (args := #[]) (by first | (go_simp; done) | (go_simp; rfl)) haw ?_
        clear hS
        rintro e w2 ⟨rfl, h⟩
        have hS := H9.drew.calls h
        clear h
        refine ⟨_, rfl, hS, ?_⟩
        try simp only [Act.put, List.getElem_toArray, List.getElem_cons_succ, List.getElem_cons_zero, List.setIfInBounds_toArray, List.set_cons_succ, List.set_cons_zero]
        refine D_take 1 (v := ?_) rfl (by kernel_rfl) (by kernel_rfl) (by kernel_rfl) (fun _ _ _ h => h) rfl (by rfl) (fun W hS => ?_) hS ?_
        rotate_left; (focus (first | (go_simp; done) | (go_simp; with_reducible rfl) | (go_simp; rfl))); all_goals skip; (try simp only [List.set_cons_succ, List.set_cons_zero])
        refine D_take 2 (v := ?_) rfl (by kernel_rfl) (by kernel_rfl) (by kernel_rfl) (fun _ _ _ h => h) rfl (by rfl) (fun W hS => ?_) hS ?_
        rotate_left; (focus (first | (go_simp; done) | (go_simp; with_reducible rfl) | (go_simp; rfl))); all_goals skip; (try simp only [List.set_cons_succ, List.set_cons_zero])
        refine D_take 3 (v := (.slice A1 (n - 1) (cap - 1))) rfl (by kernel_rfl) (by kernel_rfl) (by kernel_rfl) (fun _ _ _ h => h) rfl (by rfl) (fun W hS => by first | (go_simp; done) | (go_simp; rfl)) hS ?_; (try simp only [List.set_cons_succ, List.set_cons_zero])
        refine D_take 4 (v := ?_) rfl (by kernel_rfl) (by kernel_rfl) (by kernel_rfl) (fun _ _ _ h => h) rfl (by rfl) (fun W hS => ?_) hS ?_
        rotate_left; (focus (first | (go_simp; done) | (go_simp; with_reducible rfl) | (go_simp; rfl))); all_goals skip; (try simp only [List.set_cons_succ, List.set_cons_zero])
        refine D_one 5 rfl (by kernel_rfl) (by rfl) ?_
        refine R_call (f := 16) (args := #[.slice A1 (n - 1) (cap - 1), .int .i64 t]) (by first | (go_simp; done) | (go_simp; rfl)) (hg3 (hd1.keep hS.ext)) ?_
        rintro e w3 ⟨rfl, h⟩
        replace hS := hS.calls h
        clear h
        refine ⟨_, rfl, hS, ?_⟩
        try simp only [Act.put, List.getElem_toArray, List.getElem_cons_succ, List.getElem_cons_zero, List.setIfInBounds_toArray, List.set_cons_succ, List.set_cons_zero]
        refine D_take 6 (v := ?_) rfl (by kernel_rfl) (by kernel_rfl) (by kernel_rfl) (fun _ _ _ h => h) rfl (by rfl) (fun W hS => ?_) hS ?_
        rotate_left; (focus (first | (go_simp; done) | (go_simp; with_reducible rfl) | (go_simp; rfl))); all_goals skip; (try simp only [List.set_cons_succ, List.set_cons_zero])
        refine D_take 7 (v := ?_) rfl (by kernel_rfl) (by kernel_rfl) (by kernel_rfl) (fun _ _ _ h => h) rfl (by rfl) (fun W hS => ?_) hS ?_
        rotate_left; (focus (first | (go_simp; done) | (go_simp; with_reducible rfl) | (go_simp; rfl))); all_goals skip; (try simp only [List.set_cons_succ, List.set_cons_zero])
        refine D_take 8 (v := ?_) rfl (by kernel_rfl) (by kernel_rfl) (by kernel_rfl) (fun _ _ _ h => h) rfl (by rfl) (fun W hS => ?_) hS ?_
        rotate_left; (focus (first | (go_simp; done) | (go_simp; with_reducible rfl) | (go_simp; rfl))); all_goals skip; (try simp only [List.set_cons_succ, List.set_cons_zero])
        refine D_take 9 (v := (.slice A1 (n - 1) (cap - 1))) rfl (by kernel_rfl) (by kernel_rfl) (by kernel_rfl) (fun _ _ _ h => h) rfl (by rfl) (fun W hS => by first | (go_simp; done) | (go_simp; rfl)) hS ?_; (try simp only [List.set_cons_succ, List.set_cons_zero])
        refine D_take 10 (v := ?_) rfl (by kernel_rfl) (by kernel_rfl) (by kernel_rfl) (fun _ _ _ h => h) rfl (by rfl) (fun W hS => ?_) hS ?_
        rotate_left; (focus (first | (go_simp; done) | (go_simp; with_reducible rfl) | (go_simp; rfl))); all_goals skip; (try simp only [List.set_cons_succ, List.set_cons_zero])
        refine D_take 12 (v := ?_) rfl (by kernel_rfl) (by kernel_rfl) (by kernel_rfl) (fun _ _ _ h => h) rfl (by rfl) (fun W hS => ?_) hS ?_
        rotate_left; (focus (first | (go_simp; done) | (go_simp; with_reducible rfl) | (go_simp; rfl))); all_goals skip; (try simp only [List.set_cons_succ, List.set_cons_zero])
        refine D_take 13 (v := ?_) rfl (by kernel_rfl) (by kernel_rfl) (by kernel_rfl) (fun _ _ _ h => h) rfl (by rfl) (fun W hS => ?_) hS ?_
        rotate_left; (focus (first | (go_simp; done) | (go_simp; with_reducible rfl) | (go_simp; rfl))); all_goals skip; (try simp only [List.set_cons_succ, List.set_cons_zero])
        refine D_take 15 (v := ?_) rfl (by kernel_rfl) (by kernel_rfl) (by kernel_rfl) (fun _ _ _ h => h) rfl (by rfl) (fun W hS => ?_) hS ?_
        rotate_left; (focus (first | (go_simp; done) | (go_simp; with_reducible rfl) | (go_simp; rfl))); all_goals skip; (try simp only [List.set_cons_succ, List.set_cons_zero])
        refine D_take 16 (v := ?_) rfl (by kernel_rfl) (by kernel_rfl) (by kernel_rfl) (fun _ _ _ h => h) rfl (by rfl) (fun W hS => ?_) hS ?_
        rotate_left; (focus (first | (go_simp; done) | (go_simp; with_reducible rfl) | (go_simp; rfl))); all_goals skip; (try simp only [List.set_cons_succ, List.set_cons_zero])
        refine D_take 17 (v := ?_) rfl (by kernel_rfl) (by kernel_rfl) (by kernel_rfl) (fun _ _ _ h => h) rfl (by rfl) (fun W hS => ?_) hS ?_
        rotate_left; (focus (first | (go_simp; done) | (go_simp; with_reducible rfl) | (go_simp; rfl))); all_goals skip; (try simp only [List.set_cons_succ, List.set_cons_zero])
        refine D_take 18 (v := (.int .i64 s.len)) rfl (by kernel_rfl) (by kernel_rfl) (by kernel_rfl) (fun _ _ _ h => h) rfl (by rfl) (fun W hS => R_loadCell (ty := 3) (x := .tmp 73) (p := ⟨b, off + 0 * 2 + 1, none⟩) rfl rfl (hc (hv.keep hS.ext)) Try.isAgg3) hS ?_; (try simp only [List.set_cons_succ, List.set_cons_zero])
        refine D_one 11 rfl (by kernel_rfl) (by rfl) ?_
        refine R_call (f := 21) (args := #[.slice A1 (n - 1) (cap - 1), .int .i64 t]) (by first | (go_simp; done) | (go_simp; rfl)) (hf3 (hd1.keep hS.ext)) ?_
        rintro e w4 ⟨rfl, h⟩
        replace hS := hS.calls h
        clear h
        refine ⟨_, rfl, hS, ?_⟩
        try simp only [Act.put, List.getElem_toArray, List.getElem_cons_succ, List.getElem_cons_zero, List.setIfInBounds_toArray, List.set_cons_succ, List.set_cons_zero]
        refine D_one 14 rfl (by kernel_rfl) (by rfl) ?_
        refine R_call (f := 21) (args := #[.slice (some ⟨b, off, none⟩) n cap, .int .i64 t]) (by first | (go_simp; done) | (go_simp; rfl)) (hf1 (hv.keep hS.ext)) ?_
        rintro e w5 ⟨rfl, h⟩
        replace hS := hS.calls h
        clear h
        refine ⟨_, rfl, hS, ?_⟩
        try simp only [Act.put, List.getElem_toArray, List.getElem_cons_succ, List.getElem_cons_zero, List.setIfInBounds_toArray, List.set_cons_succ, List.set_cons_zero]
        refine D_take 19 (v := ?_) rfl (by kernel_rfl) (by kernel_rfl) (by kernel_rfl) (fun _ _ _ h => h) rfl (by rfl) (fun W hS => ?_) hS ?_
        rotate_left; (focus (first | (go_simp; done) | (go_simp; with_reducible rfl) | (go_simp; rfl))); all_goals skip; (try simp only [List.set_cons_succ, List.set_cons_zero])
        refine D_take 20 (v := ?_) rfl (by kernel_rfl) (by kernel_rfl) (by kernel_rfl) (fun _ _ _ h => h) rfl (by rfl) (fun W hS => ?_) hS ?_
        rotate_left; (focus (first | (go_simp; done) | (go_simp; with_reducible rfl) | (go_simp; rfl))); all_goals skip; (try simp only [List.set_cons_succ, List.set_cons_zero])
        refine D_take 21 (v := ?_) rfl (by kernel_rfl) (by kernel_rfl) (by kernel_rfl) (fun _ _ _ h => h) rfl (by rfl) (fun W hS => ?_) hS ?_
        rotate_left; (focus (first | (go_simp; done) | (go_simp; with_reducible rfl) | (go_simp; rfl))); all_goals skip; (try simp only [List.set_cons_succ, List.set_cons_zero])
        refine D_take 22 (v := ?_) rfl (by kernel_rfl) (by kernel_rfl) (by kernel_rfl) (fun _ _ _ h => h) rfl (by rfl) (fun W hS => ?_) hS ?_
        rotate_left; (focus (first | (go_simp; done) | (go_simp; with_reducible rfl) | (go_simp; rfl))); all_goals skip; (try simp only [List.set_cons_succ, List.set_cons_zero])
        refine wpAnyH_done (by kernel_rfl) ?_ _
        have hwr : IntKind.i64.wrap (fr + s.len) = fr + s.len := by simp [IntKind.wrap, IntKind.bits, IntKind.signed]; omega
        rw [hwr, beq_self_eq_true]
        go_wp2_with fail
        go_ret
        exact ⟨rfl, hS.ext⟩

theorem order_row (w : World) (v : Value) (h1 : ∃ xs : List Sp, RdS Sp.cells 2 w v xs ∧ ∀ x ∈ xs, x.Ok) (a : Int) (wa : (Lit.int .u16 a).wf = true) : Calls Try.prog 5 #[v, .int .u16 a] w fun e w' => e = .returned (.bool true) ∧ Below w.heap.size w w' := by
  obtain ⟨xs, hr, hx⟩ := h1
  have ba := wf_bounds' wa
  simp [IntKind.min, IntKind.max, IntKind.bits, IntKind.signed] at ba
  exact (order_walk v xs a w hr hx ba.1 (by omega)).mono fun _ _ h => ⟨h.1, h.2.below⟩
section
open Go.ChangeShapes Go.WideShapes Go.ChangeAt Go.RowKit
open Go.ChangeMaps (open_string shut_string)
theorem spaceOrder_own : ownKnob Try.prog.godebug = none := by kernel_rfl
theorem spaceOrder_laidOut : laidOutB Try.prog = true := by kernel_rfl
set_option maxRecDepth 100000 in
theorem spaceOrder_lifted (os : Os) (started : os.Started) (H : Type) (enc : TypeId × Value → H) :
    ReturnsInHanded {} Try.checked os 5 .any (Rows.spaceOrderSpec.pre6 enc Try.prog Try.f5 Rows.spaceOrderRow.domain false) (Rows.spaceOrderSpec.post enc Try.prog Try.f5 false true false false) := by
  refine returnsInHanded_of_change (C := Try.checked) spaceOrder_own started (by kernel_rfl) Try.func5
    (ChangeSpec.witness6 (enc := enc) (C := Try.checked) false ⟨#[], #[.slice none 0 0, .int .u16 0], []⟩ 8 (by kernel_rfl) (by kernel_rfl) (by kernel_rfl) (by kernel_rfl)) ?_
  intro W base args ds gs before hval0 hW hcnd _
  have hval : ∀ (j : Nat) t v, Try.f5.params[j]? = some t → args[j]? = some v → Value.okWide Try.prog W .any base t v := hval0
  have hW' := hW
  obtain ⟨p, q, hA0, hV, rfl, hfz, hnd⟩ := hW
  have hA : DataW.TrodAll enc Try.prog W 0 (fun _ => true) true Try.f5.params.toList args.toList ds p := hA0
  rw [Try.params5] at hA hval
  obtain ⟨v0, vs0, d0, ds0, p0, q0, hargs, rfl, rfl, h0, r0⟩ := trodAll_cons hA
  obtain ⟨v1, vs1, d1, ds1, p1, q1, rfl, rfl, rfl, h1, r1⟩ := trodAll_cons r0
  obtain ⟨rfl, rfl, rfl⟩ := trodAll_nil r1
  obtain rfl : args = #[v0, v1] := by cases args; simp_all
  obtain ⟨rfl, rfl⟩ := trodVars_none hV
  have k0 := h0
  have lt0 : ∀ x ∈ p0, x.block < W.heap.size := by obtain ⟨m, hm⟩ := k0; exact DataW.trod_lt m _ _ _ hm
  have w0 := spans_of (hval 0 22 v0 rfl rfl) h0
  obtain ⟨a1, rfl, rfl, rfl, w1⟩ := open_int Try.underlying23 (hval 1 23 v1 rfl rfl) h1
  clear hA0 hval0
  refine (order_row W v0 w0 a1 w1).mono fun e W' ⟨he, bel⟩ => ?_
  subst he
  exact ⟨_, rfl, _, _, _, [], _, [], hW', trodAll_mk1 (shut_bool Try.underlying4 _), (trodAll_cons_mk (Below.trod spaceOrder_laidOut (by kernel_rfl) (of_decide_eq_true (by kernel_rfl)) k0 bel lt0) (trodAll_cons_mk (shut_int Try.underlying23 w1) trodAll_mk0)), rfl, bel.frame _, fun h => by cases h⟩
theorem spaceOrder_over : Rows.spaceOrderRow.holds Try.pinned (OpenSpec.ofChange Rows.spaceOrderSpec) :=
  OpenClaim.holds_of_wide 5 Try.f5 rfl rfl rfl rfl rfl rfl rfl ⟨rfl, rfl, rfl, rfl, rfl⟩ rfl rfl rfl rfl rfl (by kernel_rfl) Try.func5 (by kernel_rfl)
    (of_decide_eq_true (by kernel_rfl)) (by unfold Func.isWrapper; first | (rw [if_pos (by decide +kernel)]; kernel_rfl) | (rw [if_neg (by decide +kernel)]; exact ⟨rfl, rfl⟩))
    (fun os started H enc _ => spaceOrder_lifted os started H enc)
/-- THE STATEMENT. -/
theorem spaceOrder_holds : Rows.SpaceOrderSaid := spaceOrder_over
#print axioms spaceOrder_holds
end
end Go.Proofs.Ytjdfeagjbhdceaa
