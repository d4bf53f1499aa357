/- Catalogues: Same. -/
import Derived.Test.YtmfcccflohpjiaaGreatDoorCatR
namespace Go.Proofs.YtmfcccflohpjiaaGreatDoor
set_option linter.unusedVariables false
set_option linter.unusedSimpArgs false
open Go.RowKit

theorem R_loadE {P : Program} {a : Act} {w : World} {o : Oper} {ty : TypeId} {x : Operand} (ho : o.op = .load ty x) {b off n cap : Nat} {xs : List Ent} (hr : RdS eCells 6 w (.slice (some ⟨b, off, none⟩) n cap) xs) {j : Nat} (hj : j < xs.length)
    (hx : a.eval x = .pointer (some ⟨b, off + j * 6, none⟩)) {s : Ent} (hs : xs[j] = s) {d : TypeDesc} (hu : P.underlying ty = some d) (hd : d.isRow = true) (hi : (P.info? ty).map (·.size) = some 6) : (execOp a.eval o).run P w = .ok (.value (entV s)) w := by
  obtain ⟨b', off', cs, T, fr, he, hb, hcs⟩ := hr.cell hj
  cases he
  rw [hs] at hcs
  exact R_loadmid ho hx hb hu hd hi (eCells s) rfl hcs
theorem same_val {W : World} {l l' : List UInt8} {a a' b b' c c' d d' e e' : Int} {q : Bool} (hq : decide (l = l' ∧ a = a' ∧ b = b' ∧ c = c' ∧ d = d' ∧ e = e') = q) :
    (if l = l' then if a = a' then if b = b' then if c = c' then if d = d' then if e = e' then Result.ok (Next.value (Value.bool false)) W else Result.ok (Next.value (Value.bool true)) W else Result.ok (Next.value (Value.bool true)) W else Result.ok (Next.value (Value.bool true)) W
      else Result.ok (Next.value (Value.bool true)) W else Result.ok (Next.value (Value.bool true)) W else Result.ok (Next.value (Value.bool true)) W) = Result.ok (Next.value (Value.bool (!q))) W := by
  subst hq
  by_cases h1 : l = l' <;> by_cases h2 : a = a' <;> by_cases h3 : b = b' <;> by_cases h4 : c = c' <;> by_cases h5 : d = d' <;> by_cases h6 : e = e' <;> simp [h1, h2, h3, h4, h5, h6]
def SaRelE (ys xs : List Ent) (w0 : World) (vi : Value) (wr : World) : Prop :=
  ∃ k : Nat, vi = .int .i64 (k : Int) ∧ k ≤ xs.length ∧ Hid (xs.take k = ys.take k) ∧ SH (fun _ => False) w0 wr []
set_option maxRecDepth 100000 in
set_option maxHeartbeats 1000000 in
theorem sameC_any (va vb : Value) (xs ys : List Ent) (w0 : World) (ha : RdS eCells 6 w0 va xs) (hb : RdS eCells 6 w0 vb ys) (hn : xs.length ≤ 100000) (hn2 : ys.length ≤ 100000) :
    Calls Tryz.prog 15 #[va, vb] w0 fun e w' => (∃ q : Bool, e = .returned (.bool q) ∧ (q = true ↔ xs = ys)) ∧ Ext0 w0 w' := by
  obtain ⟨A, ca, rfl, hca⟩ := ha.len
  obtain ⟨B, cb, rfl, hcb⟩ := hb.len
  have H : SH (fun _ => False) w0 w0 [] := SH.nil _ _
  by_cases hl : xs.length = ys.length
  · have hl' : ((xs.length : Int) != (ys.length : Int)) = false := by simp [hl]
    have HL := Lib.hid hl
    clear hl
    go_enter Tryz.func15, Tryz.ntmps15
    go_wp2
    clear hl'
    go_loopw [5] (fun vi wr => SaRelE ys xs w0 vi wr) (fun vi _ => xs.length - (intOf vi).toNat)
    case atStart => exact ⟨0, rfl, Nat.zero_le _, Lib.hid rfl, H⟩
    case round =>
      clear H
      obtain ⟨k, rfl, hk, HA, H⟩ := hrel
      by_cases hkn : k < xs.length
      · have hki : (k : Int) < (xs.length : Int) := by omega
        have hkn2 : k < ys.length := by have := HL.out; omega
        have hki2 : (k : Int) < (ys.length : Int) := by omega
        obtain ⟨b1, o1, _, _, _, rfl, _, _⟩ := ha.cell hkn
        obtain ⟨b2, o2, _, _, _, rfl, _, _⟩ := hb.cell hkn2
        have hxk := List.take_add_one (l := xs) (i := k)
        have hyk := List.take_add_one (l := ys) (i := k)
        rw [List.getElem?_eq_getElem hkn] at hxk
        rw [List.getElem?_eq_getElem hkn2] at hyk
        obtain ⟨x, hx⟩ : ∃ x, xs[k] = x := ⟨_, rfl⟩
        obtain ⟨y, hy⟩ : ∃ y, ys[k] = y := ⟨_, rfl⟩
        have HX := Lib.hid (show xs.take (k + 1) = xs.take k ++ [x] ∧ ys.take (k + 1) = ys.take k ++ [y] ∧ xs[k] = x ∧ ys[k] = y from ⟨by rw [hxk, hx]; rfl, by rw [hyk, hy]; rfl, hx, hy⟩)
        clear hxk hyk hx hy
        obtain ⟨p, mode, time, block, at_, size⟩ := x
        obtain ⟨p', mode', time', block', at', size'⟩ := y
        have HQ : Hid (decide (p.toList = p'.toList ∧ mode = mode' ∧ time = time' ∧ block = block' ∧ at_ = at' ∧ size = size') = decide (p.toList = p'.toList ∧ mode = mode' ∧ time = time' ∧ block = block' ∧ at_ = at' ∧ size = size')) := Lib.hid rfl
        generalize hqd : decide (p.toList = p'.toList ∧ mode = mode' ∧ time = time' ∧ block = block' ∧ at_ = at' ∧ size = size') = q at HQ
        clear HQ
        have HQ := Lib.hid hqd
        clear hqd
        go_wp2_with fail
        refine D_start H (by kernel_rfl) (fun hS => ?_)
        try simp only [Act.put, List.setIfInBounds_toArray, List.set_cons_succ, List.set_cons_zero]
        refine D_take 0 (v := ?_) rfl (by kernel_rfl) (by kernel_rfl) (by kernel_rfl) (fun _ _ _ h => h) rfl (by rfl) (fun W hS => ?_) hS ?_
        rotate_left; (focus (first | (go_simp; done) | (go_simp; with_reducible rfl) | (go_simp; rfl))); all_goals skip; (try simp only [List.set_cons_succ, List.set_cons_zero])
        refine D_take 1 (v := ?_) rfl (by kernel_rfl) (by kernel_rfl) (by kernel_rfl) (fun _ _ _ h => h) rfl (by rfl) (fun W hS => ?_) hS ?_
        rotate_left; (focus (first | (go_simp; done) | (go_simp; with_reducible rfl) | (go_simp; rfl))); all_goals skip; (try simp only [List.set_cons_succ, List.set_cons_zero])
        refine D_take 2 (v := ?_) rfl (by kernel_rfl) (by kernel_rfl) (by kernel_rfl) (fun _ _ _ h => h) rfl (by rfl) (fun W hS => ?_) hS ?_
        rotate_left; (focus (first | (go_simp; done) | (go_simp; with_reducible rfl) | (go_simp; rfl))); all_goals skip; (try simp only [List.set_cons_succ, List.set_cons_zero])
        refine D_take 3 (v := (.agg #[.string p, .int .i64 mode, .int .i64 time, .int .i64 block, .int .i64 at_, .int .i64 size])) rfl (by kernel_rfl) (by kernel_rfl) (by kernel_rfl) (fun _ _ _ h => h) rfl (by rfl) (fun W hS => R_loadE (ty := 39) (x := .tmp 19) rfl (ha.keep hS.ext) hkn rfl HX.out.2.2.1 Tryz.underlying39 rfl info39) hS ?_; (try simp only [List.set_cons_succ, List.set_cons_zero])
        refine D_take 4 (v := ?_) rfl (by kernel_rfl) (by kernel_rfl) (by kernel_rfl) (fun _ _ _ h => h) rfl (by rfl) (fun W hS => ?_) hS ?_
        rotate_left; (focus (first | (go_simp; done) | (go_simp; with_reducible rfl) | (go_simp; rfl))); all_goals skip; (try simp only [List.set_cons_succ, List.set_cons_zero])
        refine D_take 5 (v := ?_) rfl (by kernel_rfl) (by kernel_rfl) (by kernel_rfl) (fun _ _ _ h => h) rfl (by rfl) (fun W hS => ?_) hS ?_
        rotate_left; (focus (first | (go_simp; done) | (go_simp; with_reducible rfl) | (go_simp; rfl))); all_goals skip; (try simp only [List.set_cons_succ, List.set_cons_zero])
        refine D_take 6 (v := ?_) rfl (by kernel_rfl) (by kernel_rfl) (by kernel_rfl) (fun _ _ _ h => h) rfl (by rfl) (fun W hS => ?_) hS ?_
        rotate_left; (focus (first | (go_simp; done) | (go_simp; with_reducible rfl) | (go_simp; rfl))); all_goals skip; (try simp only [List.set_cons_succ, List.set_cons_zero])
        refine D_take 7 (v := (.agg #[.string p', .int .i64 mode', .int .i64 time', .int .i64 block', .int .i64 at', .int .i64 size'])) rfl (by kernel_rfl) (by kernel_rfl) (by kernel_rfl) (fun _ _ _ h => h) rfl (by rfl) (fun W hS => R_loadE (ty := 39) (x := .tmp 23) rfl (hb.keep hS.ext) hkn2 rfl HX.out.2.2.2 Tryz.underlying39 rfl info39) hS ?_; (try simp only [List.set_cons_succ, List.set_cons_zero])
        refine D_take 8 (v := (.bool (!q))) rfl (by kernel_rfl) (by kernel_rfl) (by kernel_rfl) (fun _ _ _ h => h) rfl (by rfl) (fun W hS => by go_simp; exact same_val HQ.out) hS ?_; (try simp only [List.set_cons_succ, List.set_cons_zero])
        refine wpAnyH_done (by kernel_rfl) ?_ _
        replace H := H.drew
        cases q
        · go_wp2_with fail
          go_ret
          refine ⟨⟨false, rfl, ?_⟩, H.ext⟩
          simp only [Bool.false_eq_true, false_iff]
          intro e
          subst e
          have h1 := HX.out.2.2.1
          rw [HX.out.2.2.2] at h1
          cases h1
          have := HQ.out
          simp at this
        · go_wp2_with fail
          go_roundw
          case rel =>
            refine ⟨k + 1, by go_num, by omega, Lib.hid ?_, H⟩
            have h1 := of_decide_eq_true HQ.out
            have h2 : p = p' := by
              have := h1.1
              rw [Go.ByteArray.toList_eq, Go.ByteArray.toList_eq] at this
              cases p; cases p'; congr 1; exact Array.toList_inj.1 this
            rw [HX.out.1, HX.out.2.1, HA.out, h2, h1.2.1, h1.2.2.1, h1.2.2.2.1, h1.2.2.2.2.1, h1.2.2.2.2.2]
          case measure => simp [intOf]; omega
      · obtain rfl : k = xs.length := by omega
        go_wp2_with fail
        go_ret
        refine ⟨⟨true, rfl, ?_⟩, H.ext⟩
        have h1 := HA.out
        rw [List.take_length, HL.out, List.take_length] at h1
        simp [h1]
  · have hl' : ((xs.length : Int) != (ys.length : Int)) = true := by simp; omega
    go_enter Tryz.func15, Tryz.ntmps15
    go_wp2
    go_ret
    refine ⟨⟨false, rfl, ?_⟩, H.ext⟩
    simp only [Bool.false_eq_true, false_iff]
    intro e
    exact hl (by rw [e])
theorem RdS.takeG {α : Type} {enc : α → List Value} {k : Nat} {w : World} {A : Option Addr} {n cap : Nat} {xs : List α} (h : RdS enc k w (.slice A n cap) xs) (m : Nat) (hm : m ≤ xs.length) : RdS enc k w (.slice A m cap) (xs.take m) := by
  obtain ⟨A', cap', he, hc, h⟩ := h
  cases he
  have hl : (xs.take m).length = m := by rw [List.length_take]; omega
  refine ⟨_, cap, by rw [hl], by omega, ?_⟩
  rcases h with h | ⟨b, off, cs, T, fr, h1, h2, h3⟩
  · left; rw [h]; simp
  · right
    refine ⟨b, off, cs, T, fr, h1, h2, fun j hj i hi => ?_⟩
    rw [List.getElem_take]
    exact h3 j (by rw [hl] at hj; omega) i hi
theorem RdS.dropG {α : Type} {enc : α → List Value} {k : Nat} {w : World} {b off n cap : Nat} {xs : List α} (h : RdS enc k w (.slice (some ⟨b, off, none⟩) n cap) xs) (m : Nat) (hm : m ≤ xs.length) : RdS enc k w (.slice (some ⟨b, off + m * k, none⟩) (xs.length - m) (cap - m)) (xs.drop m) := by
  obtain ⟨A', cap', he, hc, h⟩ := h
  cases he
  refine ⟨_, cap - m, by rw [List.length_drop], by rw [List.length_drop]; omega, ?_⟩
  rcases h with h | ⟨b', off', cs, T, fr, h1, h2, h3⟩
  · left; rw [h]; simp
  · cases h1
    right
    refine ⟨b, off + m * k, cs, T, fr, rfl, h2, fun j hj i hi => ?_⟩
    rw [List.getElem_drop, ← h3 (m + j) (by rw [List.length_drop] at hj; omega) i hi]
    congr 1
    rw [Nat.add_mul]
    omega
theorem RdS.nilG {α : Type} {enc : α → List Value} {k : Nat} {w : World} (A : Option Addr) (cap : Nat) : RdS enc k w (.slice A 0 cap) [] := ⟨A, cap, rfl, Nat.zero_le _, .inl rfl⟩
set_option maxHeartbeats 1000000 in
theorem fewE_any (sv : Value) (xs : List Ent) (w : World) (hr : RdS eCells 6 w sv xs) : Calls Tryz.prog 8 #[sv] w fun e w' => (∃ v, e = .returned v ∧ RdS eCells 6 w v (xs.take 40)) ∧ w' = w := by
  obtain ⟨A, cap, rfl, hc⟩ := hr.len
  by_cases hl : 40 < xs.length
  · have hl' : (40 : Int) < (xs.length : Int) := by omega
    obtain ⟨b, off, _, _, _, rfl, _, _⟩ := hr.cell (j := 0) (by omega)
    have hcc : 40 ≤ cap := by omega
    have HR := Lib.hid (hr.takeG 40 (by omega))
    clear hr
    go_enter Tryz.func8, Tryz.ntmps8
    go_wp2
    go_ret
    exact ⟨⟨_, rfl, by simpa using HR.out⟩, rfl⟩
  · have hl' : ¬ (40 : Int) < (xs.length : Int) := by omega
    have HR := Lib.hid hr
    clear hr
    go_enter Tryz.func8, Tryz.ntmps8
    go_wp2
    go_ret
    exact ⟨⟨_, rfl, by rw [List.take_of_length_le (by omega)]; exact HR.out⟩, rfl⟩
end Go.Proofs.YtmfcccflohpjiaaGreatDoor
