/- In a region that draws its order: what the loads read may be said of the worlds ahead of one operation alone (the first store). -/
import Derived.Test.YtgmeahogdjhejaaGreatDoorWalV
namespace Go.Proofs.YtgmeahogdjhejaaGreatDoor
set_option linter.unusedVariables false
set_option linter.unusedSimpArgs false
open Go.RowKit
section
variable {P : Program} {md : Region.Mode} {ops : Array Oper} {Q : Exit → Act → World → Prop} {S : World → Prop} {p : Nat} {a : Act} {w : World} {listed : Array Bool} {fuel : Nat}

/-- As wpAnyH; but S need hold only as long as operation p has not come up. -/
def wpAnyX (P : Program) (md : Region.Mode) (ops : Array Oper) (Q : Exit → Act → World → Prop) (S : World → Prop) (p : Nat) : Nat → Array Bool → Act → World → Prop
  | 0, listed, a, w => Region.ready md ops listed = [] ∧ Q .normal a w
  | fuel + 1, listed, a, w =>
    (Region.ready md ops listed = [] → Q .normal a w) ∧
    ∀ i ∈ Region.ready md ops listed, wpOp P ops Q i (fun a' w' => ((listed.setIfInBounds i true).getD p true = false → S w') ∧ wpAnyX P md ops Q S p fuel (listed.setIfInBounds i true) a' w') a w
theorem wpAny_of_X : ∀ (fuel : Nat) (listed : Array Bool) (a : Act) (w : World), wpAnyX P md ops Q S p fuel listed a w → wpAny P md ops Q fuel listed a w
  | 0, _, _, _, h => h
  | fuel + 1, _, _, _, h => ⟨h.1, fun i hi => wpOp_mono (fun a' w' h' => wpAny_of_X fuel _ a' w' h'.2) (h.2 i hi)⟩
theorem wpAnyX_first {i : Nat} {oi : Oper} {v : Value} (hi : ops[i]? = some oi) (hsel : ∀ (j : Nat) (o : Oper) cs b, ops[j]? = some o → o.op ≠ .select cs b)
    (hQ : ∀ c a w, Q (.panic c) (a.put oi.dst v) w → Q (.panic c) a w) (hip : i ≠ p) (hpw : ∃ op, ops[p]? = some op ∧ ∃ e ∈ op.after, Region.binds md e = true ∧ e.on = i) :
    ∀ (fuel : Nat) (listed : Array Bool) (a : Act) (w : World),
      (∀ j oj, ops[j]? = some oj → j ≠ i → listed.getD j true = false → (∀ e ∈ oj.after, Region.binds md e = true → e.on ≠ i) → oi.apart ops oj = true) →
      i ∈ Region.ready md ops listed → listed.getD p true = false → YieldsIf P ops S oi v a → S w →
      wpAnyX P md ops Q S p fuel (listed.setIfInBounds i true) (a.put oi.dst v) w → wpAnyX P md ops Q S p (fuel + 1) listed a w := by
  intro fuel
  induction fuel with
  | zero =>
    intro listed a w _ hr hlp hy hS H
    refine ⟨fun h => (by rw [h] at hr; cases hr), fun j hj => ?_⟩
    by_cases hji : j = i
    · subst hji; exact hy.wpOp hi hS ⟨fun _ => hS, H⟩
    · have := ready_mono hj hji
      rw [H.1] at this
      cases this
  | succ fuel ih =>
    intro listed a w hfree hr hlp hy hS H
    refine ⟨fun h => (by rw [h] at hr; cases hr), fun j hj => ?_⟩
    by_cases hji : j = i
    · subst hji; exact hy.wpOp hi hS ⟨fun _ => hS, H⟩
    · have h1 := H.2 j (ready_mono hj hji)
      obtain ⟨hjun, oj, hoj, hall⟩ := mem_ready.1 hj
      have hnot : ∀ e ∈ oj.after, Region.binds md e = true → e.on ≠ i := fun e he hb heq => by
        have h1 := hall e he hb
        have h0 := (mem_ready.1 hr).1
        rw [heq] at h1
        rcases Nat.lt_or_ge i listed.size with h' | h'
        · simp [h'] at h0 h1; rw [h0] at h1; cases h1
        · simp [Array.getElem?_eq_none h'] at h1
      have hjp : j ≠ p := fun hjp => by
        obtain ⟨op, hop, e, he, hb, heq⟩ := hpw
        rw [hjp, hop] at hoj
        cases hoj
        exact hnot e he hb heq
      have h2 := wpOp_putIf hoj (hfree j oj hoj hji hjun hnot) (fun cs b => hsel i oi cs b hi) (fun cs b => hsel j oj cs b hoj) hQ hy h1
      have hfree' : ∀ k ok, ops[k]? = some ok → k ≠ i → (listed.setIfInBounds j true).getD k true = false →
          (∀ e ∈ ok.after, Region.binds md e = true → e.on ≠ i) → oi.apart ops ok = true := fun k ok hk hki hun hno => by
        refine hfree k ok hk hki ?_ hno
        by_cases hjk : j = k
        · subst hjk; exact hjun
        · rw [getD_set_ne true hjk] at hun; exact hun
      have hlp' : (listed.setIfInBounds j true).getD p true = false := by rw [getD_set_ne true hjp]; exact hlp
      have hlp2 : ((listed.setIfInBounds i true).setIfInBounds j true).getD p true = false := by rw [getD_set_ne true hjp, getD_set_ne true hip]; exact hlp
      refine wpOp_mono (fun a' w' h3 => ⟨fun _ => h3.2.1 hlp2, ih (listed.setIfInBounds j true) a' w' hfree' (ready_mono hr (Ne.symm hji)) hlp' h3.1 (h3.2.1 hlp2) ?_⟩) h2
      rw [Array.setIfInBounds_comm _ _ hji]
      exact h3.2.2
theorem wpAnyX_free {i : Nat} {oi : Oper} {v : Value} (hi : ops[i]? = some oi) (hsel : ∀ (j : Nat) (o : Oper) cs b, ops[j]? = some o → o.op ≠ .select cs b)
    (hQ : ∀ c a w, Q (.panic c) (a.put oi.dst v) w → Q (.panic c) a w) (hip : i ≠ p) :
    ∀ (fuel : Nat) (listed : Array Bool) (a : Act) (w : World),
      (∀ j oj, ops[j]? = some oj → j ≠ i → listed.getD j true = false → (∀ e ∈ oj.after, Region.binds md e = true → e.on ≠ i) → oi.apart ops oj = true) →
      i ∈ Region.ready md ops listed → YieldsIf P ops (fun _ => True) oi v a → (listed.getD p true = false → S w) →
      wpAnyX P md ops Q S p fuel (listed.setIfInBounds i true) (a.put oi.dst v) w → wpAnyX P md ops Q S p (fuel + 1) listed a w := by
  intro fuel
  induction fuel with
  | zero =>
    intro listed a w _ hr hy hS H
    refine ⟨fun h => (by rw [h] at hr; cases hr), fun j hj => ?_⟩
    by_cases hji : j = i
    · subst hji; exact hy.wpOp (S := fun _ => True) hi trivial ⟨fun h9 => hS (by rw [getD_set_ne true hip] at h9; exact h9), H⟩
    · have := ready_mono hj hji
      rw [H.1] at this
      cases this
  | succ fuel ih =>
    intro listed a w hfree hr hy hS H
    refine ⟨fun h => (by rw [h] at hr; cases hr), fun j hj => ?_⟩
    by_cases hji : j = i
    · subst hji; exact hy.wpOp (S := fun _ => True) hi trivial ⟨fun h9 => hS (by rw [getD_set_ne true hip] at h9; exact h9), H⟩
    · have h1 := H.2 j (ready_mono hj hji)
      obtain ⟨hjun, oj, hoj, hall⟩ := mem_ready.1 hj
      have hnot : ∀ e ∈ oj.after, Region.binds md e = true → e.on ≠ i := fun e he hb heq => by
        have h1 := hall e he hb
        have h0 := (mem_ready.1 hr).1
        rw [heq] at h1
        rcases Nat.lt_or_ge i listed.size with h' | h'
        · simp [h'] at h0 h1; rw [h0] at h1; cases h1
        · simp [Array.getElem?_eq_none h'] at h1
      have h2 := wpOp_putIf hoj (hfree j oj hoj hji hjun hnot) (fun cs b => hsel i oi cs b hi) (fun cs b => hsel j oj cs b hoj) hQ hy h1
      have hfree' : ∀ k ok, ops[k]? = some ok → k ≠ i → (listed.setIfInBounds j true).getD k true = false →
          (∀ e ∈ ok.after, Region.binds md e = true → e.on ≠ i) → oi.apart ops ok = true := fun k ok hk hki hun hno => by
        refine hfree k ok hk hki ?_ hno
        by_cases hjk : j = k
        · subst hjk; exact hjun
        · rw [getD_set_ne true hjk] at hun; exact hun
      have hget : ((listed.setIfInBounds i true).setIfInBounds j true).getD p true = (listed.setIfInBounds j true).getD p true := by rw [Array.setIfInBounds_comm _ _ (Ne.symm hji), getD_set_ne true hip]
      refine wpOp_mono (fun a' w' h3 => ⟨fun h9 => h3.2.1 (by rw [hget]; exact h9), ih (listed.setIfInBounds j true) a' w' hfree' (ready_mono hr (Ne.symm hji)) h3.1 (fun h9 => h3.2.1 (by rw [hget]; exact h9)) ?_⟩) h2
      rw [Array.setIfInBounds_comm _ _ hji]
      exact h3.2.2
theorem D_startX (p : Nat) (l0 : Array Bool) (hl : Array.replicate ops.size false = l0) {id : Nat} {M : Nat → Prop} {w0 : World} {L : List Asr} (H : SH M w0 w L) (hm : P.follows .mixedOrders = true)
    (h : SH M w0 w.drew L → wpAnyX P .any ops Q (fun W => SH M w0 W L) p ops.size l0 a w.drew) : (Code.region id ops true).wp P Q a w := by
  subst hl
  exact wp_region_any hm (wpAny_of_X _ _ _ _ (h H.drew))
def waitsB (md : Region.Mode) (ops : Array Oper) (p i : Nat) : Bool :=
  i != p && match ops[p]? with
    | some o => o.after.any fun e => Region.binds md e && e.on == i
    | none => false
theorem waitsB_spec {i : Nat} (h : waitsB md ops p i = true) : i ≠ p ∧ ∃ op, ops[p]? = some op ∧ ∃ e ∈ op.after, Region.binds md e = true ∧ e.on = i := by
  unfold waitsB at h
  rw [Bool.and_eq_true] at h
  refine ⟨by simpa using h.1, ?_⟩
  have h2 := h.2
  split at h2
  · rename_i op hop
    obtain ⟨k, hk, he⟩ := Array.any_eq_true.1 h2
    refine ⟨op, hop, op.after[k], Array.getElem_mem hk, ?_⟩
    simpa using he
  · cases h2
theorem D_takeX (i : Nat) (listed' : Array Bool) (hl : listed.setIfInBounds i true = listed') {oi : Oper} {d : Tmp} {tmps : List Value} {df : List Deferred} (hi : ops[i]? = some oi)
    (hs : Region.noSelect ops = true) (hf : Region.free md ops listed i = true) (hr : (Region.ready md ops listed).contains i = true) (hwt : waitsB md ops p i = true) (hlp : listed.getD p true = false) {v : Value}
    (hQ : ∀ c a w, Q (.panic c) (a.put oi.dst v) w → Q (.panic c) a w) (hd : oi.dst = some d) (hw : Region.wanted oi (yielded ops tmps.toArray) = true) (hy : ∀ W, S W → (execOp (Act.eval ⟨tmps.toArray, df⟩) oi).run P W = .ok (.value v) W) (hS : S w)
    (h : wpAnyX P md ops Q S p fuel listed' ⟨(tmps.set d v).toArray, df⟩ w) : wpAnyX P md ops Q S p (fuel + 1) listed ⟨tmps.toArray, df⟩ w := by
  subst hl
  have h9 := waitsB_spec hwt
  refine wpAnyX_first hi (Region.noSelect_spec hs) hQ h9.1 h9.2 fuel listed _ w (Region.free_spec hi hf) (by simpa using hr) hlp (Or.inl ⟨hw, hy⟩) hS ?_
  rw [hd]
  simpa [Act.put] using h
/-- A quiet operation that asks nothing of the world. -/
theorem D_freeX (i : Nat) (listed' : Array Bool) (hl : listed.setIfInBounds i true = listed') {oi : Oper} {d : Tmp} {tmps : List Value} {df : List Deferred} (hi : ops[i]? = some oi)
    (hs : Region.noSelect ops = true) (hf : Region.free md ops listed i = true) (hr : (Region.ready md ops listed).contains i = true) (hip : (i != p) = true) {v : Value}
    (hQ : ∀ c a w, Q (.panic c) (a.put oi.dst v) w → Q (.panic c) a w) (hd : oi.dst = some d) (hw : Region.wanted oi (yielded ops tmps.toArray) = true) (hy : ∀ W, (execOp (Act.eval ⟨tmps.toArray, df⟩) oi).run P W = .ok (.value v) W) (hS : S w)
    (h : wpAnyX P md ops Q S p fuel listed' ⟨(tmps.set d v).toArray, df⟩ w) : wpAnyX P md ops Q S p (fuel + 1) listed ⟨tmps.toArray, df⟩ w := by
  subst hl
  refine wpAnyX_free hi (Region.noSelect_spec hs) hQ (by simpa using hip) fuel listed _ w (Region.free_spec hi hf) (by simpa using hr) (Or.inl ⟨hw, fun W _ => hy W⟩) (fun _ => hS) ?_
  rw [hd]
  simpa [Act.put] using h
theorem getD_set_all {i j : Nat} (h : listed.getD j true = true) : (listed.setIfInBounds i true).getD j true = true := by
  by_cases hij : i = j
  · subst hij
    by_cases hlt : i < listed.size
    · simp [hlt]
    · rw [Array.setIfInBounds_eq_of_size_le (by omega)]; exact h
  · rw [getD_set_ne true hij]; exact h
theorem getD_set_self (i : Nat) : (listed.setIfInBounds i true).getD i true = true := by
  by_cases hlt : i < listed.size
  · simp [hlt]
  · rw [Array.setIfInBounds_eq_of_size_le (by omega)]
    simp [Array.getElem?_eq_none (show listed.size ≤ i by omega)]
/-- Whichever of those that may come up. -/
theorem X_all {rs : List Nat} (hr : Region.ready md ops listed = rs) (hne : rs ≠ [])
    (h : ∀ i ∈ rs, wpOp P ops Q i (fun a' w' => ((listed.setIfInBounds i true).getD p true = false → S w') ∧ wpAnyX P md ops Q S p fuel (listed.setIfInBounds i true) a' w') a w) : wpAnyX P md ops Q S p (fuel + 1) listed a w :=
  ⟨fun h0 => absurd (hr ▸ h0) hne, hr ▸ h⟩
theorem X_op (i : Nat) {o : Oper} (hi : ops[i]? = some o) (hw : Region.wanted o (yielded ops a.tmps) = true)
    (h : o.wp P a w (fun a' w' => S w' ∧ wpAnyX P md ops Q S p fuel (listed.setIfInBounds i true) a' w') Q) :
    wpOp P ops Q i (fun a' w' => ((listed.setIfInBounds i true).getD p true = false → S w') ∧ wpAnyX P md ops Q S p fuel (listed.setIfInBounds i true) a' w') a w := by
  refine wpOp_mono (fun a' w' h => ⟨fun _ => h.1, h.2⟩) (K := fun a' w' => S w' ∧ wpAnyX P md ops Q S p fuel (listed.setIfInBounds i true) a' w') ?_
  unfold wpOp
  rw [hi]
  simp only [hw, if_true]
  exact .inl h
theorem D_oneX (i : Nat) (listed' : Array Bool) (hl : listed.setIfInBounds i true = listed') {o : Oper} (hi : ops[i]? = some o) (hr : Region.ready md ops listed = [i]) (hw : Region.wanted o (yielded ops a.tmps) = true)
    (h : o.wp P a w (fun a' w' => S w' ∧ wpAnyX P md ops Q S p fuel listed' a' w') Q) : wpAnyX P md ops Q S p (fuel + 1) listed a w := by
  subst hl
  refine X_all hr (by simp) fun j hj => ?_
  obtain rfl := List.mem_singleton.1 hj
  exact X_op j hi hw h
theorem D_twoX (i j : Nat) (li lj : Array Bool) (hli : listed.setIfInBounds i true = li) (hlj : listed.setIfInBounds j true = lj) {oi oj : Oper} (hi : ops[i]? = some oi) (hj : ops[j]? = some oj) (hr : Region.ready md ops listed = [i, j]) (hwi : Region.wanted oi (yielded ops a.tmps) = true) (hwj : Region.wanted oj (yielded ops a.tmps) = true)
    (h1 : oi.wp P a w (fun a' w' => S w' ∧ wpAnyX P md ops Q S p fuel li a' w') Q)
    (h2 : oj.wp P a w (fun a' w' => S w' ∧ wpAnyX P md ops Q S p fuel lj a' w') Q) : wpAnyX P md ops Q S p (fuel + 1) listed a w := by
  subst hli hlj
  refine X_all hr (by simp) fun k hk => ?_
  simp only [List.mem_cons, List.not_mem_nil, or_false] at hk
  rcases hk with rfl | rfl
  · exact X_op _ hi hwi h1
  · exact X_op _ hj hwj h2
theorem D_threeX (i j l : Nat) (li lj ll : Array Bool) (hli : listed.setIfInBounds i true = li) (hlj : listed.setIfInBounds j true = lj) (hll : listed.setIfInBounds l true = ll) {oi oj ol : Oper} (hi : ops[i]? = some oi) (hj : ops[j]? = some oj) (hl : ops[l]? = some ol) (hr : Region.ready md ops listed = [i, j, l])
    (hwi : Region.wanted oi (yielded ops a.tmps) = true) (hwj : Region.wanted oj (yielded ops a.tmps) = true) (hwl : Region.wanted ol (yielded ops a.tmps) = true)
    (h1 : oi.wp P a w (fun a' w' => S w' ∧ wpAnyX P md ops Q S p fuel li a' w') Q)
    (h2 : oj.wp P a w (fun a' w' => S w' ∧ wpAnyX P md ops Q S p fuel lj a' w') Q)
    (h3 : ol.wp P a w (fun a' w' => S w' ∧ wpAnyX P md ops Q S p fuel ll a' w') Q) : wpAnyX P md ops Q S p (fuel + 1) listed a w := by
  subst hli hlj hll
  refine X_all hr (by simp) fun k hk => ?_
  simp only [List.mem_cons, List.not_mem_nil, or_false] at hk
  rcases hk with rfl | rfl | rfl
  · exact X_op _ hi hwi h1
  · exact X_op _ hj hwj h2
  · exact X_op _ hl hwl h3
/-- The first store itself. -/
theorem D_pX (listed' : Array Bool) (hl : listed.setIfInBounds p true = listed') {o : Oper} (hi : ops[p]? = some o) (hr : Region.ready md ops listed = [p]) (hw : Region.wanted o (yielded ops a.tmps) = true)
    (h : o.wp P a w (fun a' w' => wpAnyX P md ops Q S p fuel listed' a' w') Q) : wpAnyX P md ops Q S p (fuel + 1) listed a w := by
  subst hl
  refine X_all hr (by simp) fun j hj => ?_
  obtain rfl := List.mem_singleton.1 hj
  refine wpOp_mono (fun a' w' h => ⟨fun h9 => (by rw [getD_set_self] at h9; cases h9), h⟩) (K := fun a' w' => wpAnyX P md ops Q S j fuel (listed.setIfInBounds j true) a' w') ?_
  unfold wpOp
  rw [hi]
  simp only [hw, if_true]
  exact .inl h
/-- What comes behind it. -/
theorem D_afterX (i : Nat) (listed' : Array Bool) (hl : listed.setIfInBounds i true = listed') {o : Oper} (hi : ops[i]? = some o) (hr : Region.ready md ops listed = [i]) (hw : Region.wanted o (yielded ops a.tmps) = true) (hp : listed.getD p true = true)
    (h : o.wp P a w (fun a' w' => wpAnyX P md ops Q S p fuel listed' a' w') Q) : wpAnyX P md ops Q S p (fuel + 1) listed a w := by
  subst hl
  refine X_all hr (by simp) fun j hj => ?_
  obtain rfl := List.mem_singleton.1 hj
  refine wpOp_mono (fun a' w' h => ⟨fun h9 => (by rw [getD_set_all hp] at h9; cases h9), h⟩) (K := fun a' w' => wpAnyX P md ops Q S p fuel (listed.setIfInBounds j true) a' w') ?_
  unfold wpOp
  rw [hi]
  simp only [hw, if_true]
  exact .inl h
theorem wpAnyX_done (hr : Region.ready md ops listed = []) (h : Q .normal a w) : ∀ fuel, wpAnyX P md ops Q S p fuel listed a w
  | 0 => ⟨hr, h⟩
  | _ + 1 => ⟨fun _ => h, by rw [hr]; simp⟩
end
/-- Several ways end alike: what comes behind them, once. -/
theorem wp_tail9 {G : Nat → Nat → Nat → Nat → Nat → Nat → Nat → Nat → Nat → World → Prop} {X : Prop} (R : Nat → Nat → Nat → Nat → Nat → Nat → World → Prop)
    (h1 : Hid (∀ l1 l2 l3 n1 c1 n2 c2 n3 c3 w, R n1 c1 n2 c2 n3 c3 w → G l1 l2 l3 n1 c1 n2 c2 n3 c3 w) → X) (h2 : ∀ l1 l2 l3 n1 c1 n2 c2 n3 c3 w, R n1 c1 n2 c2 n3 c3 w → G l1 l2 l3 n1 c1 n2 c2 n3 c3 w) : X := h1 (Lib.hid h2)
theorem run_make0 {P : Program} {a : Act} {w : World} {o : Oper} {t e : TypeId} {l c : Operand} (ho : o.op = .makeSlice t l c) {i : TypeInfo} {z : Value} (ht : P.underlying t = some (.slice e)) (hi : P.info? e = some i) (hz : i.zero = some z)
    {kl kc : IntKind} {n : Nat} (hl : a.eval l = .int kl (n : Int)) (hc : a.eval c = .int kc (n : Int)) (hb : i.bytes * n ≤ 281474976710656) (hn : n ≤ maxLen) :
    (execOp a.eval o).run P w = .ok (.value (.slice (some ⟨w.heap.size, 0, none⟩) n n)) (w.alloc (.cells (madeCells z.cells (n * i.size)) e)) := by
  have hb2 : (i.bytes : Int) * (n : Int) ≤ 281474976710656 := by
    have h : ((i.bytes * n : Nat) : Int) ≤ 281474976710656 := by omega
    rwa [Int.natCast_mul] at h
  have hr := run_make (P := P) w t e i z ht hi hz kl kc n n (by omega) (by omega) hb2 (by simp [maxLen] at hn; omega)
  simp only [Int.toNat_natCast] at hr
  unfold execOp
  simp only [ho, hl, hc, Sem.run_bind, Sem.run_pure, Result.andThen_ok, hr]
end Go.Proofs.YtgmeahogdjhejaaGreatDoor
