/- Words for journals: their block, lists of records; plain facts about lifting. -/
import Derived.Test.YtgmeahogdjhejaaGreatDoorWalPS
namespace Go.Proofs.YtgmeahogdjhejaaGreatDoor
set_option linter.unusedVariables false
set_option linter.unusedSimpArgs false
open Go.RowKit Go.Shelf

def slV (t : Option Addr × Nat × Nat) : Value := .slice t.1 t.2.1 t.2.2
def encSl (t : Option Addr × Nat × Nat) : List Value := [slV t]
theorem encSl_len : ∀ t, (encSl t).length = 1 := fun _ => rfl
theorem encSl_one : ∀ t, ∀ u ∈ encSl t, u.oneCell' = true := fun t u hu => by
  obtain rfl := List.mem_singleton.1 hu
  rfl
theorem RdS.keepB {α : Type} {enc : α → List Value} {k : Nat} {w w' : World} {v : Value} {xs : List α} (h : RdS enc k w v xs) (e : ∀ i, v.ownBlock = some i → w'.heap[i]? = w.heap[i]?) : RdS enc k w' v xs := by
  obtain ⟨A, cap, rfl, hc, h | ⟨b, off, cs, T, fr, rfl, hb, hcs⟩⟩ := h
  · exact ⟨A, cap, rfl, hc, .inl h⟩
  · exact ⟨_, cap, rfl, hc, .inr ⟨b, off, cs, T, fr, rfl, (e b rfl).trans hb, hcs⟩⟩
/-- Bytes that stay. -/
def rdA (v : Value) (xs : List Int) : Asr where
  fp := fun i => v.ownBlock = some i
  says := fun w => RdS (encInt .u8) 1 w v xs
  keep := fun _ _ h hs => hs.keepB h
/-- Records' bytes that stay. -/
def rowsA (ps : List ((Option Addr × Nat × Nat) × List Int)) : Asr where
  fp := fun i => ∃ p ∈ ps, (slV p.1).ownBlock = some i
  says := fun w => ∀ p ∈ ps, RdS (encInt .u8) 1 w (slV p.1) p.2
  keep := fun _ _ h hs p hp => (hs p hp).keepB (fun i hi => h i ⟨p, hp, hi⟩)
section
variable {M : Nat → Prop} {w0 w w' : World} {L : List Asr}
theorem SH.rowsNil (H : SH M w0 w L) : SH M w0 w (rowsA [] :: L) := by
  refine ⟨H.ext, fun A hA => ?_, fun A hA i hi => ?_, fun A hA i hi => ?_, List.pairwise_cons.2 ⟨fun A hA i hi _ => ?_, H.apart⟩⟩
  · rcases List.mem_cons.1 hA with rfl | hA
    · intro p hp; simp at hp
    · exact H.says A hA
  · rcases List.mem_cons.1 hA with rfl | hA
    · obtain ⟨p, hp, _⟩ := hi; simp at hp
    · exact H.lt A hA i hi
  · rcases List.mem_cons.1 hA with rfl | hA
    · obtain ⟨p, hp, _⟩ := hi; simp at hp
    · exact H.own A hA i hi
  · obtain ⟨p, hp, _⟩ := hi; simp at hp
theorem SH.addRow {ps : List ((Option Addr × Nat × Nat) × List Int)} (H : SH M w0 w (rowsA ps :: L)) (hE : Ext0 w w') (t : Option Addr × Nat × Nat) (xs : List Int) (hr : RdS (encInt .u8) 1 w' (slV t) xs) (hf : ∀ j, (slV t).ownBlock = some j → w.heap.size ≤ j ∧ j < w'.heap.size) :
    SH M w0 w' (rowsA (ps ++ [(t, xs)]) :: L) := by
  have K := H.add hE (rdA (slV t) xs) hr hf
  have hap := List.pairwise_cons.1 K.apart
  have hap2 := List.pairwise_cons.1 hap.2
  have hfp : ∀ i, (rowsA (ps ++ [(t, xs)])).fp i → (rowsA ps).fp i ∨ (rdA (slV t) xs).fp i := fun i ⟨p, hp, hi⟩ => by
    rcases List.mem_append.1 hp with hp | hp
    · exact .inl ⟨p, hp, hi⟩
    · rw [List.mem_singleton.1 hp] at hi; exact .inr hi
  refine ⟨K.ext, fun A hA => ?_, fun A hA i hi => ?_, fun A hA i hi => ?_, List.pairwise_cons.2 ⟨fun A hA i hi hi2 => ?_, hap2.2⟩⟩
  · rcases List.mem_cons.1 hA with rfl | hA
    · intro p hp
      rcases List.mem_append.1 hp with hp | hp
      · exact K.get 1 rfl p hp
      · rw [List.mem_singleton.1 hp]; exact K.get 0 rfl
    · exact K.says A (List.mem_cons_of_mem _ (List.mem_cons_of_mem _ hA))
  · rcases List.mem_cons.1 hA with rfl | hA
    · rcases hfp i hi with h | h
      · exact K.lt _ (List.mem_cons_of_mem _ List.mem_cons_self) i h
      · exact K.lt _ List.mem_cons_self i h
    · exact K.lt A (List.mem_cons_of_mem _ (List.mem_cons_of_mem _ hA)) i hi
  · rcases List.mem_cons.1 hA with rfl | hA
    · rcases hfp i hi with h | h
      · exact K.own _ (List.mem_cons_of_mem _ List.mem_cons_self) i h
      · exact K.own _ List.mem_cons_self i h
    · exact K.own A (List.mem_cons_of_mem _ (List.mem_cons_of_mem _ hA)) i hi
  · rcases hfp i hi with h | h
    · exact hap2.1 A hA i h hi2
    · exact hap.1 A (List.mem_cons_of_mem _ hA) i h hi2
/-- An assertion's own words turned; its blocks are no more. -/
theorem SH.swap (H : SH M w0 w L) (i : Nat) {A A' : Asr} (hi : L[i]? = some A) (hE : Ext0 w w') (hs : A'.says w') (hf : ∀ j, A'.fp j → w.heap.size ≤ j ∧ j < w'.heap.size) : SH M w0 w' (L.set i A') :=
  H.upd i hi (hE.mono (fun _ _ h => h.elim)) hs (fun j hj => ⟨.inr (hf j hj).1, (hf j hj).2⟩)
end
theorem L_loadmidp {P : Program} {ops : Array Oper} {Q : Exit → Act → World → Prop} {a : Act} {w w0 : World} {M : Nat → Prop} {L : List Asr} {rest : List Oper} {o : Oper} (hgd : o.guard = none) {ty : TypeId} {x : Operand} (ho : o.op = .load ty x) (H : SH M w0 w L) (i : Nat) {b off : Nat} {cs : Array Value} {T : TypeId} {fr : Nat × Nat} {d : TypeDesc}
    (hx : a.eval x = .pointer (some ⟨b, off, none⟩)) (hA : L[i]? = some (pt b (.cells cs T fr))) (hu : P.underlying ty = some d) (hd : d.isRow = true) {n : Nat} (hi : (P.info? ty).map (·.size) = some n) (vs : List Value) (hn : vs.length = n)
    (hv : ∀ j, j < n → cs[off + j]? = vs[j]?) (k : wpList P ops Q rest (a.put o.dst (.agg vs.toArray)) w) : wpList P ops Q (o :: rest) a w :=
  wpList_load_mid hgd ty x ho b off hx vs d (fun j u hu' => by
    rw [cell_of_row w b _ cs T fr (H.at_ i hA), hv j (by have := (List.getElem?_eq_some_iff.1 hu').1; omega)]; exact hu') hu hd (by rw [hi, hn]) k
theorem W_store1 {P : Program} {Q : Exit → Act → World → Prop} {K : Act → World → Prop} {a : Act} {w w0 : World} {M : Nat → Prop} {L : List Asr} {o : Oper} {ty : TypeId} {x y : Operand} (ho : o.op = .store ty x y) (H : SH M w0 w L) (i : Nat) {b off : Nat} {cs : Array Value} {T : TypeId} {v : Value}
    (hx : a.eval x = .pointer (some ⟨b, off, none⟩)) (hA : L[i]? = some (pt b (.cells cs T (0, 0)))) (hy : a.eval y = v) (h1 : v.cells = #[v]) (hc1 : v.oneCell' = true) (hv : off < cs.size) (hsz : ∀ w, (sizeOf ty).run P w = .ok 1 w)
    (k : ∀ w', SH M w0 w' (L.set i (pt b (.cells (cs.setIfInBounds off v) T (0, 0)))) → K (a.put o.dst undef) w') : o.wp P a w K Q := by
  have hb := H.at_ i hA
  have hc : w.cell? ⟨b, off, none⟩ = some cs[off] := by rw [cell_of_row w b off cs T _ hb]; simp [hv]
  have hf : w.frozen? ⟨b, off, none⟩ = false := frozen_of_row w b off cs T hb
  have hr := run_storeCells_cells (P := P) b off [v] 0 w (fun j hj => (by simp at hj; simp [hj, hc])) (fun j hj => (by simp at hj; simpa [hj] using hf)) (fun u hu => (by simp at hu; simpa [hu] using hc1))
  refine wp_of_skip (w' := w.setCell ⟨b, off, none⟩ v) ?_ (k _ (H.setCell i v hA))
  unfold execOp
  simp only [ho, hx, hy, Instr.storeAt, Instr.sureAddr, storeVar, Sem.run_bind, Sem.run_pure, Result.andThen_ok, h1, hsz]
  simp only [Nat.add_zero] at hr
  simp [hr, World.setCells]
theorem R_sliceFrom {P : Program} {a : Act} {w : World} {o : Oper} {t : TypeId} {x lo : Operand} (ho : o.op = .slice t x (some lo) none none) {A : Option Addr} {n cap k : Nat} (hx : a.eval x = .slice A n cap) (hlo : a.eval lo = .int .i64 (k : Int)) (hk : k ≤ n)
    (ht : P.underlying t = some (.slice (P.elem t))) (hs : ∀ w, (sizeOf (P.elem t)).run P w = .ok 1 w) : (execOp a.eval o).run P w = .ok (.value (.slice (if cap = k then A else A.map (·.add (k * 1))) (n - k) (cap - k))) w := by
  unfold execOp
  simp only [ho, Option.map_some, Option.map_none, hx, hlo, Sem.run_bind, run_sliceAt_slice w t _ _ _ _ ht, run_slice_l w t A n cap ht .i64 (k : Int) (by omega) (by omega), hs, Result.andThen_ok, Sem.run_pure, sliced, Int.toNat_natCast]
theorem infoSl : (Tryz.prog.info? 22).map (fun i => (i.zero, i.size, i.bytes)) = some (some (.slice none 0 0), 1, 24) := by kernel_rfl
theorem one_part {w : World} {g : Nat} {T : TypeId} {fr : Nat × Nat} (t : Option Addr × Nat × Nat) (h : w.heap[g]? = some (.cells #[slV t] T fr)) : RdS encSl 1 w (.slice (some ⟨g, 0, none⟩) 1 1) [t] := by
  refine ⟨_, 1, rfl, Nat.le_refl _, .inr ⟨g, 0, _, T, fr, rfl, h, fun j hj i hi => ?_⟩⟩
  obtain rfl : j = 0 := by simpa using hj
  obtain rfl : i = 0 := by omega
  rfl
def jCells (b : Nat) (j : JS) : Array Value := #[.pointer (some ⟨b, 0, none⟩), .int .i64 (j.slot : Int), .int .i64 (j.log : Int), .int .i64 j.epoch, .int .i64 j.seq, .int .i64 (j.place : Int), .int .i64 (j.used : Int), .bool j.fresh, .bool j.refused]
def JA (b jb : Nat) (j : JS) : Asr := pt jb (.cells (jCells b j) 76 (0, 0))
theorem results_tmp4 {fn : Func} {t u v x : Tmp} (h : fn.results = #[.tmp t, .tmp u, .tmp v, .tmp x]) (tmps : Array Value) (P : Program) (w : World) :
    (results fn tmps).run P w = .ok (.tuple #[tmps.getD t undef, tmps.getD u undef, tmps.getD v undef, tmps.getD x undef]) w := by
  simp [results, h]
/-- What is lifted is within its bounds. -/
theorem lift_facts {s : List Int} {r : Rec} (hb : ∀ x ∈ s, 0 ≤ x ∧ x ≤ 255) (h : liftP s = some r) : U32 r.epoch ∧ U32 r.seq ∧ r.bytes.length ≤ 65535 ∧ r.sectors = countP r.bytes.length ∧ 32 * r.sectors ≤ s.length ∧ ∀ x ∈ r.bytes, 0 ≤ x ∧ x ≤ 255 := by
  unfold liftP at h
  by_cases h1 : s.length < 32
  · rw [if_pos h1] at h; cases h
  · rw [if_neg h1] at h
    by_cases h2 : s.length < 32 * countP (longP s)
    · rw [if_pos h2] at h; cases h
    · rw [if_neg h2] at h
      by_cases h3 : layP (epochP s) (seqP s) (unlayP s (longP s)) = s.take (32 * countP (longP s))
      · rw [if_pos h3] at h
        cases h
        have he := numB_lt 4 ((s.drop 24).take 4) (by rw [List.length_take, List.length_drop]; omega) (fun x hx => hb x (List.mem_of_mem_drop (List.mem_of_mem_take hx)))
        have hq := numB_lt 4 ((s.drop 28).take 4) (by rw [List.length_take, List.length_drop]; omega) (fun x hx => hb x (List.mem_of_mem_drop (List.mem_of_mem_take hx)))
        have hl := numB_lt 2 (s.take 2) (by rw [List.length_take]; omega) (fun x hx => hb x (List.mem_of_mem_take hx))
        have hul : (unlayP s (longP s)).length = longP s := by unfold unlayP; simp
        refine ⟨⟨he.1, by have := he.2; show epochP s ≤ _; unfold epochP; omega⟩, ⟨hq.1, by have := hq.2; show seqP s ≤ _; unfold seqP; omega⟩, ?_, ?_, by show 32 * countP (longP s) ≤ s.length; omega, ?_⟩
        · show (unlayP s (longP s)).length ≤ 65535
          rw [hul]; unfold longP; omega
        · show countP (longP s) = countP (unlayP s (longP s)).length
          rw [hul]
        · intro x hx
          obtain ⟨i, _, rfl⟩ := List.mem_map.1 hx
          rw [List.getD_eq_getElem?_getD]
          cases hi : s[32 * ((i + 2) / 24) + (i + 2) % 24]? with
          | none => simp
          | some y => exact hb y (List.mem_of_getElem? hi)
      · rw [if_neg h3] at h; cases h
/-- The checkpoints looked at one by one. -/
def bestStep (d : DS) (slot n : Nat) (acc : Option (Rec × Nat)) : Option (Rec × Nat) :=
  match liftP (d.between (n * slot) slot), acc with
  | none, acc => acc
  | some a, none => some (a, n)
  | some a, some (c, p) => if c.epoch < a.epoch then some (a, n) else some (c, p)
def bestUp (d : DS) (slot : Nat) : Nat → Option (Rec × Nat)
  | 0 => none
  | n + 1 => bestStep d slot n (bestUp d slot n)
theorem best_eq (d : DS) (slot : Nat) : bestP d slot = bestUp d slot 2 := by
  show bestP d slot = bestStep d slot 1 (bestStep d slot 0 none)
  unfold bestP bestStep
  rw [Nat.zero_mul, Nat.one_mul]
  cases liftP (d.between 0 slot) <;> cases liftP (d.between slot slot) <;> rfl
def accJ (slot log : Nat) : Option (Rec × Nat) → JS
  | none => ⟨slot, log, -1, 0, 0, 0, false, false⟩
  | some (a, p) => ⟨slot, log, a.epoch, a.seq, p, 0, false, false⟩
def accB : Option (Rec × Nat) → List Int
  | none => []
  | some (a, _) => a.bytes
def AccOk (acc : Option (Rec × Nat)) : Prop := ∀ a p, acc = some (a, p) → U32 a.epoch ∧ U32 a.seq ∧ p ≤ 1
/-- Record by record: one record more, or the end. -/
theorem scan_more {s : List Int} {ep : Int} {f : Nat} {seq : Int} {used : Nat} {r : Rec} (h : liftP (s.drop (32 * used)) = some r) (he : r.epoch = ep) (hq : r.seq = seq + 1) :
    scanP s ep (f + 1) seq used = (r.bytes :: (scanP s ep f (seq + 1) (used + r.sectors)).1, (scanP s ep f (seq + 1) (used + r.sectors)).2) := by
  show (match liftP (s.drop (32 * used)) with
    | some r => if r.epoch = ep ∧ r.seq = seq + 1 then (r.bytes :: (scanP s ep f (seq + 1) (used + r.sectors)).1, (scanP s ep f (seq + 1) (used + r.sectors)).2) else ([], seq, used)
    | none => ([], seq, used)) = _
  rw [h]
  exact if_pos ⟨he, hq⟩
theorem scan_end {s : List Int} {ep : Int} {f : Nat} {seq : Int} {used : Nat} (h : ∀ r, liftP (s.drop (32 * used)) = some r → ¬ (r.epoch = ep ∧ r.seq = seq + 1)) : scanP s ep f seq used = ([], seq, used) := by
  cases f with
  | zero => rfl
  | succ f =>
    show (match liftP (s.drop (32 * used)) with
      | some r => if r.epoch = ep ∧ r.seq = seq + 1 then (r.bytes :: (scanP s ep f (seq + 1) (used + r.sectors)).1, (scanP s ep f (seq + 1) (used + r.sectors)).2) else ([], seq, used)
      | none => ([], seq, used)) = _
    cases hl : liftP (s.drop (32 * used)) with
    | none => rfl
    | some r => exact if_neg (h r hl)
end Go.Proofs.YtgmeahogdjhejaaGreatDoor
