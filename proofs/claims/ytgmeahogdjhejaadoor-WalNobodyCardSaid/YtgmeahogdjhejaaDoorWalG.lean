/- sheet.last, sheet.marked, sheet.Lay. -/
import Derived.Test.YtgmeahogdjhejaaDoorWalF
import Derived.RangeFuncCalls
namespace Go.Proofs.YtgmeahogdjhejaaDoor
set_option linter.unusedVariables false
set_option linter.unusedSimpArgs false
open Go.RowKit Go.Shelf

theorem bytesRow {w : World} {g : Nat} {xs : List Int} {T : TypeId} {fr : Nat × Nat} (h : w.heap[g]? = some (.cells (bcells xs) T fr)) (c : Nat) (hc : xs.length ≤ c) : RdS (encInt .u8) 1 w (.slice (some ⟨g, 0, none⟩) xs.length c) xs :=
  ⟨_, c, rfl, hc, .inr ⟨g, 0, _, T, fr, rfl, h, fun j hj i hi => by
    obtain rfl : i = 0 := by omega
    simp [bcells, encInt, hj]⟩⟩
theorem RdS.dropG {α : Type} {enc : α → List Value} {k : Nat} {w : World} {b off n cap : Nat} {xs : List α} (h : RdS enc k w (.slice (some ⟨b, off, none⟩) n cap) xs) (m : Nat) (hm : m ≤ xs.length) : RdS enc k w (.slice (some ⟨b, off + m * k, none⟩) (xs.length - m) (cap - m)) (xs.drop m) := by
  obtain ⟨A', cap', he, hc, h⟩ := h
  cases he
  refine ⟨_, cap - m, by rw [List.length_drop], by rw [List.length_drop]; omega, ?_⟩
  rcases h with h | ⟨b', off', cs, T, fr, h1, h2, h3⟩
  · left; rw [h]; simp
  · cases h1
    right
    refine ⟨b, off + m * k, cs, T, fr, rfl, h2, fun j hj i hi => ?_⟩
    rw [List.getElem_drop, ← h3 (m + j) (by rw [List.length_drop] at hj; omega) i hi]
    congr 1
    rw [Nat.add_mul]
    omega
theorem octI_any (n : Int) (w : World) : Calls Tryd.prog 69 #[.slice none 0 0, .int .i64 n] w fun e w' => ∃ g, e = .returned (.slice (some ⟨g, 0, none⟩) 8 8) ∧ SH (fun _ => False) w w' [pt g (.cells (bcells (be8 n)) 5 (0, 0))] :=
  (octInt_any (.slice none 0 0) [] n w (RdS.nil _ _ _) (by simp)).mono fun e w' ⟨g, he, h⟩ => ⟨g, he, h⟩
set_option maxRecDepth 100000 in
theorem last4_any (n : Int) (w : World) : Calls Tryd.prog 58 #[.int .i64 n, .int .i64 4] w (GivesB w (be4 n)) := by
  have ho := octI_any n w
  go_enter Tryd.func58, Tryd.ntmps58
  go_wp2_with (go_at_call 69; refine ho.mono ?_; rintro e w1 ⟨g, rfl, H⟩; have hrd := (bytesRow (H.at_ 0 rfl) 8 (by show 8 ≤ 8; omega)).dropG 4 (by show 4 ≤ 8; omega))
  go_ret
  exact ⟨_, rfl, by first | exact hrd | (rw [Nat.zero_add] at hrd; exact hrd), H.ext⟩
set_option maxRecDepth 100000 in
theorem last2_any (n : Int) (w : World) : Calls Tryd.prog 58 #[.int .i64 n, .int .i64 2] w (GivesB w (be2 n)) := by
  have ho := octI_any n w
  go_enter Tryd.func58, Tryd.ntmps58
  go_wp2_with (go_at_call 69; refine ho.mono ?_; rintro e w1 ⟨g, rfl, H⟩; have hrd := (bytesRow (H.at_ 0 rfl) 8 (by show 8 ≤ 8; omega)).dropG 6 (by show 6 ≤ 8; omega))
  go_ret
  exact ⟨_, rfl, by first | exact hrd | (rw [Nat.zero_add] at hrd; exact hrd), H.ext⟩
theorem be4_bytes (n : Int) : ∀ x ∈ be4 n, 0 ≤ x ∧ x ≤ 255 := by
  intro x hx
  simp only [be4, List.mem_cons, List.not_mem_nil, or_false] at hx
  rcases hx with rfl | rfl | rfl | rfl <;> omega
theorem be2_bytes (n : Int) : ∀ x ∈ be2 n, 0 ≤ x ∧ x ≤ 255 := by
  intro x hx
  simp only [be2, List.mem_cons, List.not_mem_nil, or_false] at hx
  rcases hx with rfl | rfl <;> omega
theorem RdS.isSlice {w : World} {v : Value} {xs : List Int} (h : RdS (encInt .u8) 1 w v xs) : ∃ A c, v = .slice A xs.length c := by
  obtain ⟨A, c, h, _⟩ := h.len
  exact ⟨A, c, h⟩
theorem two_parts {w : World} {g : Nat} {v1 v2 : Value} {a b : List Int} (hg : w.heap[g]? = some (.cells #[v1, v2] 23 (0, 0))) (h1 : RdS (encInt .u8) 1 w v1 a) (h2 : RdS (encInt .u8) 1 w v2 b) (ha : ∀ x ∈ a, 0 ≤ x ∧ x ≤ 255) (hb : ∀ x ∈ b, 0 ≤ x ∧ x ≤ 255) : Parts w g [(v1, a), (v2, b)] :=
  ⟨hg, fun p hp => by simp only [List.mem_cons, List.not_mem_nil, or_false] at hp; rcases hp with rfl | rfl <;> assumption, fun p hp => by simp only [List.mem_cons, List.not_mem_nil, or_false] at hp; rcases hp with rfl | rfl <;> assumption⟩
theorem concat2 {w : World} {g : Nat} {v1 v2 : Value} {a b : List Int} (h : Parts w g [(v1, a), (v2, b)]) (h0 : 0 < a.length) (hl : a.length + b.length ≤ 1000000) : Calls Tryd.prog 57 #[.slice (some ⟨g, 0, none⟩) 2 2] w (GivesNew w (a ++ b)) := by
  have := concat_any g _ w h (by simp) (by simp [flatB]; omega) (by simp [flatB]; omega)
  have e : flatB [(v1, a), (v2, b)] = a ++ b := by simp [flatB]
  rw [e] at this
  exact this
theorem crcOf2 {w : World} {g : Nat} {v1 v2 : Value} {a b : List Int} (h : Parts w g [(v1, a), (v2, b)]) (ha : a.length ≤ 1000000) (hb : b.length ≤ 1000000) : Calls Tryd.prog 59 #[.slice (some ⟨g, 0, none⟩) 2 2] w fun e w' => e = .returned (.int .u32 (crcTwo a b)) ∧ w' = w :=
  crcOf_any g _ w h (by simp) (fun p hp => by simp only [List.mem_cons, List.not_mem_nil, or_false] at hp; rcases hp with rfl | rfl <;> assumption)
theorem L_litE {P : Program} {w w0 : World} {M : Nat → Prop} {L : List Asr} {a : Act} {ops : Array Oper} {rest : List Oper} {o : Oper} {Q : Exit → Act → World → Prop} (hgd : o.guard = none) {t e : TypeId} {n : Nat} {parts : Array (Nat × Operand)} (ho : o.op = .buildSlice t n parts) (H : SH M w0 w L) {cs : Array Value}
    (hr : ∀ w, (Instr.buildSlice t n (parts.map fun (i, x) => (i, a.eval x))).run P w = .ok (.slice (some ⟨w.heap.size, 0, none⟩) n n) (w.alloc (.cells cs e)))
    (k : ∀ b w', SH M w0 w' (pt b (.cells cs e (0, 0)) :: L) → Ext0 w w' → wpList P ops Q rest (a.put o.dst (.slice (some ⟨b, 0, none⟩) n n)) w') : wpList P ops Q (o :: rest) a w := by
  refine wpList_plain hgd fun K hK => ?_
  unfold Oper.wp execOp
  simp only [ho, Sem.run_bind, Sem.run_pure, Result.andThen_ok, hr]
  exact hK _ _ (k _ _ (H.alloc _) (Ext.alloc _ _ _))
set_option maxRecDepth 100000 in
set_option maxHeartbeats 2000000 in
theorem marked_any (e q : Int) (w : World) : Calls Tryd.prog 56 #[.int .i64 e, .int .i64 q] w (GivesNew w (markP e q)) := by
  have H : SH (fun _ => False) w w [] := SH.nil _ _
  have h1 := fun {W : World} => last4_any e W
  have h2 := fun {W : World} => last4_any q W
  go_enter Tryd.func56, Tryd.ntmps56
  go_wp2_with (first
    | (go_at_call 58; refine h1.mono ?_; clear h1; rintro e w1 ⟨v1, rfl, hv1, hE⟩; replace H := H.calls hE; clear hE; obtain ⟨A1, c1, rfl⟩ := hv1.isSlice)
    | (go_at_call 58; refine h2.mono ?_; clear h2; rintro e w2 ⟨v2, rfl, hv2, hE⟩; replace H := H.calls hE; replace hv1 := hv1.keep hE; clear hE; obtain ⟨A2, c2, rfl⟩ := hv2.isSlice)
    | (refine L_litE (e := 23) (cs := #[.slice A1 4 c1, .slice A2 4 c2]) rfl rfl H (by intro _; first | (go_simp; done) | (go_simp; rfl)) ?_; clear H; intro gl w H hE; replace hv1 := hv1.keep hE; replace hv2 := hv2.keep hE; clear hE)
    | (go_at_call 57; refine (concat2 (two_parts (H.at_ 0 rfl) hv1 hv2 (be4_bytes _) (be4_bytes _)) (by show 0 < 4; omega) (by show 4 + 4 ≤ 1000000; omega)).mono ?_; rintro e w4 ⟨v4, rfl, ho, hE⟩))
  go_ret
  exact ⟨v4, rfl, ownsRow_weak ho (fun j hj => Nat.le_trans H.ext.size (ho.lt j hj).1), H.ext.trans0 hE⟩
end Go.Proofs.YtgmeahogdjhejaaDoor
