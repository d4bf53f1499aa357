/- The document's disk: New. (Printed by genrefi.py.) -/
import Derived.Test.YtgmeahogdjhejaaGreatDoorWalRA
namespace Go.Proofs.YtgmeahogdjhejaaGreatDoor.Rf
set_option linter.unusedVariables false
set_option linter.unusedSimpArgs false
open Go.RowKit

section
variable {P : Program} {w w0 : World} {M : Nat → Prop} {L : List Asr} {a : Act} {o : Oper} {Q : Exit → Act → World → Prop} {K : Act → World → Prop}
theorem wp_here {v : Value} (hr : (execOp a.eval o).run P w = .ok (.value v) w) (k : K (a.put o.dst v) w) : o.wp P a w K Q := wp_of_value hr k
theorem W_lit {t e : TypeId} {n : Nat} {parts : Array (Nat × Operand)} (ho : o.op = .buildSlice t n parts) (H : SH M w0 w L) {cs : Array Value}
    (hr : ∀ w, (Instr.buildSlice t n (parts.map fun (i, x) => (i, a.eval x))).run P w = .ok (.slice (some ⟨w.heap.size, 0, none⟩) n n) (w.alloc (.cells cs e)))
    (k : ∀ b w', SH M w0 w' (pt b (.cells cs e (0, 0)) :: L) → K (a.put o.dst (.slice (some ⟨b, 0, none⟩) n n)) w') : o.wp P a w K Q := by
  unfold Oper.wp execOp
  simp only [ho, Sem.run_bind, Sem.run_pure, Result.andThen_ok, hr]
  exact k _ _ (H.alloc _)
theorem W_bytes {t : TypeId} {l c : Operand} (ho : o.op = .makeSlice t l c) (H : SH M w0 w L) {e : TypeId} {bytes : Nat} (ht : P.underlying t = some (.slice e)) (hi : (P.info? e).map (fun i => (i.zero, i.size, i.bytes)) = some (some (.int .u8 0), 1, bytes))
    {kl kc : IntKind} {n : Nat} (hl : a.eval l = .int kl (n : Int)) (hc : a.eval c = .int kc (n : Int)) (hb : bytes * n ≤ 281474976710656) (hn : n ≤ maxLen)
    (k : ∀ g w', SH M w0 w' (ownA e 1 (.slice (some ⟨g, 0, none⟩) n n) n (cellsOf (encInt .u8) (List.replicate n 0)) :: L) → K (a.put o.dst (.slice (some ⟨g, 0, none⟩) n n)) w') : o.wp P a w K Q := by
  cases hinfo : P.info? e with
  | none => rw [hinfo] at hi; cases hi
  | some i =>
    rw [hinfo] at hi
    simp only [Option.map_some, Option.some.injEq, Prod.mk.injEq] at hi
    have hr := run_make0 (w := w) ho ht hinfo hi.1 hl hc (by rw [hi.2.2]; exact hb) hn
    unfold Oper.wp
    rw [hr]
    have H1 := (H.alloc (.cells (madeCells (Value.int .u8 0).cells (n * i.size)) e)).toOwn 0 rfl 1 n n (Nat.le_refl _) hn (by simp [madeCells, hi.2.1]) (cellsOf (encInt .u8) (List.replicate n 0)) (by
      rw [hi.2.1, madeCells_rep _ n 1 rfl, List.take_of_length_le]
      · rw [cellsOf_int]
        show (List.replicate n [Value.int .u8 0]).flatten = _
        rw [List.map_replicate]
        induction n with
        | zero => rfl
        | succ n ih => simp [List.replicate_succ]
      · simp [show (Value.int IntKind.u8 0).cells.size = 1 from rfl])
    exact k _ _ H1
end
def encSl (p : Option Addr × Nat × Nat) : List Value := [.slice p.1 p.2.1 p.2.2]
theorem encSl_len (p : Option Addr × Nat × Nat) : (encSl p).length = 1 := rfl
theorem encSl_one (p : Option Addr × Nat × Nat) : ∀ u ∈ encSl p, u.oneCell' = true := by intro u hu; simp [encSl] at hu; subst hu; rfl
def encBo (b : Bool) : List Value := [.bool b]
theorem encBo_len (b : Bool) : (encBo b).length = 1 := rfl
theorem encBo_one (b : Bool) : ∀ u ∈ encBo b, u.oneCell' = true := by intro u hu; simp [encBo] at hu; subst hu; rfl
theorem RdS.one {α : Type} {enc : α → List Value} {w : World} {g : Nat} {v : Value} {T : TypeId} {fr : Nat × Nat} {x : α} (h : w.heap[g]? = some (.cells #[v] T fr)) (hv : enc x = [v]) : RdS enc 1 w (.slice (some ⟨g, 0, none⟩) 1 1) [x] :=
  ⟨_, 1, rfl, Nat.le_refl _, .inr ⟨g, 0, #[v], T, fr, rfl, h, fun j hj i hi => by
    obtain rfl : j = 0 := by simpa using hj
    obtain rfl : i = 0 := by omega
    simp [hv]⟩⟩
theorem infoS : (Tryz.prog.info? 22).map (fun i => (i.zero, i.size, i.bytes)) = some (some (.slice none 0 0), 1, 24) := by kernel_rfl
theorem infoI : (Tryz.prog.info? 3).map (fun i => (i.zero, i.size, i.bytes)) = some (some (.int .i64 0), 1, 8) := by kernel_rfl
theorem infoB : (Tryz.prog.info? 4).map (fun i => (i.zero, i.size, i.bytes)) = some (some (.bool false), 1, 1) := by kernel_rfl

def z32 : List Int := List.replicate 32 0
/-- A disk that is being made: k sectors. -/
structure RM.OkN (r : RM) (k : Nat) : Prop where
  gl : r.gs.length = k
  sl : r.ss.length = k
  g : ∀ v ∈ r.gs, (v, z32) ∈ r.bv
  s : ∀ v ∈ r.ss, (v, z32) ∈ r.bv
  age : r.age = List.replicate k 0
  old : r.old = List.replicate k 0
  wet : r.wet = List.replicate k false
  f : r.f = -1
  m : r.m = 0
theorem RM.OkN.ok {r : RM} {k : Nat} (h : r.OkN k) : r.Ok (DS.new k) := by
  have his : ∀ i : Nat, (DS.new k).is (i : Int) = St.zero := fun i => by
    unfold DS.is DS.new
    rw [getE_nil]
    simp only [Option.getD_none, Int.toNat_natCast, List.getD_eq_getElem?_getD, List.getElem?_replicate]
    split <;> rfl
  have hl : (DS.new k).sure.length = k := by simp [DS.new]
  refine ⟨by rw [hl, h.gl], by rw [hl, h.sl], fun i hi => ?_, fun i hi => ?_, ?_, ?_, ?_, ?_, ?_⟩
  · rw [his]; exact h.g _ (List.getElem_mem _)
  · have hz : (DS.new k).sure.getD i St.zero = St.zero := by
      unfold DS.new
      simp only [List.getD_eq_getElem?_getD, List.getElem?_replicate]
      split <;> rfl
    rw [hz]; exact h.s _ (List.getElem_mem _)
  · rw [h.age, hl]
    apply List.ext_getElem
    · simp
    · intro i h1 h2
      simp [his, St.zero]
  · rw [h.old]; simp [DS.new, St.zero]
  · rw [h.wet, hl]
    apply List.ext_getElem
    · simp
    · intro i h1 h2
      simp [DS.new, getE_nil]
  · rw [h.f]; exact ⟨fun h => by simp [DS.new] at h, fun _ => by omega, by omega⟩
  · rw [h.m]; rfl
theorem RM.OkN.snoc {r : RM} {k : Nat} (h : r.OkN k) (g1 g2 v1 v2 v3 v4 v5 : Value) : (RM.mk v1 v2 v3 v4 v5 (r.gs ++ [g1]) (r.ss ++ [g2]) (r.age ++ [0]) (r.old ++ [0]) (r.wet ++ [false]) r.f r.m ((g2, z32) :: (g1, z32) :: r.bv)).OkN (k + 1) := by
  refine ⟨by simp [h.gl], by simp [h.sl], ?_, ?_, ?_, ?_, ?_, h.f, h.m⟩
  · intro v hv
    rcases List.mem_append.1 hv with hv | hv
    · exact List.mem_cons_of_mem _ (List.mem_cons_of_mem _ (h.g v hv))
    · rw [List.mem_singleton.1 hv]; simp
  · intro v hv
    rcases List.mem_append.1 hv with hv | hv
    · exact List.mem_cons_of_mem _ (List.mem_cons_of_mem _ (h.s v hv))
    · rw [List.mem_singleton.1 hv]; simp
  · show r.age ++ [0] = _; rw [h.age, List.replicate_succ']
  · show r.old ++ [0] = _; rw [h.old, List.replicate_succ']
  · show r.wet ++ [false] = _; rw [h.wet, List.replicate_succ']
theorem SH.mergeB {M : Nat → Prop} {w0 w : World} {v : Value} {T : TypeId} {n : Nat} {xs : List Int} {L1 : List Asr} {bv : List (Value × List Int)} (H : SH M w0 w (ownA T 1 v n (cellsOf (encInt .u8) xs) :: (L1 ++ [bytesA bv]))) (hn : n = xs.length) : SH M w0 w (L1 ++ [bytesA ((v, xs) :: bv)]) := by
  have hown := RdS.own (encInt_len .u8) hn (H.get 0 rfl)
  have hbv : (bytesA bv).says w := H.says _ (by simp)
  refine SH.merge H (bytesA ((v, xs) :: bv)) (fun p hp => ?_) (fun i hi => ?_)
  · rcases List.mem_cons.1 hp with rfl | hp
    · exact hown
    · exact hbv p hp
  · obtain ⟨p, hp, off, n, c, he⟩ := hi
    rcases List.mem_cons.1 hp with rfl | hp
    · left
      show Value.ownBlock _ = some i
      simp only at he
      rw [he]; rfl
    · exact .inr ⟨p, hp, off, n, c, he⟩
theorem SH.addEmpty {M : Nat → Prop} {w0 w : World} {L : List Asr} (H : SH M w0 w L) (A : Asr) (hs : A.says w) (hf : ∀ i, ¬ A.fp i) : SH M w0 w (L ++ [A]) := by
  refine ⟨H.ext, ?_, ?_, ?_, ?_⟩
  · intro X hX
    rcases List.mem_append.1 hX with hX | hX
    · exact H.says X hX
    · rw [List.mem_singleton.1 hX]; exact hs
  · intro X hX i hi
    rcases List.mem_append.1 hX with hX | hX
    · exact H.lt X hX i hi
    · rw [List.mem_singleton.1 hX] at hi; exact absurd hi (hf i)
  · intro X hX i hi
    rcases List.mem_append.1 hX with hX | hX
    · exact H.own X hX i hi
    · rw [List.mem_singleton.1 hX] at hi; exact absurd hi (hf i)
  · refine List.pairwise_append.2 ⟨H.apart, List.pairwise_singleton _ _, fun X hX Y hY i hi hi' => ?_⟩
    rw [List.mem_singleton.1 hY] at hi'
    exact hf i hi'
theorem own_form {w : World} {T : TypeId} {v : Value} {n : Nat} {xs : List Value} (h : w.ownsRow 0 T 1 v n xs) (h0 : 0 < n) : ∃ g c, v = .slice (some ⟨g, 0, none⟩) n c := by
  rcases h.2 with ⟨_, h1⟩ | ⟨g, c, cur, h1, _⟩
  · omega
  · exact ⟨g, c, h1⟩

def NewRel' (b : Nat) (n : Nat) (w0 : World) (vi : Value) (wr : World) : Prop :=
  ∃ (k : Nat) (r : RM), vi = .int .i64 (k : Int) ∧ k ≤ n ∧ r.OkN k ∧ SH (fun _ => False) w0 wr (r.L b)
def NewE (n : Nat) (wS : World) (e : Ending) (w' : World) : Prop := ∃ b r, e = .returned (.pointer (some ⟨b, 0, none⟩)) ∧ r.OkN n ∧ SH (fun _ => False) wS w' (RM.L b r)
set_option maxRecDepth 100000 in
set_option maxHeartbeats 16000000 in
theorem refNew_at (sectors : Int) (n : Nat) (hn : n ≤ 4096) (hsn : n = min sectors.toNat 4096) (wS : World) :
    Calls Tryz.prog 5 #[.int .i64 sectors] wS (NewE n wS) := by
  have H : SH (fun _ => False) wS wS [] := SH.nil _ _
  go_enter Tryz.func5, Tryz.ntmps5
  go_wp2_with (first | (refine L_box rfl rfl H rfl rfl ?_; clear H; intro g w H; (try simp only [Act.eval, Array.getD_eq_getD_getElem?, List.getElem?_toArray, List.getElem?_cons_succ, List.getElem?_cons_zero, Option.getD_some, Value.cells] at H); (try simp only [Act.put, List.setIfInBounds_toArray, List.set_cons_succ, List.set_cons_zero, List.getElem_toArray, List.getElem_cons_succ, List.getElem_cons_zero])))
  have H2 : SH (fun _ => False) wS w (RM.L g ⟨.slice none 0 0, .slice none 0 0, .slice none 0 0, .slice none 0 0, .slice none 0 0, [], [], [], [], [], -1, 0, []⟩) :=
    (((((H.addEmpty (ownA 22 1 (.slice none 0 0) 0 []) (World.ownsRow_nil _ _ _ _) (fun i h => by cases h)).addEmpty (ownA 22 1 (.slice none 0 0) 0 []) (World.ownsRow_nil _ _ _ _) (fun i h => by cases h)).addEmpty (ownA 3 1 (.slice none 0 0) 0 []) (World.ownsRow_nil _ _ _ _) (fun i h => by cases h)).addEmpty (ownA 3 1 (.slice none 0 0) 0 []) (World.ownsRow_nil _ _ _ _) (fun i h => by cases h)).addEmpty (ownA 4 1 (.slice none 0 0) 0 []) (World.ownsRow_nil _ _ _ _) (fun i h => by cases h)).addEmpty (bytesA []) (fun p hp => by cases hp) (fun i ⟨p, hp, _⟩ => by cases hp)
  clear H
  go_loopw [4] (fun vi wr => NewRel' g n wS vi wr) (fun vi _ => n - (intOf vi).toNat)
  case atStart => exact ⟨0, _, rfl, Nat.zero_le _, ⟨rfl, rfl, by simp, by simp, rfl, rfl, rfl, rfl, rfl⟩, H2⟩
  case round =>
    clear H2
    obtain ⟨k, r, rfl, hk, hr, H⟩ := hrel
    by_cases hkn : k < n
    · have t1 : (k : Int) < sectors := by omega
      have t2 : (k : Int) < 4096 := by omega
      have HS := Lib.hid hr.snoc
      have e1 := hr.gl
      have e2 := hr.sl
      have e3 : r.age.length = k := by rw [hr.age]; simp
      have e4 : r.old.length = k := by rw [hr.old]; simp
      have e5 : r.wet.length = k := by rw [hr.wet]; simp
      clear hr
      obtain ⟨v1, v2, v3, v4, v5, gs, ss, age, old, wet, f, m, bv⟩ := r
      simp only at e1 e2 e3 e4 e5 HS
      have b1 : (gs.length + 1) * 24 ≤ 140737488355328 := by omega
      have b2 : (ss.length + 1) * 24 ≤ 140737488355328 := by omega
      have b3 : (age.length + 1) * 8 ≤ 140737488355328 := by omega
      have b4 : (old.length + 1) * 8 ≤ 140737488355328 := by omega
      have b5 : (wet.length + 1) * 1 ≤ 140737488355328 := by omega
      have m1 : gs.length + 1 ≤ maxLen := by simp only [maxLen]; omega
      have m2 : ss.length + 1 ≤ maxLen := by simp only [maxLen]; omega
      have m3 : age.length + 1 ≤ maxLen := by simp only [maxLen]; omega
      have m4 : old.length + 1 ≤ maxLen := by simp only [maxLen]; omega
      have m5 : wet.length + 1 ≤ maxLen := by simp only [maxLen]; omega
      have HE := Lib.hid (And.intro e1 (And.intro e2 (And.intro e3 (And.intro e4 e5))))
      clear e1 e2 e3 e4 e5
      simp only [RM.L, RM.cells] at H
      go_wp2_with fail
      have HX := H.drop (L' := [_]) (List.Sublist.cons_cons _ (List.nil_sublist _))
      refine D_startX 10 #[false, false, false, false, false, false, false, false, false, false, false] (by kernel_rfl) HX (by kernel_rfl) (fun hS => ?_)
      try simp only [Act.put, List.setIfInBounds_toArray, List.set_cons_succ, List.set_cons_zero]
      refine D_freeX 0 #[true, false, false, false, false, false, false, false, false, false, false] (by kernel_rfl) (v := ?_) rfl (by kernel_rfl) (by kernel_rfl) (by kernel_rfl) (by kernel_rfl) (fun _ _ _ h => h) rfl (by rfl) (fun W => ?_) hS ?_
      rotate_left; (focus (first | (go_simp; done) | (go_simp; with_reducible rfl) | (go_simp; rfl))); all_goals skip; (try simp only [List.set_cons_succ, List.set_cons_zero])
      refine D_freeX 1 #[true, true, false, false, false, false, false, false, false, false, false] (by kernel_rfl) (v := ?_) rfl (by kernel_rfl) (by kernel_rfl) (by kernel_rfl) (by kernel_rfl) (fun _ _ _ h => h) rfl (by rfl) (fun W => ?_) hS ?_
      rotate_left; (focus (first | (go_simp; done) | (go_simp; with_reducible rfl) | (go_simp; rfl))); all_goals skip; (try simp only [List.set_cons_succ, List.set_cons_zero])
      refine D_freeX 2 #[true, true, true, false, false, false, false, false, false, false, false] (by kernel_rfl) (v := ?_) rfl (by kernel_rfl) (by kernel_rfl) (by kernel_rfl) (by kernel_rfl) (fun _ _ _ h => h) rfl (by rfl) (fun W => ?_) hS ?_
      rotate_left; (focus (first | (go_simp; done) | (go_simp; with_reducible rfl) | (go_simp; rfl))); all_goals skip; (try simp only [List.set_cons_succ, List.set_cons_zero])
      refine D_freeX 3 #[true, true, true, true, false, false, false, false, false, false, false] (by kernel_rfl) (v := ?_) rfl (by kernel_rfl) (by kernel_rfl) (by kernel_rfl) (by kernel_rfl) (fun _ _ _ h => h) rfl (by rfl) (fun W => ?_) hS ?_
      rotate_left; (focus (first | (go_simp; done) | (go_simp; with_reducible rfl) | (go_simp; rfl))); all_goals skip; (try simp only [List.set_cons_succ, List.set_cons_zero])
      refine D_takeX 4 #[true, true, true, true, true, false, false, false, false, false, false] (by kernel_rfl) (v := ?_) rfl (by kernel_rfl) (by kernel_rfl) (by kernel_rfl) (by kernel_rfl) (by kernel_rfl) (fun _ _ _ h => h) rfl (by rfl) (fun W hS => ?_) hS ?_
      rotate_left; (focus (first | (refine R_load1 (ty := 33) (x := Operand.tmp 19) rfl hS 0 rfl rfl ?_ Tryz.isAgg33; rfl))); all_goals skip; (try simp only [List.set_cons_succ, List.set_cons_zero, List.getElem_toArray, List.getElem_cons_succ, List.getElem_cons_zero])
      refine D_oneX 5 #[true, true, true, true, true, true, false, false, false, false, false] (by kernel_rfl) rfl (by kernel_rfl) (by rfl) ?_
      have HW := H.drew
      refine W_bytes (n := 32) rfl HW Tryz.underlying22 infoU8 rfl rfl (by decide) (by simp [maxLen]) ?_
      intro g1 w' HW5
      clear HW
      have HW := HW5
      clear HW5
      clear hS
      have hS := HW.drop (L' := [_]) (List.Sublist.cons _ (List.Sublist.cons_cons _ (List.nil_sublist _)))
      refine ⟨hS, ?_⟩
      try simp only [Act.put, List.getElem_toArray, List.getElem_cons_succ, List.getElem_cons_zero, List.setIfInBounds_toArray, List.set_cons_succ, List.set_cons_zero]
      refine D_oneX 6 #[true, true, true, true, true, true, true, false, false, false, false] (by kernel_rfl) rfl (by kernel_rfl) (by rfl) ?_
      refine W_lit (e := 22) (cs := #[.slice (some ⟨g1, 0, none⟩) 32 32]) rfl HW (fun w => by first | (go_simp; done) | (go_simp; rfl)) ?_
      intro gl w' HW6
      clear HW
      have HW := HW6
      clear HW6
      clear hS
      have hS := HW.drop (L' := [_]) (List.Sublist.cons _ (List.Sublist.cons _ (List.Sublist.cons_cons _ (List.nil_sublist _))))
      refine ⟨hS, ?_⟩
      try simp only [Act.put, List.getElem_toArray, List.getElem_cons_succ, List.getElem_cons_zero, List.setIfInBounds_toArray, List.set_cons_succ, List.set_cons_zero]
      refine D_oneX 7 #[true, true, true, true, true, true, true, true, false, false, false] (by kernel_rfl) rfl (by kernel_rfl) (by rfl) ?_
      refine W_append encSl_len encSl_one (s := .tmp 20) (x := .tmp 22) (xv := .slice (some ⟨gl, 0, none⟩) 1 1) (ys := [(some ⟨g1, 0, none⟩, 32, 32)]) rfl Tryz.underlying33 infoS rfl (by decide) HW 3 rfl rfl rfl (RdS.one (HW.at_ 0 rfl) rfl) b1 m1 ?_
      intro vn w' HW7 hnn
      obtain ⟨gn1, cn1, rfl⟩ := own_form (HW7.get 3 rfl) (by simp)
      simp only [List.set_cons_succ, List.set_cons_zero] at HW7
      clear HW
      have HW := HW7
      clear HW7 hnn
      clear hS
      have hS := HW.drop (L' := [_]) (List.Sublist.cons _ (List.Sublist.cons _ (List.Sublist.cons_cons _ (List.nil_sublist _))))
      refine ⟨hS, ?_⟩
      try simp only [Act.put, List.getElem_toArray, List.getElem_cons_succ, List.getElem_cons_zero, List.setIfInBounds_toArray, List.set_cons_succ, List.set_cons_zero]
      refine D_freeX 8 #[true, true, true, true, true, true, true, true, true, false, false] (by kernel_rfl) (v := ?_) rfl (by kernel_rfl) (by kernel_rfl) (by kernel_rfl) (by kernel_rfl) (fun _ _ _ h => h) rfl (by rfl) (fun W => ?_) hS ?_
      rotate_left; (focus (first | (go_simp; done) | (go_simp; with_reducible rfl) | (go_simp; rfl))); all_goals skip; (try simp only [List.set_cons_succ, List.set_cons_zero])
      refine D_freeX 9 #[true, true, true, true, true, true, true, true, true, true, false] (by kernel_rfl) (v := ?_) rfl (by kernel_rfl) (by kernel_rfl) (by kernel_rfl) (by kernel_rfl) (fun _ _ _ h => h) rfl (by rfl) (fun W => ?_) hS ?_
      rotate_left; (focus (first | (go_simp; done) | (go_simp; with_reducible rfl) | (go_simp; rfl))); all_goals skip; (try simp only [List.set_cons_succ, List.set_cons_zero])
      refine D_pX #[true, true, true, true, true, true, true, true, true, true, true] (by kernel_rfl) rfl (by kernel_rfl) (by rfl) ?_
      have hbk := HW.at_ 2 rfl
      have hcb := cell_of_row _ g 0 _ _ _ hbk
      have hfb := frozen_of_row _ g 0 _ _ hbk
      have HW8 := HW.setCell (off := 0) 2 (.slice (some ⟨gn1, 0, none⟩) (gs.length + 1) cn1) rfl
      simp only [List.set_cons_succ, List.set_cons_zero, List.setIfInBounds_toArray] at HW8
      refine wp_of_skip (R_store1 (ty := 33) (x := .tmp 25) (y := .tmp 23) (g := g) (j := 0) (v := .slice (some ⟨gn1, 0, none⟩) (gs.length + 1) cn1) rfl rfl rfl rfl rfl hcb hfb Tryz.sizeOf33) ?_
      clear HW
      have HW := HW8
      clear HW8 hbk hcb hfb hS
      try simp only [Act.put, List.getElem_toArray, List.getElem_cons_succ, List.getElem_cons_zero, List.setIfInBounds_toArray, List.set_cons_succ, List.set_cons_zero]
      refine wpAnyX_done (by kernel_rfl) ?_ _
      have HWd := HW.drop (L' := [_, _, _, _, _, _, _, _]) (List.Sublist.cons _ (List.Sublist.cons_cons _ (List.Sublist.cons_cons _ (List.Sublist.cons_cons _ (List.Sublist.cons_cons _ (List.Sublist.cons_cons _ (List.Sublist.cons_cons _ (List.Sublist.cons_cons _ (List.Sublist.cons_cons _ (List.nil_sublist _))))))))))
      clear H HW
      have H := SH.mergeB (L1 := [_, _, _, _, _, _]) HWd (by simp)
      clear HWd HX
      simp only [List.cons_append, List.nil_append] at H
      go_wp2_with fail
      have HX := H.drop (L' := [_]) (List.Sublist.cons_cons _ (List.nil_sublist _))
      refine D_startX 10 #[false, false, false, false, false, false, false, false, false, false, false] (by kernel_rfl) HX (by kernel_rfl) (fun hS => ?_)
      try simp only [Act.put, List.setIfInBounds_toArray, List.set_cons_succ, List.set_cons_zero]
      refine D_freeX 0 #[true, false, false, false, false, false, false, false, false, false, false] (by kernel_rfl) (v := ?_) rfl (by kernel_rfl) (by kernel_rfl) (by kernel_rfl) (by kernel_rfl) (fun _ _ _ h => h) rfl (by rfl) (fun W => ?_) hS ?_
      rotate_left; (focus (first | (go_simp; done) | (go_simp; with_reducible rfl) | (go_simp; rfl))); all_goals skip; (try simp only [List.set_cons_succ, List.set_cons_zero])
      refine D_freeX 1 #[true, true, false, false, false, false, false, false, false, false, false] (by kernel_rfl) (v := ?_) rfl (by kernel_rfl) (by kernel_rfl) (by kernel_rfl) (by kernel_rfl) (fun _ _ _ h => h) rfl (by rfl) (fun W => ?_) hS ?_
      rotate_left; (focus (first | (go_simp; done) | (go_simp; with_reducible rfl) | (go_simp; rfl))); all_goals skip; (try simp only [List.set_cons_succ, List.set_cons_zero])
      refine D_freeX 2 #[true, true, true, false, false, false, false, false, false, false, false] (by kernel_rfl) (v := ?_) rfl (by kernel_rfl) (by kernel_rfl) (by kernel_rfl) (by kernel_rfl) (fun _ _ _ h => h) rfl (by rfl) (fun W => ?_) hS ?_
      rotate_left; (focus (first | (go_simp; done) | (go_simp; with_reducible rfl) | (go_simp; rfl))); all_goals skip; (try simp only [List.set_cons_succ, List.set_cons_zero])
      refine D_freeX 3 #[true, true, true, true, false, false, false, false, false, false, false] (by kernel_rfl) (v := ?_) rfl (by kernel_rfl) (by kernel_rfl) (by kernel_rfl) (by kernel_rfl) (fun _ _ _ h => h) rfl (by rfl) (fun W => ?_) hS ?_
      rotate_left; (focus (first | (go_simp; done) | (go_simp; with_reducible rfl) | (go_simp; rfl))); all_goals skip; (try simp only [List.set_cons_succ, List.set_cons_zero])
      refine D_takeX 4 #[true, true, true, true, true, false, false, false, false, false, false] (by kernel_rfl) (v := ?_) rfl (by kernel_rfl) (by kernel_rfl) (by kernel_rfl) (by kernel_rfl) (by kernel_rfl) (fun _ _ _ h => h) rfl (by rfl) (fun W hS => ?_) hS ?_
      rotate_left; (focus (first | (refine R_load1 (ty := 33) (x := Operand.tmp 29) rfl hS 0 rfl rfl ?_ Tryz.isAgg33; rfl))); all_goals skip; (try simp only [List.set_cons_succ, List.set_cons_zero, List.getElem_toArray, List.getElem_cons_succ, List.getElem_cons_zero])
      refine D_oneX 5 #[true, true, true, true, true, true, false, false, false, false, false] (by kernel_rfl) rfl (by kernel_rfl) (by rfl) ?_
      have HW := H.drew
      refine W_bytes (n := 32) rfl HW Tryz.underlying22 infoU8 rfl rfl (by decide) (by simp [maxLen]) ?_
      intro g2 w' HW5
      clear HW
      have HW := HW5
      clear HW5
      clear hS
      have hS := HW.drop (L' := [_]) (List.Sublist.cons _ (List.Sublist.cons_cons _ (List.nil_sublist _)))
      refine ⟨hS, ?_⟩
      try simp only [Act.put, List.getElem_toArray, List.getElem_cons_succ, List.getElem_cons_zero, List.setIfInBounds_toArray, List.set_cons_succ, List.set_cons_zero]
      refine D_oneX 6 #[true, true, true, true, true, true, true, false, false, false, false] (by kernel_rfl) rfl (by kernel_rfl) (by rfl) ?_
      refine W_lit (e := 22) (cs := #[.slice (some ⟨g2, 0, none⟩) 32 32]) rfl HW (fun w => by first | (go_simp; done) | (go_simp; rfl)) ?_
      intro gl w' HW6
      clear HW
      have HW := HW6
      clear HW6
      clear hS
      have hS := HW.drop (L' := [_]) (List.Sublist.cons _ (List.Sublist.cons _ (List.Sublist.cons_cons _ (List.nil_sublist _))))
      refine ⟨hS, ?_⟩
      try simp only [Act.put, List.getElem_toArray, List.getElem_cons_succ, List.getElem_cons_zero, List.setIfInBounds_toArray, List.set_cons_succ, List.set_cons_zero]
      refine D_oneX 7 #[true, true, true, true, true, true, true, true, false, false, false] (by kernel_rfl) rfl (by kernel_rfl) (by rfl) ?_
      refine W_append encSl_len encSl_one (s := .tmp 30) (x := .tmp 32) (xv := .slice (some ⟨gl, 0, none⟩) 1 1) (ys := [(some ⟨g2, 0, none⟩, 32, 32)]) rfl Tryz.underlying33 infoS rfl (by decide) HW 4 rfl rfl rfl (RdS.one (HW.at_ 0 rfl) rfl) b2 m2 ?_
      intro vn w' HW7 hnn
      obtain ⟨gn2, cn2, rfl⟩ := own_form (HW7.get 4 rfl) (by simp)
      simp only [List.set_cons_succ, List.set_cons_zero] at HW7
      clear HW
      have HW := HW7
      clear HW7 hnn
      clear hS
      have hS := HW.drop (L' := [_]) (List.Sublist.cons _ (List.Sublist.cons _ (List.Sublist.cons_cons _ (List.nil_sublist _))))
      refine ⟨hS, ?_⟩
      try simp only [Act.put, List.getElem_toArray, List.getElem_cons_succ, List.getElem_cons_zero, List.setIfInBounds_toArray, List.set_cons_succ, List.set_cons_zero]
      refine D_freeX 8 #[true, true, true, true, true, true, true, true, true, false, false] (by kernel_rfl) (v := ?_) rfl (by kernel_rfl) (by kernel_rfl) (by kernel_rfl) (by kernel_rfl) (fun _ _ _ h => h) rfl (by rfl) (fun W => ?_) hS ?_
      rotate_left; (focus (first | (go_simp; done) | (go_simp; with_reducible rfl) | (go_simp; rfl))); all_goals skip; (try simp only [List.set_cons_succ, List.set_cons_zero])
      refine D_freeX 9 #[true, true, true, true, true, true, true, true, true, true, false] (by kernel_rfl) (v := ?_) rfl (by kernel_rfl) (by kernel_rfl) (by kernel_rfl) (by kernel_rfl) (fun _ _ _ h => h) rfl (by rfl) (fun W => ?_) hS ?_
      rotate_left; (focus (first | (go_simp; done) | (go_simp; with_reducible rfl) | (go_simp; rfl))); all_goals skip; (try simp only [List.set_cons_succ, List.set_cons_zero])
      refine D_pX #[true, true, true, true, true, true, true, true, true, true, true] (by kernel_rfl) rfl (by kernel_rfl) (by rfl) ?_
      have hbk := HW.at_ 2 rfl
      have hcb := cell_of_row _ g 1 _ _ _ hbk
      have hfb := frozen_of_row _ g 1 _ _ hbk
      have HW8 := HW.setCell (off := 1) 2 (.slice (some ⟨gn2, 0, none⟩) (ss.length + 1) cn2) rfl
      simp only [List.set_cons_succ, List.set_cons_zero, List.setIfInBounds_toArray] at HW8
      refine wp_of_skip (R_store1 (ty := 33) (x := .tmp 35) (y := .tmp 33) (g := g) (j := 1) (v := .slice (some ⟨gn2, 0, none⟩) (ss.length + 1) cn2) rfl rfl rfl rfl rfl hcb hfb Tryz.sizeOf33) ?_
      clear HW
      have HW := HW8
      clear HW8 hbk hcb hfb hS
      try simp only [Act.put, List.getElem_toArray, List.getElem_cons_succ, List.getElem_cons_zero, List.setIfInBounds_toArray, List.set_cons_succ, List.set_cons_zero]
      refine wpAnyX_done (by kernel_rfl) ?_ _
      have HWd := HW.drop (L' := [_, _, _, _, _, _, _, _]) (List.Sublist.cons _ (List.Sublist.cons_cons _ (List.Sublist.cons_cons _ (List.Sublist.cons_cons _ (List.Sublist.cons_cons _ (List.Sublist.cons_cons _ (List.Sublist.cons_cons _ (List.Sublist.cons_cons _ (List.Sublist.cons_cons _ (List.nil_sublist _))))))))))
      clear H HW
      have H := SH.mergeB (L1 := [_, _, _, _, _, _]) HWd (by simp)
      clear HWd HX
      simp only [List.cons_append, List.nil_append] at H
      go_wp2_with fail
      have HX := H.drop (L' := [_]) (List.Sublist.cons_cons _ (List.nil_sublist _))
      have HW := H.drew
      clear H
      refine D_startX 23 #[false, false, false, false, false, false, false, false, false, false, false, false, false, false, false, false, false, false, false, false, false, false, false, false, false, false, false, false, false, false] (by kernel_rfl) HX (by kernel_rfl) (fun hS => ?_)
      try simp only [Act.put, List.setIfInBounds_toArray, List.set_cons_succ, List.set_cons_zero]
      apply wp_tail9 (fun gn3 cn3 gn4 cn4 gn5 cn5 w' => SH (fun _ => False) wS w' [pt g (.cells #[.slice (some ⟨gn1, 0, none⟩) (gs.length + 1) cn1, .slice (some ⟨gn2, 0, none⟩) (ss.length + 1) cn2, v3, v4, v5, .int .i64 f, .int .i64 m] 48 (0, 0)), ownA 22 1 (.slice (some ⟨gn1, 0, none⟩) (gs.length + 1) cn1) (gs.length + 1) (gs ++ cellsOf encSl [(some ⟨g1, 0, none⟩, 32, 32)]), ownA 22 1 (.slice (some ⟨gn2, 0, none⟩) (ss.length + 1) cn2) (ss.length + 1) (ss ++ cellsOf encSl [(some ⟨g2, 0, none⟩, 32, 32)]), ownA 3 1 (.slice (some ⟨gn3, 0, none⟩) (age.length + 1) cn3) (age.length + 1) (age.map (Value.int .i64) ++ cellsOf (encInt .i64) [0]), ownA 3 1 (.slice (some ⟨gn4, 0, none⟩) (old.length + 1) cn4) (old.length + 1) (old.map (Value.int .i64) ++ cellsOf (encInt .i64) [0]), ownA 4 1 (.slice (some ⟨gn5, 0, none⟩) (wet.length + 1) cn5) (wet.length + 1) (wet.map Value.bool ++ cellsOf encBo [false]), bytesA ((.slice (some ⟨g2, 0, none⟩) 32 32, List.replicate 32 0) :: (.slice (some ⟨g1, 0, none⟩) 32 32, List.replicate 32 0) :: bv)])
      case h1 =>
        intro tail
        refine D_freeX 0 #[true, false, false, false, false, false, false, false, false, false, false, false, false, false, false, false, false, false, false, false, false, false, false, false, false, false, false, false, false, false] (by kernel_rfl) (v := ?_) rfl (by kernel_rfl) (by kernel_rfl) (by kernel_rfl) (by kernel_rfl) (fun _ _ _ h => h) rfl (by rfl) (fun W => ?_) hS ?_
        rotate_left; (focus (first | (go_simp; done) | (go_simp; with_reducible rfl) | (go_simp; rfl))); all_goals skip; (try simp only [List.set_cons_succ, List.set_cons_zero])
        refine D_freeX 1 #[true, true, false, false, false, false, false, false, false, false, false, false, false, false, false, false, false, false, false, false, false, false, false, false, false, false, false, false, false, false] (by kernel_rfl) (v := ?_) rfl (by kernel_rfl) (by kernel_rfl) (by kernel_rfl) (by kernel_rfl) (fun _ _ _ h => h) rfl (by rfl) (fun W => ?_) hS ?_
        rotate_left; (focus (first | (go_simp; done) | (go_simp; with_reducible rfl) | (go_simp; rfl))); all_goals skip; (try simp only [List.set_cons_succ, List.set_cons_zero])
        refine D_freeX 2 #[true, true, true, false, false, false, false, false, false, false, false, false, false, false, false, false, false, false, false, false, false, false, false, false, false, false, false, false, false, false] (by kernel_rfl) (v := ?_) rfl (by kernel_rfl) (by kernel_rfl) (by kernel_rfl) (by kernel_rfl) (fun _ _ _ h => h) rfl (by rfl) (fun W => ?_) hS ?_
        rotate_left; (focus (first | (go_simp; done) | (go_simp; with_reducible rfl) | (go_simp; rfl))); all_goals skip; (try simp only [List.set_cons_succ, List.set_cons_zero])
        refine D_freeX 3 #[true, true, true, true, false, false, false, false, false, false, false, false, false, false, false, false, false, false, false, false, false, false, false, false, false, false, false, false, false, false] (by kernel_rfl) (v := ?_) rfl (by kernel_rfl) (by kernel_rfl) (by kernel_rfl) (by kernel_rfl) (fun _ _ _ h => h) rfl (by rfl) (fun W => ?_) hS ?_
        rotate_left; (focus (first | (go_simp; done) | (go_simp; with_reducible rfl) | (go_simp; rfl))); all_goals skip; (try simp only [List.set_cons_succ, List.set_cons_zero])
        refine D_freeX 4 #[true, true, true, true, true, false, false, false, false, false, false, false, false, false, false, false, false, false, false, false, false, false, false, false, false, false, false, false, false, false] (by kernel_rfl) (v := ?_) rfl (by kernel_rfl) (by kernel_rfl) (by kernel_rfl) (by kernel_rfl) (fun _ _ _ h => h) rfl (by rfl) (fun W => ?_) hS ?_
        rotate_left; (focus (first | (go_simp; done) | (go_simp; with_reducible rfl) | (go_simp; rfl))); all_goals skip; (try simp only [List.set_cons_succ, List.set_cons_zero])
        refine D_freeX 5 #[true, true, true, true, true, true, false, false, false, false, false, false, false, false, false, false, false, false, false, false, false, false, false, false, false, false, false, false, false, false] (by kernel_rfl) (v := ?_) rfl (by kernel_rfl) (by kernel_rfl) (by kernel_rfl) (by kernel_rfl) (fun _ _ _ h => h) rfl (by rfl) (fun W => ?_) hS ?_
        rotate_left; (focus (first | (go_simp; done) | (go_simp; with_reducible rfl) | (go_simp; rfl))); all_goals skip; (try simp only [List.set_cons_succ, List.set_cons_zero])
        refine D_takeX 6 #[true, true, true, true, true, true, true, false, false, false, false, false, false, false, false, false, false, false, false, false, false, false, false, false, false, false, false, false, false, false] (by kernel_rfl) (v := ?_) rfl (by kernel_rfl) (by kernel_rfl) (by kernel_rfl) (by kernel_rfl) (by kernel_rfl) (fun _ _ _ h => h) rfl (by rfl) (fun W hS => ?_) hS ?_
        rotate_left; (focus (first | (refine R_load1 (ty := 45) (x := Operand.tmp 41) rfl hS 0 rfl rfl ?_ Tryz.isAgg45; rfl))); all_goals skip; (try simp only [List.set_cons_succ, List.set_cons_zero, List.getElem_toArray, List.getElem_cons_succ, List.getElem_cons_zero])
        refine D_freeX 9 #[true, true, true, true, true, true, true, false, false, true, false, false, false, false, false, false, false, false, false, false, false, false, false, false, false, false, false, false, false, false] (by kernel_rfl) (v := ?_) rfl (by kernel_rfl) (by kernel_rfl) (by kernel_rfl) (by kernel_rfl) (fun _ _ _ h => h) rfl (by rfl) (fun W => ?_) hS ?_
        rotate_left; (focus (first | (go_simp; done) | (go_simp; with_reducible rfl) | (go_simp; rfl))); all_goals skip; (try simp only [List.set_cons_succ, List.set_cons_zero])
        refine D_freeX 10 #[true, true, true, true, true, true, true, false, false, true, true, false, false, false, false, false, false, false, false, false, false, false, false, false, false, false, false, false, false, false] (by kernel_rfl) (v := ?_) rfl (by kernel_rfl) (by kernel_rfl) (by kernel_rfl) (by kernel_rfl) (fun _ _ _ h => h) rfl (by rfl) (fun W => ?_) hS ?_
        rotate_left; (focus (first | (go_simp; done) | (go_simp; with_reducible rfl) | (go_simp; rfl))); all_goals skip; (try simp only [List.set_cons_succ, List.set_cons_zero])
        refine D_freeX 11 #[true, true, true, true, true, true, true, false, false, true, true, true, false, false, false, false, false, false, false, false, false, false, false, false, false, false, false, false, false, false] (by kernel_rfl) (v := ?_) rfl (by kernel_rfl) (by kernel_rfl) (by kernel_rfl) (by kernel_rfl) (fun _ _ _ h => h) rfl (by rfl) (fun W => ?_) hS ?_
        rotate_left; (focus (first | (go_simp; done) | (go_simp; with_reducible rfl) | (go_simp; rfl))); all_goals skip; (try simp only [List.set_cons_succ, List.set_cons_zero])
        refine D_takeX 12 #[true, true, true, true, true, true, true, false, false, true, true, true, true, false, false, false, false, false, false, false, false, false, false, false, false, false, false, false, false, false] (by kernel_rfl) (v := ?_) rfl (by kernel_rfl) (by kernel_rfl) (by kernel_rfl) (by kernel_rfl) (by kernel_rfl) (fun _ _ _ h => h) rfl (by rfl) (fun W hS => ?_) hS ?_
        rotate_left; (focus (first | (refine R_load1 (ty := 45) (x := Operand.tmp 47) rfl hS 0 rfl rfl ?_ Tryz.isAgg45; rfl))); all_goals skip; (try simp only [List.set_cons_succ, List.set_cons_zero, List.getElem_toArray, List.getElem_cons_succ, List.getElem_cons_zero])
        refine D_freeX 15 #[true, true, true, true, true, true, true, false, false, true, true, true, true, false, false, true, false, false, false, false, false, false, false, false, false, false, false, false, false, false] (by kernel_rfl) (v := ?_) rfl (by kernel_rfl) (by kernel_rfl) (by kernel_rfl) (by kernel_rfl) (fun _ _ _ h => h) rfl (by rfl) (fun W => ?_) hS ?_
        rotate_left; (focus (first | (go_simp; done) | (go_simp; with_reducible rfl) | (go_simp; rfl))); all_goals skip; (try simp only [List.set_cons_succ, List.set_cons_zero])
        refine D_freeX 16 #[true, true, true, true, true, true, true, false, false, true, true, true, true, false, false, true, true, false, false, false, false, false, false, false, false, false, false, false, false, false] (by kernel_rfl) (v := ?_) rfl (by kernel_rfl) (by kernel_rfl) (by kernel_rfl) (by kernel_rfl) (fun _ _ _ h => h) rfl (by rfl) (fun W => ?_) hS ?_
        rotate_left; (focus (first | (go_simp; done) | (go_simp; with_reducible rfl) | (go_simp; rfl))); all_goals skip; (try simp only [List.set_cons_succ, List.set_cons_zero])
        refine D_freeX 17 #[true, true, true, true, true, true, true, false, false, true, true, true, true, false, false, true, true, true, false, false, false, false, false, false, false, false, false, false, false, false] (by kernel_rfl) (v := ?_) rfl (by kernel_rfl) (by kernel_rfl) (by kernel_rfl) (by kernel_rfl) (fun _ _ _ h => h) rfl (by rfl) (fun W => ?_) hS ?_
        rotate_left; (focus (first | (go_simp; done) | (go_simp; with_reducible rfl) | (go_simp; rfl))); all_goals skip; (try simp only [List.set_cons_succ, List.set_cons_zero])
        refine D_takeX 18 #[true, true, true, true, true, true, true, false, false, true, true, true, true, false, false, true, true, true, true, false, false, false, false, false, false, false, false, false, false, false] (by kernel_rfl) (v := ?_) rfl (by kernel_rfl) (by kernel_rfl) (by kernel_rfl) (by kernel_rfl) (by kernel_rfl) (fun _ _ _ h => h) rfl (by rfl) (fun W hS => ?_) hS ?_
        rotate_left; (focus (first | (refine R_load1 (ty := 46) (x := Operand.tmp 53) rfl hS 0 rfl rfl ?_ Tryz.isAgg46; rfl))); all_goals skip; (try simp only [List.set_cons_succ, List.set_cons_zero, List.getElem_toArray, List.getElem_cons_succ, List.getElem_cons_zero])
        refine D_threeX 7 13 19 #[true, true, true, true, true, true, true, true, false, true, true, true, true, false, false, true, true, true, true, false, false, false, false, false, false, false, false, false, false, false] #[true, true, true, true, true, true, true, false, false, true, true, true, true, true, false, true, true, true, true, false, false, false, false, false, false, false, false, false, false, false] #[true, true, true, true, true, true, true, false, false, true, true, true, true, false, false, true, true, true, true, true, false, false, false, false, false, false, false, false, false, false] (by kernel_rfl) (by kernel_rfl) (by kernel_rfl) rfl rfl rfl (by kernel_rfl) (by rfl) (by rfl) (by rfl) ?_ ?_ ?_
        ·
          refine W_lit (e := 3) (cs := #[.int .i64 0]) rfl HW (fun w => by first | (go_simp; done) | (go_simp; rfl)) ?_
          intro gl3 w' HW6
          have HW := HW6
          skip
          have hS := HW.drop (L' := [_]) (List.Sublist.cons _ (List.Sublist.cons_cons _ (List.nil_sublist _)))
          refine ⟨hS, ?_⟩
          try simp only [Act.put, List.getElem_toArray, List.getElem_cons_succ, List.getElem_cons_zero, List.setIfInBounds_toArray, List.set_cons_succ, List.set_cons_zero]
          refine D_threeX 8 13 19 #[true, true, true, true, true, true, true, true, true, true, true, true, true, false, false, true, true, true, true, false, false, false, false, false, false, false, false, false, false, false] #[true, true, true, true, true, true, true, true, false, true, true, true, true, true, false, true, true, true, true, false, false, false, false, false, false, false, false, false, false, false] #[true, true, true, true, true, true, true, true, false, true, true, true, true, false, false, true, true, true, true, true, false, false, false, false, false, false, false, false, false, false] (by kernel_rfl) (by kernel_rfl) (by kernel_rfl) rfl rfl rfl (by kernel_rfl) (by rfl) (by rfl) (by rfl) ?_ ?_ ?_
          ·
            refine W_append (encInt_len .i64) (encInt_one .i64) (s := .tmp 42) (x := .tmp 43) (xv := .slice (some ⟨gl3, 0, none⟩) 1 1) (ys := [(0 : Int)]) rfl Tryz.underlying45 infoI rfl (by decide) HW 4 rfl rfl rfl (RdS.one (HW.at_ 0 rfl) rfl) b3 m3 ?_
            intro vn w' HW7 hnn
            obtain ⟨gn3, cn3, rfl⟩ := own_form (HW7.get 4 rfl) (by simp)
            simp only [List.set_cons_succ, List.set_cons_zero] at HW7
            have HW := HW7
            have hS := HW.drop (L' := [_]) (List.Sublist.cons _ (List.Sublist.cons_cons _ (List.nil_sublist _)))
            refine ⟨hS, ?_⟩
            try simp only [Act.put, List.getElem_toArray, List.getElem_cons_succ, List.getElem_cons_zero, List.setIfInBounds_toArray, List.set_cons_succ, List.set_cons_zero]
            refine D_twoX 13 19 #[true, true, true, true, true, true, true, true, true, true, true, true, true, true, false, true, true, true, true, false, false, false, false, false, false, false, false, false, false, false] #[true, true, true, true, true, true, true, true, true, true, true, true, true, false, false, true, true, true, true, true, false, false, false, false, false, false, false, false, false, false] (by kernel_rfl) (by kernel_rfl) rfl rfl (by kernel_rfl) (by rfl) (by rfl) ?_ ?_
            ·
              refine W_lit (e := 3) (cs := #[.int .i64 0]) rfl HW (fun w => by first | (go_simp; done) | (go_simp; rfl)) ?_
              intro gl4 w' HW6
              have HW := HW6
              skip
              have hS := HW.drop (L' := [_]) (List.Sublist.cons _ (List.Sublist.cons _ (List.Sublist.cons_cons _ (List.nil_sublist _))))
              refine ⟨hS, ?_⟩
              try simp only [Act.put, List.getElem_toArray, List.getElem_cons_succ, List.getElem_cons_zero, List.setIfInBounds_toArray, List.set_cons_succ, List.set_cons_zero]
              refine D_twoX 14 19 #[true, true, true, true, true, true, true, true, true, true, true, true, true, true, true, true, true, true, true, false, false, false, false, false, false, false, false, false, false, false] #[true, true, true, true, true, true, true, true, true, true, true, true, true, true, false, true, true, true, true, true, false, false, false, false, false, false, false, false, false, false] (by kernel_rfl) (by kernel_rfl) rfl rfl (by kernel_rfl) (by rfl) (by rfl) ?_ ?_
              ·
                refine W_append (encInt_len .i64) (encInt_one .i64) (s := .tmp 48) (x := .tmp 49) (xv := .slice (some ⟨gl4, 0, none⟩) 1 1) (ys := [(0 : Int)]) rfl Tryz.underlying45 infoI rfl (by decide) HW 6 rfl rfl rfl (RdS.one (HW.at_ 0 rfl) rfl) b4 m4 ?_
                intro vn w' HW7 hnn
                obtain ⟨gn4, cn4, rfl⟩ := own_form (HW7.get 6 rfl) (by simp)
                simp only [List.set_cons_succ, List.set_cons_zero] at HW7
                have HW := HW7
                have hS := HW.drop (L' := [_]) (List.Sublist.cons _ (List.Sublist.cons _ (List.Sublist.cons_cons _ (List.nil_sublist _))))
                refine ⟨hS, ?_⟩
                try simp only [Act.put, List.getElem_toArray, List.getElem_cons_succ, List.getElem_cons_zero, List.setIfInBounds_toArray, List.set_cons_succ, List.set_cons_zero]
                refine D_oneX 19 #[true, true, true, true, true, true, true, true, true, true, true, true, true, true, true, true, true, true, true, true, false, false, false, false, false, false, false, false, false, false] (by kernel_rfl) rfl (by kernel_rfl) (by rfl) ?_
                refine W_lit (e := 4) (cs := #[.bool false]) rfl HW (fun w => by first | (go_simp; done) | (go_simp; rfl)) ?_
                intro gl5 w' HW6
                have HW := HW6
                skip
                have hS := HW.drop (L' := [_]) (List.Sublist.cons _ (List.Sublist.cons _ (List.Sublist.cons _ (List.Sublist.cons_cons _ (List.nil_sublist _)))))
                refine ⟨hS, ?_⟩
                try simp only [Act.put, List.getElem_toArray, List.getElem_cons_succ, List.getElem_cons_zero, List.setIfInBounds_toArray, List.set_cons_succ, List.set_cons_zero]
                refine D_oneX 20 #[true, true, true, true, true, true, true, true, true, true, true, true, true, true, true, true, true, true, true, true, true, false, false, false, false, false, false, false, false, false] (by kernel_rfl) rfl (by kernel_rfl) (by rfl) ?_
                refine W_append encBo_len encBo_one (s := .tmp 54) (x := .tmp 55) (xv := .slice (some ⟨gl5, 0, none⟩) 1 1) (ys := [false]) rfl Tryz.underlying46 infoB rfl (by decide) HW 8 rfl rfl rfl (RdS.one (HW.at_ 0 rfl) rfl) b5 m5 ?_
                intro vn w' HW7 hnn
                obtain ⟨gn5, cn5, rfl⟩ := own_form (HW7.get 8 rfl) (by simp)
                simp only [List.set_cons_succ, List.set_cons_zero] at HW7
                have HW := HW7
                have hS := HW.drop (L' := [_]) (List.Sublist.cons _ (List.Sublist.cons _ (List.Sublist.cons _ (List.Sublist.cons_cons _ (List.nil_sublist _)))))
                refine ⟨hS, ?_⟩
                try simp only [Act.put, List.getElem_toArray, List.getElem_cons_succ, List.getElem_cons_zero, List.setIfInBounds_toArray, List.set_cons_succ, List.set_cons_zero]
                exact tail.out gl3 gl4 gl5 gn3 cn3 gn4 cn4 gn5 cn5 _ (HW.drop (L' := [_, _, _, _, _, _, _]) (List.Sublist.cons _ (List.Sublist.cons _ (List.Sublist.cons _ (List.Sublist.cons_cons _ (List.Sublist.cons_cons _ (List.Sublist.cons_cons _ (List.Sublist.cons_cons _ (List.Sublist.cons_cons _ (List.Sublist.cons_cons _ (List.Sublist.cons_cons _ (List.nil_sublist _))))))))))))
              ·
                refine W_lit (e := 4) (cs := #[.bool false]) rfl HW (fun w => by first | (go_simp; done) | (go_simp; rfl)) ?_
                intro gl5 w' HW6
                have HW := HW6
                skip
                have hS := HW.drop (L' := [_]) (List.Sublist.cons _ (List.Sublist.cons _ (List.Sublist.cons _ (List.Sublist.cons_cons _ (List.nil_sublist _)))))
                refine ⟨hS, ?_⟩
                try simp only [Act.put, List.getElem_toArray, List.getElem_cons_succ, List.getElem_cons_zero, List.setIfInBounds_toArray, List.set_cons_succ, List.set_cons_zero]
                refine D_oneX 14 #[true, true, true, true, true, true, true, true, true, true, true, true, true, true, true, true, true, true, true, true, false, false, false, false, false, false, false, false, false, false] (by kernel_rfl) rfl (by kernel_rfl) (by rfl) ?_
                refine W_append (encInt_len .i64) (encInt_one .i64) (s := .tmp 48) (x := .tmp 49) (xv := .slice (some ⟨gl4, 0, none⟩) 1 1) (ys := [(0 : Int)]) rfl Tryz.underlying45 infoI rfl (by decide) HW 7 rfl rfl rfl (RdS.one (HW.at_ 1 rfl) rfl) b4 m4 ?_
                intro vn w' HW7 hnn
                obtain ⟨gn4, cn4, rfl⟩ := own_form (HW7.get 7 rfl) (by simp)
                simp only [List.set_cons_succ, List.set_cons_zero] at HW7
                have HW := HW7
                have hS := HW.drop (L' := [_]) (List.Sublist.cons _ (List.Sublist.cons _ (List.Sublist.cons _ (List.Sublist.cons_cons _ (List.nil_sublist _)))))
                refine ⟨hS, ?_⟩
                try simp only [Act.put, List.getElem_toArray, List.getElem_cons_succ, List.getElem_cons_zero, List.setIfInBounds_toArray, List.set_cons_succ, List.set_cons_zero]
                refine D_oneX 20 #[true, true, true, true, true, true, true, true, true, true, true, true, true, true, true, true, true, true, true, true, true, false, false, false, false, false, false, false, false, false] (by kernel_rfl) rfl (by kernel_rfl) (by rfl) ?_
                refine W_append encBo_len encBo_one (s := .tmp 54) (x := .tmp 55) (xv := .slice (some ⟨gl5, 0, none⟩) 1 1) (ys := [false]) rfl Tryz.underlying46 infoB rfl (by decide) HW 8 rfl rfl rfl (RdS.one (HW.at_ 0 rfl) rfl) b5 m5 ?_
                intro vn w' HW7 hnn
                obtain ⟨gn5, cn5, rfl⟩ := own_form (HW7.get 8 rfl) (by simp)
                simp only [List.set_cons_succ, List.set_cons_zero] at HW7
                have HW := HW7
                have hS := HW.drop (L' := [_]) (List.Sublist.cons _ (List.Sublist.cons _ (List.Sublist.cons _ (List.Sublist.cons_cons _ (List.nil_sublist _)))))
                refine ⟨hS, ?_⟩
                try simp only [Act.put, List.getElem_toArray, List.getElem_cons_succ, List.getElem_cons_zero, List.setIfInBounds_toArray, List.set_cons_succ, List.set_cons_zero]
                exact tail.out gl3 gl4 gl5 gn3 cn3 gn4 cn4 gn5 cn5 _ (HW.drop (L' := [_, _, _, _, _, _, _]) (List.Sublist.cons _ (List.Sublist.cons _ (List.Sublist.cons _ (List.Sublist.cons_cons _ (List.Sublist.cons_cons _ (List.Sublist.cons_cons _ (List.Sublist.cons_cons _ (List.Sublist.cons_cons _ (List.Sublist.cons_cons _ (List.Sublist.cons_cons _ (List.nil_sublist _))))))))))))
            ·
              refine W_lit (e := 4) (cs := #[.bool false]) rfl HW (fun w => by first | (go_simp; done) | (go_simp; rfl)) ?_
              intro gl5 w' HW6
              have HW := HW6
              skip
              have hS := HW.drop (L' := [_]) (List.Sublist.cons _ (List.Sublist.cons _ (List.Sublist.cons_cons _ (List.nil_sublist _))))
              refine ⟨hS, ?_⟩
              try simp only [Act.put, List.getElem_toArray, List.getElem_cons_succ, List.getElem_cons_zero, List.setIfInBounds_toArray, List.set_cons_succ, List.set_cons_zero]
              refine D_oneX 13 #[true, true, true, true, true, true, true, true, true, true, true, true, true, true, false, true, true, true, true, true, false, false, false, false, false, false, false, false, false, false] (by kernel_rfl) rfl (by kernel_rfl) (by rfl) ?_
              refine W_lit (e := 3) (cs := #[.int .i64 0]) rfl HW (fun w => by first | (go_simp; done) | (go_simp; rfl)) ?_
              intro gl4 w' HW6
              have HW := HW6
              skip
              have hS := HW.drop (L' := [_]) (List.Sublist.cons _ (List.Sublist.cons _ (List.Sublist.cons _ (List.Sublist.cons_cons _ (List.nil_sublist _)))))
              refine ⟨hS, ?_⟩
              try simp only [Act.put, List.getElem_toArray, List.getElem_cons_succ, List.getElem_cons_zero, List.setIfInBounds_toArray, List.set_cons_succ, List.set_cons_zero]
              refine D_oneX 14 #[true, true, true, true, true, true, true, true, true, true, true, true, true, true, true, true, true, true, true, true, false, false, false, false, false, false, false, false, false, false] (by kernel_rfl) rfl (by kernel_rfl) (by rfl) ?_
              refine W_append (encInt_len .i64) (encInt_one .i64) (s := .tmp 48) (x := .tmp 49) (xv := .slice (some ⟨gl4, 0, none⟩) 1 1) (ys := [(0 : Int)]) rfl Tryz.underlying45 infoI rfl (by decide) HW 7 rfl rfl rfl (RdS.one (HW.at_ 0 rfl) rfl) b4 m4 ?_
              intro vn w' HW7 hnn
              obtain ⟨gn4, cn4, rfl⟩ := own_form (HW7.get 7 rfl) (by simp)
              simp only [List.set_cons_succ, List.set_cons_zero] at HW7
              have HW := HW7
              have hS := HW.drop (L' := [_]) (List.Sublist.cons _ (List.Sublist.cons _ (List.Sublist.cons _ (List.Sublist.cons_cons _ (List.nil_sublist _)))))
              refine ⟨hS, ?_⟩
              try simp only [Act.put, List.getElem_toArray, List.getElem_cons_succ, List.getElem_cons_zero, List.setIfInBounds_toArray, List.set_cons_succ, List.set_cons_zero]
              refine D_oneX 20 #[true, true, true, true, true, true, true, true, true, true, true, true, true, true, true, true, true, true, true, true, true, false, false, false, false, false, false, false, false, false] (by kernel_rfl) rfl (by kernel_rfl) (by rfl) ?_
              refine W_append encBo_len encBo_one (s := .tmp 54) (x := .tmp 55) (xv := .slice (some ⟨gl5, 0, none⟩) 1 1) (ys := [false]) rfl Tryz.underlying46 infoB rfl (by decide) HW 8 rfl rfl rfl (RdS.one (HW.at_ 1 rfl) rfl) b5 m5 ?_
              intro vn w' HW7 hnn
              obtain ⟨gn5, cn5, rfl⟩ := own_form (HW7.get 8 rfl) (by simp)
              simp only [List.set_cons_succ, List.set_cons_zero] at HW7
              have HW := HW7
              have hS := HW.drop (L' := [_]) (List.Sublist.cons _ (List.Sublist.cons _ (List.Sublist.cons _ (List.Sublist.cons_cons _ (List.nil_sublist _)))))
              refine ⟨hS, ?_⟩
              try simp only [Act.put, List.getElem_toArray, List.getElem_cons_succ, List.getElem_cons_zero, List.setIfInBounds_toArray, List.set_cons_succ, List.set_cons_zero]
              exact tail.out gl3 gl4 gl5 gn3 cn3 gn4 cn4 gn5 cn5 _ (HW.drop (L' := [_, _, _, _, _, _, _]) (List.Sublist.cons _ (List.Sublist.cons _ (List.Sublist.cons _ (List.Sublist.cons_cons _ (List.Sublist.cons_cons _ (List.Sublist.cons_cons _ (List.Sublist.cons_cons _ (List.Sublist.cons_cons _ (List.Sublist.cons_cons _ (List.Sublist.cons_cons _ (List.nil_sublist _))))))))))))
          ·
            refine W_lit (e := 3) (cs := #[.int .i64 0]) rfl HW (fun w => by first | (go_simp; done) | (go_simp; rfl)) ?_
            intro gl4 w' HW6
            have HW := HW6
            skip
            have hS := HW.drop (L' := [_]) (List.Sublist.cons _ (List.Sublist.cons _ (List.Sublist.cons_cons _ (List.nil_sublist _))))
            refine ⟨hS, ?_⟩
            try simp only [Act.put, List.getElem_toArray, List.getElem_cons_succ, List.getElem_cons_zero, List.setIfInBounds_toArray, List.set_cons_succ, List.set_cons_zero]
            refine D_twoX 8 19 #[true, true, true, true, true, true, true, true, true, true, true, true, true, true, false, true, true, true, true, false, false, false, false, false, false, false, false, false, false, false] #[true, true, true, true, true, true, true, true, false, true, true, true, true, true, false, true, true, true, true, true, false, false, false, false, false, false, false, false, false, false] (by kernel_rfl) (by kernel_rfl) rfl rfl (by kernel_rfl) (by rfl) (by rfl) ?_ ?_
            ·
              refine W_append (encInt_len .i64) (encInt_one .i64) (s := .tmp 42) (x := .tmp 43) (xv := .slice (some ⟨gl3, 0, none⟩) 1 1) (ys := [(0 : Int)]) rfl Tryz.underlying45 infoI rfl (by decide) HW 5 rfl rfl rfl (RdS.one (HW.at_ 1 rfl) rfl) b3 m3 ?_
              intro vn w' HW7 hnn
              obtain ⟨gn3, cn3, rfl⟩ := own_form (HW7.get 5 rfl) (by simp)
              simp only [List.set_cons_succ, List.set_cons_zero] at HW7
              have HW := HW7
              have hS := HW.drop (L' := [_]) (List.Sublist.cons _ (List.Sublist.cons _ (List.Sublist.cons_cons _ (List.nil_sublist _))))
              refine ⟨hS, ?_⟩
              try simp only [Act.put, List.getElem_toArray, List.getElem_cons_succ, List.getElem_cons_zero, List.setIfInBounds_toArray, List.set_cons_succ, List.set_cons_zero]
              refine D_twoX 14 19 #[true, true, true, true, true, true, true, true, true, true, true, true, true, true, true, true, true, true, true, false, false, false, false, false, false, false, false, false, false, false] #[true, true, true, true, true, true, true, true, true, true, true, true, true, true, false, true, true, true, true, true, false, false, false, false, false, false, false, false, false, false] (by kernel_rfl) (by kernel_rfl) rfl rfl (by kernel_rfl) (by rfl) (by rfl) ?_ ?_
              ·
                refine W_append (encInt_len .i64) (encInt_one .i64) (s := .tmp 48) (x := .tmp 49) (xv := .slice (some ⟨gl4, 0, none⟩) 1 1) (ys := [(0 : Int)]) rfl Tryz.underlying45 infoI rfl (by decide) HW 6 rfl rfl rfl (RdS.one (HW.at_ 0 rfl) rfl) b4 m4 ?_
                intro vn w' HW7 hnn
                obtain ⟨gn4, cn4, rfl⟩ := own_form (HW7.get 6 rfl) (by simp)
                simp only [List.set_cons_succ, List.set_cons_zero] at HW7
                have HW := HW7
                have hS := HW.drop (L' := [_]) (List.Sublist.cons _ (List.Sublist.cons _ (List.Sublist.cons_cons _ (List.nil_sublist _))))
                refine ⟨hS, ?_⟩
                try simp only [Act.put, List.getElem_toArray, List.getElem_cons_succ, List.getElem_cons_zero, List.setIfInBounds_toArray, List.set_cons_succ, List.set_cons_zero]
                refine D_oneX 19 #[true, true, true, true, true, true, true, true, true, true, true, true, true, true, true, true, true, true, true, true, false, false, false, false, false, false, false, false, false, false] (by kernel_rfl) rfl (by kernel_rfl) (by rfl) ?_
                refine W_lit (e := 4) (cs := #[.bool false]) rfl HW (fun w => by first | (go_simp; done) | (go_simp; rfl)) ?_
                intro gl5 w' HW6
                have HW := HW6
                skip
                have hS := HW.drop (L' := [_]) (List.Sublist.cons _ (List.Sublist.cons _ (List.Sublist.cons _ (List.Sublist.cons_cons _ (List.nil_sublist _)))))
                refine ⟨hS, ?_⟩
                try simp only [Act.put, List.getElem_toArray, List.getElem_cons_succ, List.getElem_cons_zero, List.setIfInBounds_toArray, List.set_cons_succ, List.set_cons_zero]
                refine D_oneX 20 #[true, true, true, true, true, true, true, true, true, true, true, true, true, true, true, true, true, true, true, true, true, false, false, false, false, false, false, false, false, false] (by kernel_rfl) rfl (by kernel_rfl) (by rfl) ?_
                refine W_append encBo_len encBo_one (s := .tmp 54) (x := .tmp 55) (xv := .slice (some ⟨gl5, 0, none⟩) 1 1) (ys := [false]) rfl Tryz.underlying46 infoB rfl (by decide) HW 8 rfl rfl rfl (RdS.one (HW.at_ 0 rfl) rfl) b5 m5 ?_
                intro vn w' HW7 hnn
                obtain ⟨gn5, cn5, rfl⟩ := own_form (HW7.get 8 rfl) (by simp)
                simp only [List.set_cons_succ, List.set_cons_zero] at HW7
                have HW := HW7
                have hS := HW.drop (L' := [_]) (List.Sublist.cons _ (List.Sublist.cons _ (List.Sublist.cons _ (List.Sublist.cons_cons _ (List.nil_sublist _)))))
                refine ⟨hS, ?_⟩
                try simp only [Act.put, List.getElem_toArray, List.getElem_cons_succ, List.getElem_cons_zero, List.setIfInBounds_toArray, List.set_cons_succ, List.set_cons_zero]
                exact tail.out gl3 gl4 gl5 gn3 cn3 gn4 cn4 gn5 cn5 _ (HW.drop (L' := [_, _, _, _, _, _, _]) (List.Sublist.cons _ (List.Sublist.cons _ (List.Sublist.cons _ (List.Sublist.cons_cons _ (List.Sublist.cons_cons _ (List.Sublist.cons_cons _ (List.Sublist.cons_cons _ (List.Sublist.cons_cons _ (List.Sublist.cons_cons _ (List.Sublist.cons_cons _ (List.nil_sublist _))))))))))))
              ·
                refine W_lit (e := 4) (cs := #[.bool false]) rfl HW (fun w => by first | (go_simp; done) | (go_simp; rfl)) ?_
                intro gl5 w' HW6
                have HW := HW6
                skip
                have hS := HW.drop (L' := [_]) (List.Sublist.cons _ (List.Sublist.cons _ (List.Sublist.cons _ (List.Sublist.cons_cons _ (List.nil_sublist _)))))
                refine ⟨hS, ?_⟩
                try simp only [Act.put, List.getElem_toArray, List.getElem_cons_succ, List.getElem_cons_zero, List.setIfInBounds_toArray, List.set_cons_succ, List.set_cons_zero]
                refine D_oneX 14 #[true, true, true, true, true, true, true, true, true, true, true, true, true, true, true, true, true, true, true, true, false, false, false, false, false, false, false, false, false, false] (by kernel_rfl) rfl (by kernel_rfl) (by rfl) ?_
                refine W_append (encInt_len .i64) (encInt_one .i64) (s := .tmp 48) (x := .tmp 49) (xv := .slice (some ⟨gl4, 0, none⟩) 1 1) (ys := [(0 : Int)]) rfl Tryz.underlying45 infoI rfl (by decide) HW 7 rfl rfl rfl (RdS.one (HW.at_ 1 rfl) rfl) b4 m4 ?_
                intro vn w' HW7 hnn
                obtain ⟨gn4, cn4, rfl⟩ := own_form (HW7.get 7 rfl) (by simp)
                simp only [List.set_cons_succ, List.set_cons_zero] at HW7
                have HW := HW7
                have hS := HW.drop (L' := [_]) (List.Sublist.cons _ (List.Sublist.cons _ (List.Sublist.cons _ (List.Sublist.cons_cons _ (List.nil_sublist _)))))
                refine ⟨hS, ?_⟩
                try simp only [Act.put, List.getElem_toArray, List.getElem_cons_succ, List.getElem_cons_zero, List.setIfInBounds_toArray, List.set_cons_succ, List.set_cons_zero]
                refine D_oneX 20 #[true, true, true, true, true, true, true, true, true, true, true, true, true, true, true, true, true, true, true, true, true, false, false, false, false, false, false, false, false, false] (by kernel_rfl) rfl (by kernel_rfl) (by rfl) ?_
                refine W_append encBo_len encBo_one (s := .tmp 54) (x := .tmp 55) (xv := .slice (some ⟨gl5, 0, none⟩) 1 1) (ys := [false]) rfl Tryz.underlying46 infoB rfl (by decide) HW 8 rfl rfl rfl (RdS.one (HW.at_ 0 rfl) rfl) b5 m5 ?_
                intro vn w' HW7 hnn
                obtain ⟨gn5, cn5, rfl⟩ := own_form (HW7.get 8 rfl) (by simp)
                simp only [List.set_cons_succ, List.set_cons_zero] at HW7
                have HW := HW7
                have hS := HW.drop (L' := [_]) (List.Sublist.cons _ (List.Sublist.cons _ (List.Sublist.cons _ (List.Sublist.cons_cons _ (List.nil_sublist _)))))
                refine ⟨hS, ?_⟩
                try simp only [Act.put, List.getElem_toArray, List.getElem_cons_succ, List.getElem_cons_zero, List.setIfInBounds_toArray, List.set_cons_succ, List.set_cons_zero]
                exact tail.out gl3 gl4 gl5 gn3 cn3 gn4 cn4 gn5 cn5 _ (HW.drop (L' := [_, _, _, _, _, _, _]) (List.Sublist.cons _ (List.Sublist.cons _ (List.Sublist.cons _ (List.Sublist.cons_cons _ (List.Sublist.cons_cons _ (List.Sublist.cons_cons _ (List.Sublist.cons_cons _ (List.Sublist.cons_cons _ (List.Sublist.cons_cons _ (List.Sublist.cons_cons _ (List.nil_sublist _))))))))))))
            ·
              refine W_lit (e := 4) (cs := #[.bool false]) rfl HW (fun w => by first | (go_simp; done) | (go_simp; rfl)) ?_
              intro gl5 w' HW6
              have HW := HW6
              skip
              have hS := HW.drop (L' := [_]) (List.Sublist.cons _ (List.Sublist.cons _ (List.Sublist.cons _ (List.Sublist.cons_cons _ (List.nil_sublist _)))))
              refine ⟨hS, ?_⟩
              try simp only [Act.put, List.getElem_toArray, List.getElem_cons_succ, List.getElem_cons_zero, List.setIfInBounds_toArray, List.set_cons_succ, List.set_cons_zero]
              refine D_oneX 8 #[true, true, true, true, true, true, true, true, true, true, true, true, true, true, false, true, true, true, true, true, false, false, false, false, false, false, false, false, false, false] (by kernel_rfl) rfl (by kernel_rfl) (by rfl) ?_
              refine W_append (encInt_len .i64) (encInt_one .i64) (s := .tmp 42) (x := .tmp 43) (xv := .slice (some ⟨gl3, 0, none⟩) 1 1) (ys := [(0 : Int)]) rfl Tryz.underlying45 infoI rfl (by decide) HW 6 rfl rfl rfl (RdS.one (HW.at_ 2 rfl) rfl) b3 m3 ?_
              intro vn w' HW7 hnn
              obtain ⟨gn3, cn3, rfl⟩ := own_form (HW7.get 6 rfl) (by simp)
              simp only [List.set_cons_succ, List.set_cons_zero] at HW7
              have HW := HW7
              have hS := HW.drop (L' := [_]) (List.Sublist.cons _ (List.Sublist.cons _ (List.Sublist.cons _ (List.Sublist.cons_cons _ (List.nil_sublist _)))))
              refine ⟨hS, ?_⟩
              try simp only [Act.put, List.getElem_toArray, List.getElem_cons_succ, List.getElem_cons_zero, List.setIfInBounds_toArray, List.set_cons_succ, List.set_cons_zero]
              refine D_oneX 14 #[true, true, true, true, true, true, true, true, true, true, true, true, true, true, true, true, true, true, true, true, false, false, false, false, false, false, false, false, false, false] (by kernel_rfl) rfl (by kernel_rfl) (by rfl) ?_
              refine W_append (encInt_len .i64) (encInt_one .i64) (s := .tmp 48) (x := .tmp 49) (xv := .slice (some ⟨gl4, 0, none⟩) 1 1) (ys := [(0 : Int)]) rfl Tryz.underlying45 infoI rfl (by decide) HW 7 rfl rfl rfl (RdS.one (HW.at_ 1 rfl) rfl) b4 m4 ?_
              intro vn w' HW7 hnn
              obtain ⟨gn4, cn4, rfl⟩ := own_form (HW7.get 7 rfl) (by simp)
              simp only [List.set_cons_succ, List.set_cons_zero] at HW7
              have HW := HW7
              have hS := HW.drop (L' := [_]) (List.Sublist.cons _ (List.Sublist.cons _ (List.Sublist.cons _ (List.Sublist.cons_cons _ (List.nil_sublist _)))))
              refine ⟨hS, ?_⟩
              try simp only [Act.put, List.getElem_toArray, List.getElem_cons_succ, List.getElem_cons_zero, List.setIfInBounds_toArray, List.set_cons_succ, List.set_cons_zero]
              refine D_oneX 20 #[true, true, true, true, true, true, true, true, true, true, true, true, true, true, true, true, true, true, true, true, true, false, false, false, false, false, false, false, false, false] (by kernel_rfl) rfl (by kernel_rfl) (by rfl) ?_
              refine W_append encBo_len encBo_one (s := .tmp 54) (x := .tmp 55) (xv := .slice (some ⟨gl5, 0, none⟩) 1 1) (ys := [false]) rfl Tryz.underlying46 infoB rfl (by decide) HW 8 rfl rfl rfl (RdS.one (HW.at_ 0 rfl) rfl) b5 m5 ?_
              intro vn w' HW7 hnn
              obtain ⟨gn5, cn5, rfl⟩ := own_form (HW7.get 8 rfl) (by simp)
              simp only [List.set_cons_succ, List.set_cons_zero] at HW7
              have HW := HW7
              have hS := HW.drop (L' := [_]) (List.Sublist.cons _ (List.Sublist.cons _ (List.Sublist.cons _ (List.Sublist.cons_cons _ (List.nil_sublist _)))))
              refine ⟨hS, ?_⟩
              try simp only [Act.put, List.getElem_toArray, List.getElem_cons_succ, List.getElem_cons_zero, List.setIfInBounds_toArray, List.set_cons_succ, List.set_cons_zero]
              exact tail.out gl3 gl4 gl5 gn3 cn3 gn4 cn4 gn5 cn5 _ (HW.drop (L' := [_, _, _, _, _, _, _]) (List.Sublist.cons _ (List.Sublist.cons _ (List.Sublist.cons _ (List.Sublist.cons_cons _ (List.Sublist.cons_cons _ (List.Sublist.cons_cons _ (List.Sublist.cons_cons _ (List.Sublist.cons_cons _ (List.Sublist.cons_cons _ (List.Sublist.cons_cons _ (List.nil_sublist _))))))))))))
          ·
            refine W_lit (e := 4) (cs := #[.bool false]) rfl HW (fun w => by first | (go_simp; done) | (go_simp; rfl)) ?_
            intro gl5 w' HW6
            have HW := HW6
            skip
            have hS := HW.drop (L' := [_]) (List.Sublist.cons _ (List.Sublist.cons _ (List.Sublist.cons_cons _ (List.nil_sublist _))))
            refine ⟨hS, ?_⟩
            try simp only [Act.put, List.getElem_toArray, List.getElem_cons_succ, List.getElem_cons_zero, List.setIfInBounds_toArray, List.set_cons_succ, List.set_cons_zero]
            refine D_twoX 8 13 #[true, true, true, true, true, true, true, true, true, true, true, true, true, false, false, true, true, true, true, true, false, false, false, false, false, false, false, false, false, false] #[true, true, true, true, true, true, true, true, false, true, true, true, true, true, false, true, true, true, true, true, false, false, false, false, false, false, false, false, false, false] (by kernel_rfl) (by kernel_rfl) rfl rfl (by kernel_rfl) (by rfl) (by rfl) ?_ ?_
            ·
              refine W_append (encInt_len .i64) (encInt_one .i64) (s := .tmp 42) (x := .tmp 43) (xv := .slice (some ⟨gl3, 0, none⟩) 1 1) (ys := [(0 : Int)]) rfl Tryz.underlying45 infoI rfl (by decide) HW 5 rfl rfl rfl (RdS.one (HW.at_ 1 rfl) rfl) b3 m3 ?_
              intro vn w' HW7 hnn
              obtain ⟨gn3, cn3, rfl⟩ := own_form (HW7.get 5 rfl) (by simp)
              simp only [List.set_cons_succ, List.set_cons_zero] at HW7
              have HW := HW7
              have hS := HW.drop (L' := [_]) (List.Sublist.cons _ (List.Sublist.cons _ (List.Sublist.cons_cons _ (List.nil_sublist _))))
              refine ⟨hS, ?_⟩
              try simp only [Act.put, List.getElem_toArray, List.getElem_cons_succ, List.getElem_cons_zero, List.setIfInBounds_toArray, List.set_cons_succ, List.set_cons_zero]
              refine D_oneX 13 #[true, true, true, true, true, true, true, true, true, true, true, true, true, true, false, true, true, true, true, true, false, false, false, false, false, false, false, false, false, false] (by kernel_rfl) rfl (by kernel_rfl) (by rfl) ?_
              refine W_lit (e := 3) (cs := #[.int .i64 0]) rfl HW (fun w => by first | (go_simp; done) | (go_simp; rfl)) ?_
              intro gl4 w' HW6
              have HW := HW6
              skip
              have hS := HW.drop (L' := [_]) (List.Sublist.cons _ (List.Sublist.cons _ (List.Sublist.cons _ (List.Sublist.cons_cons _ (List.nil_sublist _)))))
              refine ⟨hS, ?_⟩
              try simp only [Act.put, List.getElem_toArray, List.getElem_cons_succ, List.getElem_cons_zero, List.setIfInBounds_toArray, List.set_cons_succ, List.set_cons_zero]
              refine D_oneX 14 #[true, true, true, true, true, true, true, true, true, true, true, true, true, true, true, true, true, true, true, true, false, false, false, false, false, false, false, false, false, false] (by kernel_rfl) rfl (by kernel_rfl) (by rfl) ?_
              refine W_append (encInt_len .i64) (encInt_one .i64) (s := .tmp 48) (x := .tmp 49) (xv := .slice (some ⟨gl4, 0, none⟩) 1 1) (ys := [(0 : Int)]) rfl Tryz.underlying45 infoI rfl (by decide) HW 7 rfl rfl rfl (RdS.one (HW.at_ 0 rfl) rfl) b4 m4 ?_
              intro vn w' HW7 hnn
              obtain ⟨gn4, cn4, rfl⟩ := own_form (HW7.get 7 rfl) (by simp)
              simp only [List.set_cons_succ, List.set_cons_zero] at HW7
              have HW := HW7
              have hS := HW.drop (L' := [_]) (List.Sublist.cons _ (List.Sublist.cons _ (List.Sublist.cons _ (List.Sublist.cons_cons _ (List.nil_sublist _)))))
              refine ⟨hS, ?_⟩
              try simp only [Act.put, List.getElem_toArray, List.getElem_cons_succ, List.getElem_cons_zero, List.setIfInBounds_toArray, List.set_cons_succ, List.set_cons_zero]
              refine D_oneX 20 #[true, true, true, true, true, true, true, true, true, true, true, true, true, true, true, true, true, true, true, true, true, false, false, false, false, false, false, false, false, false] (by kernel_rfl) rfl (by kernel_rfl) (by rfl) ?_
              refine W_append encBo_len encBo_one (s := .tmp 54) (x := .tmp 55) (xv := .slice (some ⟨gl5, 0, none⟩) 1 1) (ys := [false]) rfl Tryz.underlying46 infoB rfl (by decide) HW 8 rfl rfl rfl (RdS.one (HW.at_ 1 rfl) rfl) b5 m5 ?_
              intro vn w' HW7 hnn
              obtain ⟨gn5, cn5, rfl⟩ := own_form (HW7.get 8 rfl) (by simp)
              simp only [List.set_cons_succ, List.set_cons_zero] at HW7
              have HW := HW7
              have hS := HW.drop (L' := [_]) (List.Sublist.cons _ (List.Sublist.cons _ (List.Sublist.cons _ (List.Sublist.cons_cons _ (List.nil_sublist _)))))
              refine ⟨hS, ?_⟩
              try simp only [Act.put, List.getElem_toArray, List.getElem_cons_succ, List.getElem_cons_zero, List.setIfInBounds_toArray, List.set_cons_succ, List.set_cons_zero]
              exact tail.out gl3 gl4 gl5 gn3 cn3 gn4 cn4 gn5 cn5 _ (HW.drop (L' := [_, _, _, _, _, _, _]) (List.Sublist.cons _ (List.Sublist.cons _ (List.Sublist.cons _ (List.Sublist.cons_cons _ (List.Sublist.cons_cons _ (List.Sublist.cons_cons _ (List.Sublist.cons_cons _ (List.Sublist.cons_cons _ (List.Sublist.cons_cons _ (List.Sublist.cons_cons _ (List.nil_sublist _))))))))))))
            ·
              refine W_lit (e := 3) (cs := #[.int .i64 0]) rfl HW (fun w => by first | (go_simp; done) | (go_simp; rfl)) ?_
              intro gl4 w' HW6
              have HW := HW6
              skip
              have hS := HW.drop (L' := [_]) (List.Sublist.cons _ (List.Sublist.cons _ (List.Sublist.cons _ (List.Sublist.cons_cons _ (List.nil_sublist _)))))
              refine ⟨hS, ?_⟩
              try simp only [Act.put, List.getElem_toArray, List.getElem_cons_succ, List.getElem_cons_zero, List.setIfInBounds_toArray, List.set_cons_succ, List.set_cons_zero]
              refine D_oneX 8 #[true, true, true, true, true, true, true, true, true, true, true, true, true, true, false, true, true, true, true, true, false, false, false, false, false, false, false, false, false, false] (by kernel_rfl) rfl (by kernel_rfl) (by rfl) ?_
              refine W_append (encInt_len .i64) (encInt_one .i64) (s := .tmp 42) (x := .tmp 43) (xv := .slice (some ⟨gl3, 0, none⟩) 1 1) (ys := [(0 : Int)]) rfl Tryz.underlying45 infoI rfl (by decide) HW 6 rfl rfl rfl (RdS.one (HW.at_ 2 rfl) rfl) b3 m3 ?_
              intro vn w' HW7 hnn
              obtain ⟨gn3, cn3, rfl⟩ := own_form (HW7.get 6 rfl) (by simp)
              simp only [List.set_cons_succ, List.set_cons_zero] at HW7
              have HW := HW7
              have hS := HW.drop (L' := [_]) (List.Sublist.cons _ (List.Sublist.cons _ (List.Sublist.cons _ (List.Sublist.cons_cons _ (List.nil_sublist _)))))
              refine ⟨hS, ?_⟩
              try simp only [Act.put, List.getElem_toArray, List.getElem_cons_succ, List.getElem_cons_zero, List.setIfInBounds_toArray, List.set_cons_succ, List.set_cons_zero]
              refine D_oneX 14 #[true, true, true, true, true, true, true, true, true, true, true, true, true, true, true, true, true, true, true, true, false, false, false, false, false, false, false, false, false, false] (by kernel_rfl) rfl (by kernel_rfl) (by rfl) ?_
              refine W_append (encInt_len .i64) (encInt_one .i64) (s := .tmp 48) (x := .tmp 49) (xv := .slice (some ⟨gl4, 0, none⟩) 1 1) (ys := [(0 : Int)]) rfl Tryz.underlying45 infoI rfl (by decide) HW 7 rfl rfl rfl (RdS.one (HW.at_ 0 rfl) rfl) b4 m4 ?_
              intro vn w' HW7 hnn
              obtain ⟨gn4, cn4, rfl⟩ := own_form (HW7.get 7 rfl) (by simp)
              simp only [List.set_cons_succ, List.set_cons_zero] at HW7
              have HW := HW7
              have hS := HW.drop (L' := [_]) (List.Sublist.cons _ (List.Sublist.cons _ (List.Sublist.cons _ (List.Sublist.cons_cons _ (List.nil_sublist _)))))
              refine ⟨hS, ?_⟩
              try simp only [Act.put, List.getElem_toArray, List.getElem_cons_succ, List.getElem_cons_zero, List.setIfInBounds_toArray, List.set_cons_succ, List.set_cons_zero]
              refine D_oneX 20 #[true, true, true, true, true, true, true, true, true, true, true, true, true, true, true, true, true, true, true, true, true, false, false, false, false, false, false, false, false, false] (by kernel_rfl) rfl (by kernel_rfl) (by rfl) ?_
              refine W_append encBo_len encBo_one (s := .tmp 54) (x := .tmp 55) (xv := .slice (some ⟨gl5, 0, none⟩) 1 1) (ys := [false]) rfl Tryz.underlying46 infoB rfl (by decide) HW 8 rfl rfl rfl (RdS.one (HW.at_ 1 rfl) rfl) b5 m5 ?_
              intro vn w' HW7 hnn
              obtain ⟨gn5, cn5, rfl⟩ := own_form (HW7.get 8 rfl) (by simp)
              simp only [List.set_cons_succ, List.set_cons_zero] at HW7
              have HW := HW7
              have hS := HW.drop (L' := [_]) (List.Sublist.cons _ (List.Sublist.cons _ (List.Sublist.cons _ (List.Sublist.cons_cons _ (List.nil_sublist _)))))
              refine ⟨hS, ?_⟩
              try simp only [Act.put, List.getElem_toArray, List.getElem_cons_succ, List.getElem_cons_zero, List.setIfInBounds_toArray, List.set_cons_succ, List.set_cons_zero]
              exact tail.out gl3 gl4 gl5 gn3 cn3 gn4 cn4 gn5 cn5 _ (HW.drop (L' := [_, _, _, _, _, _, _]) (List.Sublist.cons _ (List.Sublist.cons _ (List.Sublist.cons _ (List.Sublist.cons_cons _ (List.Sublist.cons_cons _ (List.Sublist.cons_cons _ (List.Sublist.cons_cons _ (List.Sublist.cons_cons _ (List.Sublist.cons_cons _ (List.Sublist.cons_cons _ (List.nil_sublist _))))))))))))
        ·
          refine W_lit (e := 3) (cs := #[.int .i64 0]) rfl HW (fun w => by first | (go_simp; done) | (go_simp; rfl)) ?_
          intro gl4 w' HW6
          have HW := HW6
          skip
          have hS := HW.drop (L' := [_]) (List.Sublist.cons _ (List.Sublist.cons_cons _ (List.nil_sublist _)))
          refine ⟨hS, ?_⟩
          try simp only [Act.put, List.getElem_toArray, List.getElem_cons_succ, List.getElem_cons_zero, List.setIfInBounds_toArray, List.set_cons_succ, List.set_cons_zero]
          refine D_twoX 7 19 #[true, true, true, true, true, true, true, true, false, true, true, true, true, true, false, true, true, true, true, false, false, false, false, false, false, false, false, false, false, false] #[true, true, true, true, true, true, true, false, false, true, true, true, true, true, false, true, true, true, true, true, false, false, false, false, false, false, false, false, false, false] (by kernel_rfl) (by kernel_rfl) rfl rfl (by kernel_rfl) (by rfl) (by rfl) ?_ ?_
          ·
            refine W_lit (e := 3) (cs := #[.int .i64 0]) rfl HW (fun w => by first | (go_simp; done) | (go_simp; rfl)) ?_
            intro gl3 w' HW6
            have HW := HW6
            skip
            have hS := HW.drop (L' := [_]) (List.Sublist.cons _ (List.Sublist.cons _ (List.Sublist.cons_cons _ (List.nil_sublist _))))
            refine ⟨hS, ?_⟩
            try simp only [Act.put, List.getElem_toArray, List.getElem_cons_succ, List.getElem_cons_zero, List.setIfInBounds_toArray, List.set_cons_succ, List.set_cons_zero]
            refine D_twoX 8 19 #[true, true, true, true, true, true, true, true, true, true, true, true, true, true, false, true, true, true, true, false, false, false, false, false, false, false, false, false, false, false] #[true, true, true, true, true, true, true, true, false, true, true, true, true, true, false, true, true, true, true, true, false, false, false, false, false, false, false, false, false, false] (by kernel_rfl) (by kernel_rfl) rfl rfl (by kernel_rfl) (by rfl) (by rfl) ?_ ?_
            ·
              refine W_append (encInt_len .i64) (encInt_one .i64) (s := .tmp 42) (x := .tmp 43) (xv := .slice (some ⟨gl3, 0, none⟩) 1 1) (ys := [(0 : Int)]) rfl Tryz.underlying45 infoI rfl (by decide) HW 5 rfl rfl rfl (RdS.one (HW.at_ 0 rfl) rfl) b3 m3 ?_
              intro vn w' HW7 hnn
              obtain ⟨gn3, cn3, rfl⟩ := own_form (HW7.get 5 rfl) (by simp)
              simp only [List.set_cons_succ, List.set_cons_zero] at HW7
              have HW := HW7
              have hS := HW.drop (L' := [_]) (List.Sublist.cons _ (List.Sublist.cons _ (List.Sublist.cons_cons _ (List.nil_sublist _))))
              refine ⟨hS, ?_⟩
              try simp only [Act.put, List.getElem_toArray, List.getElem_cons_succ, List.getElem_cons_zero, List.setIfInBounds_toArray, List.set_cons_succ, List.set_cons_zero]
              refine D_twoX 14 19 #[true, true, true, true, true, true, true, true, true, true, true, true, true, true, true, true, true, true, true, false, false, false, false, false, false, false, false, false, false, false] #[true, true, true, true, true, true, true, true, true, true, true, true, true, true, false, true, true, true, true, true, false, false, false, false, false, false, false, false, false, false] (by kernel_rfl) (by kernel_rfl) rfl rfl (by kernel_rfl) (by rfl) (by rfl) ?_ ?_
              ·
                refine W_append (encInt_len .i64) (encInt_one .i64) (s := .tmp 48) (x := .tmp 49) (xv := .slice (some ⟨gl4, 0, none⟩) 1 1) (ys := [(0 : Int)]) rfl Tryz.underlying45 infoI rfl (by decide) HW 6 rfl rfl rfl (RdS.one (HW.at_ 1 rfl) rfl) b4 m4 ?_
                intro vn w' HW7 hnn
                obtain ⟨gn4, cn4, rfl⟩ := own_form (HW7.get 6 rfl) (by simp)
                simp only [List.set_cons_succ, List.set_cons_zero] at HW7
                have HW := HW7
                have hS := HW.drop (L' := [_]) (List.Sublist.cons _ (List.Sublist.cons _ (List.Sublist.cons_cons _ (List.nil_sublist _))))
                refine ⟨hS, ?_⟩
                try simp only [Act.put, List.getElem_toArray, List.getElem_cons_succ, List.getElem_cons_zero, List.setIfInBounds_toArray, List.set_cons_succ, List.set_cons_zero]
                refine D_oneX 19 #[true, true, true, true, true, true, true, true, true, true, true, true, true, true, true, true, true, true, true, true, false, false, false, false, false, false, false, false, false, false] (by kernel_rfl) rfl (by kernel_rfl) (by rfl) ?_
                refine W_lit (e := 4) (cs := #[.bool false]) rfl HW (fun w => by first | (go_simp; done) | (go_simp; rfl)) ?_
                intro gl5 w' HW6
                have HW := HW6
                skip
                have hS := HW.drop (L' := [_]) (List.Sublist.cons _ (List.Sublist.cons _ (List.Sublist.cons _ (List.Sublist.cons_cons _ (List.nil_sublist _)))))
                refine ⟨hS, ?_⟩
                try simp only [Act.put, List.getElem_toArray, List.getElem_cons_succ, List.getElem_cons_zero, List.setIfInBounds_toArray, List.set_cons_succ, List.set_cons_zero]
                refine D_oneX 20 #[true, true, true, true, true, true, true, true, true, true, true, true, true, true, true, true, true, true, true, true, true, false, false, false, false, false, false, false, false, false] (by kernel_rfl) rfl (by kernel_rfl) (by rfl) ?_
                refine W_append encBo_len encBo_one (s := .tmp 54) (x := .tmp 55) (xv := .slice (some ⟨gl5, 0, none⟩) 1 1) (ys := [false]) rfl Tryz.underlying46 infoB rfl (by decide) HW 8 rfl rfl rfl (RdS.one (HW.at_ 0 rfl) rfl) b5 m5 ?_
                intro vn w' HW7 hnn
                obtain ⟨gn5, cn5, rfl⟩ := own_form (HW7.get 8 rfl) (by simp)
                simp only [List.set_cons_succ, List.set_cons_zero] at HW7
                have HW := HW7
                have hS := HW.drop (L' := [_]) (List.Sublist.cons _ (List.Sublist.cons _ (List.Sublist.cons _ (List.Sublist.cons_cons _ (List.nil_sublist _)))))
                refine ⟨hS, ?_⟩
                try simp only [Act.put, List.getElem_toArray, List.getElem_cons_succ, List.getElem_cons_zero, List.setIfInBounds_toArray, List.set_cons_succ, List.set_cons_zero]
                exact tail.out gl3 gl4 gl5 gn3 cn3 gn4 cn4 gn5 cn5 _ (HW.drop (L' := [_, _, _, _, _, _, _]) (List.Sublist.cons _ (List.Sublist.cons _ (List.Sublist.cons _ (List.Sublist.cons_cons _ (List.Sublist.cons_cons _ (List.Sublist.cons_cons _ (List.Sublist.cons_cons _ (List.Sublist.cons_cons _ (List.Sublist.cons_cons _ (List.Sublist.cons_cons _ (List.nil_sublist _))))))))))))
              ·
                refine W_lit (e := 4) (cs := #[.bool false]) rfl HW (fun w => by first | (go_simp; done) | (go_simp; rfl)) ?_
                intro gl5 w' HW6
                have HW := HW6
                skip
                have hS := HW.drop (L' := [_]) (List.Sublist.cons _ (List.Sublist.cons _ (List.Sublist.cons _ (List.Sublist.cons_cons _ (List.nil_sublist _)))))
                refine ⟨hS, ?_⟩
                try simp only [Act.put, List.getElem_toArray, List.getElem_cons_succ, List.getElem_cons_zero, List.setIfInBounds_toArray, List.set_cons_succ, List.set_cons_zero]
                refine D_oneX 14 #[true, true, true, true, true, true, true, true, true, true, true, true, true, true, true, true, true, true, true, true, false, false, false, false, false, false, false, false, false, false] (by kernel_rfl) rfl (by kernel_rfl) (by rfl) ?_
                refine W_append (encInt_len .i64) (encInt_one .i64) (s := .tmp 48) (x := .tmp 49) (xv := .slice (some ⟨gl4, 0, none⟩) 1 1) (ys := [(0 : Int)]) rfl Tryz.underlying45 infoI rfl (by decide) HW 7 rfl rfl rfl (RdS.one (HW.at_ 2 rfl) rfl) b4 m4 ?_
                intro vn w' HW7 hnn
                obtain ⟨gn4, cn4, rfl⟩ := own_form (HW7.get 7 rfl) (by simp)
                simp only [List.set_cons_succ, List.set_cons_zero] at HW7
                have HW := HW7
                have hS := HW.drop (L' := [_]) (List.Sublist.cons _ (List.Sublist.cons _ (List.Sublist.cons _ (List.Sublist.cons_cons _ (List.nil_sublist _)))))
                refine ⟨hS, ?_⟩
                try simp only [Act.put, List.getElem_toArray, List.getElem_cons_succ, List.getElem_cons_zero, List.setIfInBounds_toArray, List.set_cons_succ, List.set_cons_zero]
                refine D_oneX 20 #[true, true, true, true, true, true, true, true, true, true, true, true, true, true, true, true, true, true, true, true, true, false, false, false, false, false, false, false, false, false] (by kernel_rfl) rfl (by kernel_rfl) (by rfl) ?_
                refine W_append encBo_len encBo_one (s := .tmp 54) (x := .tmp 55) (xv := .slice (some ⟨gl5, 0, none⟩) 1 1) (ys := [false]) rfl Tryz.underlying46 infoB rfl (by decide) HW 8 rfl rfl rfl (RdS.one (HW.at_ 0 rfl) rfl) b5 m5 ?_
                intro vn w' HW7 hnn
                obtain ⟨gn5, cn5, rfl⟩ := own_form (HW7.get 8 rfl) (by simp)
                simp only [List.set_cons_succ, List.set_cons_zero] at HW7
                have HW := HW7
                have hS := HW.drop (L' := [_]) (List.Sublist.cons _ (List.Sublist.cons _ (List.Sublist.cons _ (List.Sublist.cons_cons _ (List.nil_sublist _)))))
                refine ⟨hS, ?_⟩
                try simp only [Act.put, List.getElem_toArray, List.getElem_cons_succ, List.getElem_cons_zero, List.setIfInBounds_toArray, List.set_cons_succ, List.set_cons_zero]
                exact tail.out gl3 gl4 gl5 gn3 cn3 gn4 cn4 gn5 cn5 _ (HW.drop (L' := [_, _, _, _, _, _, _]) (List.Sublist.cons _ (List.Sublist.cons _ (List.Sublist.cons _ (List.Sublist.cons_cons _ (List.Sublist.cons_cons _ (List.Sublist.cons_cons _ (List.Sublist.cons_cons _ (List.Sublist.cons_cons _ (List.Sublist.cons_cons _ (List.Sublist.cons_cons _ (List.nil_sublist _))))))))))))
            ·
              refine W_lit (e := 4) (cs := #[.bool false]) rfl HW (fun w => by first | (go_simp; done) | (go_simp; rfl)) ?_
              intro gl5 w' HW6
              have HW := HW6
              skip
              have hS := HW.drop (L' := [_]) (List.Sublist.cons _ (List.Sublist.cons _ (List.Sublist.cons _ (List.Sublist.cons_cons _ (List.nil_sublist _)))))
              refine ⟨hS, ?_⟩
              try simp only [Act.put, List.getElem_toArray, List.getElem_cons_succ, List.getElem_cons_zero, List.setIfInBounds_toArray, List.set_cons_succ, List.set_cons_zero]
              refine D_oneX 8 #[true, true, true, true, true, true, true, true, true, true, true, true, true, true, false, true, true, true, true, true, false, false, false, false, false, false, false, false, false, false] (by kernel_rfl) rfl (by kernel_rfl) (by rfl) ?_
              refine W_append (encInt_len .i64) (encInt_one .i64) (s := .tmp 42) (x := .tmp 43) (xv := .slice (some ⟨gl3, 0, none⟩) 1 1) (ys := [(0 : Int)]) rfl Tryz.underlying45 infoI rfl (by decide) HW 6 rfl rfl rfl (RdS.one (HW.at_ 1 rfl) rfl) b3 m3 ?_
              intro vn w' HW7 hnn
              obtain ⟨gn3, cn3, rfl⟩ := own_form (HW7.get 6 rfl) (by simp)
              simp only [List.set_cons_succ, List.set_cons_zero] at HW7
              have HW := HW7
              have hS := HW.drop (L' := [_]) (List.Sublist.cons _ (List.Sublist.cons _ (List.Sublist.cons _ (List.Sublist.cons_cons _ (List.nil_sublist _)))))
              refine ⟨hS, ?_⟩
              try simp only [Act.put, List.getElem_toArray, List.getElem_cons_succ, List.getElem_cons_zero, List.setIfInBounds_toArray, List.set_cons_succ, List.set_cons_zero]
              refine D_oneX 14 #[true, true, true, true, true, true, true, true, true, true, true, true, true, true, true, true, true, true, true, true, false, false, false, false, false, false, false, false, false, false] (by kernel_rfl) rfl (by kernel_rfl) (by rfl) ?_
              refine W_append (encInt_len .i64) (encInt_one .i64) (s := .tmp 48) (x := .tmp 49) (xv := .slice (some ⟨gl4, 0, none⟩) 1 1) (ys := [(0 : Int)]) rfl Tryz.underlying45 infoI rfl (by decide) HW 7 rfl rfl rfl (RdS.one (HW.at_ 2 rfl) rfl) b4 m4 ?_
              intro vn w' HW7 hnn
              obtain ⟨gn4, cn4, rfl⟩ := own_form (HW7.get 7 rfl) (by simp)
              simp only [List.set_cons_succ, List.set_cons_zero] at HW7
              have HW := HW7
              have hS := HW.drop (L' := [_]) (List.Sublist.cons _ (List.Sublist.cons _ (List.Sublist.cons _ (List.Sublist.cons_cons _ (List.nil_sublist _)))))
              refine ⟨hS, ?_⟩
              try simp only [Act.put, List.getElem_toArray, List.getElem_cons_succ, List.getElem_cons_zero, List.setIfInBounds_toArray, List.set_cons_succ, List.set_cons_zero]
              refine D_oneX 20 #[true, true, true, true, true, true, true, true, true, true, true, true, true, true, true, true, true, true, true, true, true, false, false, false, false, false, false, false, false, false] (by kernel_rfl) rfl (by kernel_rfl) (by rfl) ?_
              refine W_append encBo_len encBo_one (s := .tmp 54) (x := .tmp 55) (xv := .slice (some ⟨gl5, 0, none⟩) 1 1) (ys := [false]) rfl Tryz.underlying46 infoB rfl (by decide) HW 8 rfl rfl rfl (RdS.one (HW.at_ 0 rfl) rfl) b5 m5 ?_
              intro vn w' HW7 hnn
              obtain ⟨gn5, cn5, rfl⟩ := own_form (HW7.get 8 rfl) (by simp)
              simp only [List.set_cons_succ, List.set_cons_zero] at HW7
              have HW := HW7
              have hS := HW.drop (L' := [_]) (List.Sublist.cons _ (List.Sublist.cons _ (List.Sublist.cons _ (List.Sublist.cons_cons _ (List.nil_sublist _)))))
              refine ⟨hS, ?_⟩
              try simp only [Act.put, List.getElem_toArray, List.getElem_cons_succ, List.getElem_cons_zero, List.setIfInBounds_toArray, List.set_cons_succ, List.set_cons_zero]
              exact tail.out gl3 gl4 gl5 gn3 cn3 gn4 cn4 gn5 cn5 _ (HW.drop (L' := [_, _, _, _, _, _, _]) (List.Sublist.cons _ (List.Sublist.cons _ (List.Sublist.cons _ (List.Sublist.cons_cons _ (List.Sublist.cons_cons _ (List.Sublist.cons_cons _ (List.Sublist.cons_cons _ (List.Sublist.cons_cons _ (List.Sublist.cons_cons _ (List.Sublist.cons_cons _ (List.nil_sublist _))))))))))))
          ·
            refine W_lit (e := 4) (cs := #[.bool false]) rfl HW (fun w => by first | (go_simp; done) | (go_simp; rfl)) ?_
            intro gl5 w' HW6
            have HW := HW6
            skip
            have hS := HW.drop (L' := [_]) (List.Sublist.cons _ (List.Sublist.cons _ (List.Sublist.cons_cons _ (List.nil_sublist _))))
            refine ⟨hS, ?_⟩
            try simp only [Act.put, List.getElem_toArray, List.getElem_cons_succ, List.getElem_cons_zero, List.setIfInBounds_toArray, List.set_cons_succ, List.set_cons_zero]
            refine D_oneX 7 #[true, true, true, true, true, true, true, true, false, true, true, true, true, true, false, true, true, true, true, true, false, false, false, false, false, false, false, false, false, false] (by kernel_rfl) rfl (by kernel_rfl) (by rfl) ?_
            refine W_lit (e := 3) (cs := #[.int .i64 0]) rfl HW (fun w => by first | (go_simp; done) | (go_simp; rfl)) ?_
            intro gl3 w' HW6
            have HW := HW6
            skip
            have hS := HW.drop (L' := [_]) (List.Sublist.cons _ (List.Sublist.cons _ (List.Sublist.cons _ (List.Sublist.cons_cons _ (List.nil_sublist _)))))
            refine ⟨hS, ?_⟩
            try simp only [Act.put, List.getElem_toArray, List.getElem_cons_succ, List.getElem_cons_zero, List.setIfInBounds_toArray, List.set_cons_succ, List.set_cons_zero]
            refine D_oneX 8 #[true, true, true, true, true, true, true, true, true, true, true, true, true, true, false, true, true, true, true, true, false, false, false, false, false, false, false, false, false, false] (by kernel_rfl) rfl (by kernel_rfl) (by rfl) ?_
            refine W_append (encInt_len .i64) (encInt_one .i64) (s := .tmp 42) (x := .tmp 43) (xv := .slice (some ⟨gl3, 0, none⟩) 1 1) (ys := [(0 : Int)]) rfl Tryz.underlying45 infoI rfl (by decide) HW 6 rfl rfl rfl (RdS.one (HW.at_ 0 rfl) rfl) b3 m3 ?_
            intro vn w' HW7 hnn
            obtain ⟨gn3, cn3, rfl⟩ := own_form (HW7.get 6 rfl) (by simp)
            simp only [List.set_cons_succ, List.set_cons_zero] at HW7
            have HW := HW7
            have hS := HW.drop (L' := [_]) (List.Sublist.cons _ (List.Sublist.cons _ (List.Sublist.cons _ (List.Sublist.cons_cons _ (List.nil_sublist _)))))
            refine ⟨hS, ?_⟩
            try simp only [Act.put, List.getElem_toArray, List.getElem_cons_succ, List.getElem_cons_zero, List.setIfInBounds_toArray, List.set_cons_succ, List.set_cons_zero]
            refine D_oneX 14 #[true, true, true, true, true, true, true, true, true, true, true, true, true, true, true, true, true, true, true, true, false, false, false, false, false, false, false, false, false, false] (by kernel_rfl) rfl (by kernel_rfl) (by rfl) ?_
            refine W_append (encInt_len .i64) (encInt_one .i64) (s := .tmp 48) (x := .tmp 49) (xv := .slice (some ⟨gl4, 0, none⟩) 1 1) (ys := [(0 : Int)]) rfl Tryz.underlying45 infoI rfl (by decide) HW 7 rfl rfl rfl (RdS.one (HW.at_ 2 rfl) rfl) b4 m4 ?_
            intro vn w' HW7 hnn
            obtain ⟨gn4, cn4, rfl⟩ := own_form (HW7.get 7 rfl) (by simp)
            simp only [List.set_cons_succ, List.set_cons_zero] at HW7
            have HW := HW7
            have hS := HW.drop (L' := [_]) (List.Sublist.cons _ (List.Sublist.cons _ (List.Sublist.cons _ (List.Sublist.cons_cons _ (List.nil_sublist _)))))
            refine ⟨hS, ?_⟩
            try simp only [Act.put, List.getElem_toArray, List.getElem_cons_succ, List.getElem_cons_zero, List.setIfInBounds_toArray, List.set_cons_succ, List.set_cons_zero]
            refine D_oneX 20 #[true, true, true, true, true, true, true, true, true, true, true, true, true, true, true, true, true, true, true, true, true, false, false, false, false, false, false, false, false, false] (by kernel_rfl) rfl (by kernel_rfl) (by rfl) ?_
            refine W_append encBo_len encBo_one (s := .tmp 54) (x := .tmp 55) (xv := .slice (some ⟨gl5, 0, none⟩) 1 1) (ys := [false]) rfl Tryz.underlying46 infoB rfl (by decide) HW 8 rfl rfl rfl (RdS.one (HW.at_ 1 rfl) rfl) b5 m5 ?_
            intro vn w' HW7 hnn
            obtain ⟨gn5, cn5, rfl⟩ := own_form (HW7.get 8 rfl) (by simp)
            simp only [List.set_cons_succ, List.set_cons_zero] at HW7
            have HW := HW7
            have hS := HW.drop (L' := [_]) (List.Sublist.cons _ (List.Sublist.cons _ (List.Sublist.cons _ (List.Sublist.cons_cons _ (List.nil_sublist _)))))
            refine ⟨hS, ?_⟩
            try simp only [Act.put, List.getElem_toArray, List.getElem_cons_succ, List.getElem_cons_zero, List.setIfInBounds_toArray, List.set_cons_succ, List.set_cons_zero]
            exact tail.out gl3 gl4 gl5 gn3 cn3 gn4 cn4 gn5 cn5 _ (HW.drop (L' := [_, _, _, _, _, _, _]) (List.Sublist.cons _ (List.Sublist.cons _ (List.Sublist.cons _ (List.Sublist.cons_cons _ (List.Sublist.cons_cons _ (List.Sublist.cons_cons _ (List.Sublist.cons_cons _ (List.Sublist.cons_cons _ (List.Sublist.cons_cons _ (List.Sublist.cons_cons _ (List.nil_sublist _))))))))))))
        ·
          refine W_lit (e := 4) (cs := #[.bool false]) rfl HW (fun w => by first | (go_simp; done) | (go_simp; rfl)) ?_
          intro gl5 w' HW6
          have HW := HW6
          skip
          have hS := HW.drop (L' := [_]) (List.Sublist.cons _ (List.Sublist.cons_cons _ (List.nil_sublist _)))
          refine ⟨hS, ?_⟩
          try simp only [Act.put, List.getElem_toArray, List.getElem_cons_succ, List.getElem_cons_zero, List.setIfInBounds_toArray, List.set_cons_succ, List.set_cons_zero]
          refine D_twoX 7 13 #[true, true, true, true, true, true, true, true, false, true, true, true, true, false, false, true, true, true, true, true, false, false, false, false, false, false, false, false, false, false] #[true, true, true, true, true, true, true, false, false, true, true, true, true, true, false, true, true, true, true, true, false, false, false, false, false, false, false, false, false, false] (by kernel_rfl) (by kernel_rfl) rfl rfl (by kernel_rfl) (by rfl) (by rfl) ?_ ?_
          ·
            refine W_lit (e := 3) (cs := #[.int .i64 0]) rfl HW (fun w => by first | (go_simp; done) | (go_simp; rfl)) ?_
            intro gl3 w' HW6
            have HW := HW6
            skip
            have hS := HW.drop (L' := [_]) (List.Sublist.cons _ (List.Sublist.cons _ (List.Sublist.cons_cons _ (List.nil_sublist _))))
            refine ⟨hS, ?_⟩
            try simp only [Act.put, List.getElem_toArray, List.getElem_cons_succ, List.getElem_cons_zero, List.setIfInBounds_toArray, List.set_cons_succ, List.set_cons_zero]
            refine D_twoX 8 13 #[true, true, true, true, true, true, true, true, true, true, true, true, true, false, false, true, true, true, true, true, false, false, false, false, false, false, false, false, false, false] #[true, true, true, true, true, true, true, true, false, true, true, true, true, true, false, true, true, true, true, true, false, false, false, false, false, false, false, false, false, false] (by kernel_rfl) (by kernel_rfl) rfl rfl (by kernel_rfl) (by rfl) (by rfl) ?_ ?_
            ·
              refine W_append (encInt_len .i64) (encInt_one .i64) (s := .tmp 42) (x := .tmp 43) (xv := .slice (some ⟨gl3, 0, none⟩) 1 1) (ys := [(0 : Int)]) rfl Tryz.underlying45 infoI rfl (by decide) HW 5 rfl rfl rfl (RdS.one (HW.at_ 0 rfl) rfl) b3 m3 ?_
              intro vn w' HW7 hnn
              obtain ⟨gn3, cn3, rfl⟩ := own_form (HW7.get 5 rfl) (by simp)
              simp only [List.set_cons_succ, List.set_cons_zero] at HW7
              have HW := HW7
              have hS := HW.drop (L' := [_]) (List.Sublist.cons _ (List.Sublist.cons _ (List.Sublist.cons_cons _ (List.nil_sublist _))))
              refine ⟨hS, ?_⟩
              try simp only [Act.put, List.getElem_toArray, List.getElem_cons_succ, List.getElem_cons_zero, List.setIfInBounds_toArray, List.set_cons_succ, List.set_cons_zero]
              refine D_oneX 13 #[true, true, true, true, true, true, true, true, true, true, true, true, true, true, false, true, true, true, true, true, false, false, false, false, false, false, false, false, false, false] (by kernel_rfl) rfl (by kernel_rfl) (by rfl) ?_
              refine W_lit (e := 3) (cs := #[.int .i64 0]) rfl HW (fun w => by first | (go_simp; done) | (go_simp; rfl)) ?_
              intro gl4 w' HW6
              have HW := HW6
              skip
              have hS := HW.drop (L' := [_]) (List.Sublist.cons _ (List.Sublist.cons _ (List.Sublist.cons _ (List.Sublist.cons_cons _ (List.nil_sublist _)))))
              refine ⟨hS, ?_⟩
              try simp only [Act.put, List.getElem_toArray, List.getElem_cons_succ, List.getElem_cons_zero, List.setIfInBounds_toArray, List.set_cons_succ, List.set_cons_zero]
              refine D_oneX 14 #[true, true, true, true, true, true, true, true, true, true, true, true, true, true, true, true, true, true, true, true, false, false, false, false, false, false, false, false, false, false] (by kernel_rfl) rfl (by kernel_rfl) (by rfl) ?_
              refine W_append (encInt_len .i64) (encInt_one .i64) (s := .tmp 48) (x := .tmp 49) (xv := .slice (some ⟨gl4, 0, none⟩) 1 1) (ys := [(0 : Int)]) rfl Tryz.underlying45 infoI rfl (by decide) HW 7 rfl rfl rfl (RdS.one (HW.at_ 0 rfl) rfl) b4 m4 ?_
              intro vn w' HW7 hnn
              obtain ⟨gn4, cn4, rfl⟩ := own_form (HW7.get 7 rfl) (by simp)
              simp only [List.set_cons_succ, List.set_cons_zero] at HW7
              have HW := HW7
              have hS := HW.drop (L' := [_]) (List.Sublist.cons _ (List.Sublist.cons _ (List.Sublist.cons _ (List.Sublist.cons_cons _ (List.nil_sublist _)))))
              refine ⟨hS, ?_⟩
              try simp only [Act.put, List.getElem_toArray, List.getElem_cons_succ, List.getElem_cons_zero, List.setIfInBounds_toArray, List.set_cons_succ, List.set_cons_zero]
              refine D_oneX 20 #[true, true, true, true, true, true, true, true, true, true, true, true, true, true, true, true, true, true, true, true, true, false, false, false, false, false, false, false, false, false] (by kernel_rfl) rfl (by kernel_rfl) (by rfl) ?_
              refine W_append encBo_len encBo_one (s := .tmp 54) (x := .tmp 55) (xv := .slice (some ⟨gl5, 0, none⟩) 1 1) (ys := [false]) rfl Tryz.underlying46 infoB rfl (by decide) HW 8 rfl rfl rfl (RdS.one (HW.at_ 2 rfl) rfl) b5 m5 ?_
              intro vn w' HW7 hnn
              obtain ⟨gn5, cn5, rfl⟩ := own_form (HW7.get 8 rfl) (by simp)
              simp only [List.set_cons_succ, List.set_cons_zero] at HW7
              have HW := HW7
              have hS := HW.drop (L' := [_]) (List.Sublist.cons _ (List.Sublist.cons _ (List.Sublist.cons _ (List.Sublist.cons_cons _ (List.nil_sublist _)))))
              refine ⟨hS, ?_⟩
              try simp only [Act.put, List.getElem_toArray, List.getElem_cons_succ, List.getElem_cons_zero, List.setIfInBounds_toArray, List.set_cons_succ, List.set_cons_zero]
              exact tail.out gl3 gl4 gl5 gn3 cn3 gn4 cn4 gn5 cn5 _ (HW.drop (L' := [_, _, _, _, _, _, _]) (List.Sublist.cons _ (List.Sublist.cons _ (List.Sublist.cons _ (List.Sublist.cons_cons _ (List.Sublist.cons_cons _ (List.Sublist.cons_cons _ (List.Sublist.cons_cons _ (List.Sublist.cons_cons _ (List.Sublist.cons_cons _ (List.Sublist.cons_cons _ (List.nil_sublist _))))))))))))
            ·
              refine W_lit (e := 3) (cs := #[.int .i64 0]) rfl HW (fun w => by first | (go_simp; done) | (go_simp; rfl)) ?_
              intro gl4 w' HW6
              have HW := HW6
              skip
              have hS := HW.drop (L' := [_]) (List.Sublist.cons _ (List.Sublist.cons _ (List.Sublist.cons _ (List.Sublist.cons_cons _ (List.nil_sublist _)))))
              refine ⟨hS, ?_⟩
              try simp only [Act.put, List.getElem_toArray, List.getElem_cons_succ, List.getElem_cons_zero, List.setIfInBounds_toArray, List.set_cons_succ, List.set_cons_zero]
              refine D_oneX 8 #[true, true, true, true, true, true, true, true, true, true, true, true, true, true, false, true, true, true, true, true, false, false, false, false, false, false, false, false, false, false] (by kernel_rfl) rfl (by kernel_rfl) (by rfl) ?_
              refine W_append (encInt_len .i64) (encInt_one .i64) (s := .tmp 42) (x := .tmp 43) (xv := .slice (some ⟨gl3, 0, none⟩) 1 1) (ys := [(0 : Int)]) rfl Tryz.underlying45 infoI rfl (by decide) HW 6 rfl rfl rfl (RdS.one (HW.at_ 1 rfl) rfl) b3 m3 ?_
              intro vn w' HW7 hnn
              obtain ⟨gn3, cn3, rfl⟩ := own_form (HW7.get 6 rfl) (by simp)
              simp only [List.set_cons_succ, List.set_cons_zero] at HW7
              have HW := HW7
              have hS := HW.drop (L' := [_]) (List.Sublist.cons _ (List.Sublist.cons _ (List.Sublist.cons _ (List.Sublist.cons_cons _ (List.nil_sublist _)))))
              refine ⟨hS, ?_⟩
              try simp only [Act.put, List.getElem_toArray, List.getElem_cons_succ, List.getElem_cons_zero, List.setIfInBounds_toArray, List.set_cons_succ, List.set_cons_zero]
              refine D_oneX 14 #[true, true, true, true, true, true, true, true, true, true, true, true, true, true, true, true, true, true, true, true, false, false, false, false, false, false, false, false, false, false] (by kernel_rfl) rfl (by kernel_rfl) (by rfl) ?_
              refine W_append (encInt_len .i64) (encInt_one .i64) (s := .tmp 48) (x := .tmp 49) (xv := .slice (some ⟨gl4, 0, none⟩) 1 1) (ys := [(0 : Int)]) rfl Tryz.underlying45 infoI rfl (by decide) HW 7 rfl rfl rfl (RdS.one (HW.at_ 0 rfl) rfl) b4 m4 ?_
              intro vn w' HW7 hnn
              obtain ⟨gn4, cn4, rfl⟩ := own_form (HW7.get 7 rfl) (by simp)
              simp only [List.set_cons_succ, List.set_cons_zero] at HW7
              have HW := HW7
              have hS := HW.drop (L' := [_]) (List.Sublist.cons _ (List.Sublist.cons _ (List.Sublist.cons _ (List.Sublist.cons_cons _ (List.nil_sublist _)))))
              refine ⟨hS, ?_⟩
              try simp only [Act.put, List.getElem_toArray, List.getElem_cons_succ, List.getElem_cons_zero, List.setIfInBounds_toArray, List.set_cons_succ, List.set_cons_zero]
              refine D_oneX 20 #[true, true, true, true, true, true, true, true, true, true, true, true, true, true, true, true, true, true, true, true, true, false, false, false, false, false, false, false, false, false] (by kernel_rfl) rfl (by kernel_rfl) (by rfl) ?_
              refine W_append encBo_len encBo_one (s := .tmp 54) (x := .tmp 55) (xv := .slice (some ⟨gl5, 0, none⟩) 1 1) (ys := [false]) rfl Tryz.underlying46 infoB rfl (by decide) HW 8 rfl rfl rfl (RdS.one (HW.at_ 2 rfl) rfl) b5 m5 ?_
              intro vn w' HW7 hnn
              obtain ⟨gn5, cn5, rfl⟩ := own_form (HW7.get 8 rfl) (by simp)
              simp only [List.set_cons_succ, List.set_cons_zero] at HW7
              have HW := HW7
              have hS := HW.drop (L' := [_]) (List.Sublist.cons _ (List.Sublist.cons _ (List.Sublist.cons _ (List.Sublist.cons_cons _ (List.nil_sublist _)))))
              refine ⟨hS, ?_⟩
              try simp only [Act.put, List.getElem_toArray, List.getElem_cons_succ, List.getElem_cons_zero, List.setIfInBounds_toArray, List.set_cons_succ, List.set_cons_zero]
              exact tail.out gl3 gl4 gl5 gn3 cn3 gn4 cn4 gn5 cn5 _ (HW.drop (L' := [_, _, _, _, _, _, _]) (List.Sublist.cons _ (List.Sublist.cons _ (List.Sublist.cons _ (List.Sublist.cons_cons _ (List.Sublist.cons_cons _ (List.Sublist.cons_cons _ (List.Sublist.cons_cons _ (List.Sublist.cons_cons _ (List.Sublist.cons_cons _ (List.Sublist.cons_cons _ (List.nil_sublist _))))))))))))
          ·
            refine W_lit (e := 3) (cs := #[.int .i64 0]) rfl HW (fun w => by first | (go_simp; done) | (go_simp; rfl)) ?_
            intro gl4 w' HW6
            have HW := HW6
            skip
            have hS := HW.drop (L' := [_]) (List.Sublist.cons _ (List.Sublist.cons _ (List.Sublist.cons_cons _ (List.nil_sublist _))))
            refine ⟨hS, ?_⟩
            try simp only [Act.put, List.getElem_toArray, List.getElem_cons_succ, List.getElem_cons_zero, List.setIfInBounds_toArray, List.set_cons_succ, List.set_cons_zero]
            refine D_oneX 7 #[true, true, true, true, true, true, true, true, false, true, true, true, true, true, false, true, true, true, true, true, false, false, false, false, false, false, false, false, false, false] (by kernel_rfl) rfl (by kernel_rfl) (by rfl) ?_
            refine W_lit (e := 3) (cs := #[.int .i64 0]) rfl HW (fun w => by first | (go_simp; done) | (go_simp; rfl)) ?_
            intro gl3 w' HW6
            have HW := HW6
            skip
            have hS := HW.drop (L' := [_]) (List.Sublist.cons _ (List.Sublist.cons _ (List.Sublist.cons _ (List.Sublist.cons_cons _ (List.nil_sublist _)))))
            refine ⟨hS, ?_⟩
            try simp only [Act.put, List.getElem_toArray, List.getElem_cons_succ, List.getElem_cons_zero, List.setIfInBounds_toArray, List.set_cons_succ, List.set_cons_zero]
            refine D_oneX 8 #[true, true, true, true, true, true, true, true, true, true, true, true, true, true, false, true, true, true, true, true, false, false, false, false, false, false, false, false, false, false] (by kernel_rfl) rfl (by kernel_rfl) (by rfl) ?_
            refine W_append (encInt_len .i64) (encInt_one .i64) (s := .tmp 42) (x := .tmp 43) (xv := .slice (some ⟨gl3, 0, none⟩) 1 1) (ys := [(0 : Int)]) rfl Tryz.underlying45 infoI rfl (by decide) HW 6 rfl rfl rfl (RdS.one (HW.at_ 0 rfl) rfl) b3 m3 ?_
            intro vn w' HW7 hnn
            obtain ⟨gn3, cn3, rfl⟩ := own_form (HW7.get 6 rfl) (by simp)
            simp only [List.set_cons_succ, List.set_cons_zero] at HW7
            have HW := HW7
            have hS := HW.drop (L' := [_]) (List.Sublist.cons _ (List.Sublist.cons _ (List.Sublist.cons _ (List.Sublist.cons_cons _ (List.nil_sublist _)))))
            refine ⟨hS, ?_⟩
            try simp only [Act.put, List.getElem_toArray, List.getElem_cons_succ, List.getElem_cons_zero, List.setIfInBounds_toArray, List.set_cons_succ, List.set_cons_zero]
            refine D_oneX 14 #[true, true, true, true, true, true, true, true, true, true, true, true, true, true, true, true, true, true, true, true, false, false, false, false, false, false, false, false, false, false] (by kernel_rfl) rfl (by kernel_rfl) (by rfl) ?_
            refine W_append (encInt_len .i64) (encInt_one .i64) (s := .tmp 48) (x := .tmp 49) (xv := .slice (some ⟨gl4, 0, none⟩) 1 1) (ys := [(0 : Int)]) rfl Tryz.underlying45 infoI rfl (by decide) HW 7 rfl rfl rfl (RdS.one (HW.at_ 1 rfl) rfl) b4 m4 ?_
            intro vn w' HW7 hnn
            obtain ⟨gn4, cn4, rfl⟩ := own_form (HW7.get 7 rfl) (by simp)
            simp only [List.set_cons_succ, List.set_cons_zero] at HW7
            have HW := HW7
            have hS := HW.drop (L' := [_]) (List.Sublist.cons _ (List.Sublist.cons _ (List.Sublist.cons _ (List.Sublist.cons_cons _ (List.nil_sublist _)))))
            refine ⟨hS, ?_⟩
            try simp only [Act.put, List.getElem_toArray, List.getElem_cons_succ, List.getElem_cons_zero, List.setIfInBounds_toArray, List.set_cons_succ, List.set_cons_zero]
            refine D_oneX 20 #[true, true, true, true, true, true, true, true, true, true, true, true, true, true, true, true, true, true, true, true, true, false, false, false, false, false, false, false, false, false] (by kernel_rfl) rfl (by kernel_rfl) (by rfl) ?_
            refine W_append encBo_len encBo_one (s := .tmp 54) (x := .tmp 55) (xv := .slice (some ⟨gl5, 0, none⟩) 1 1) (ys := [false]) rfl Tryz.underlying46 infoB rfl (by decide) HW 8 rfl rfl rfl (RdS.one (HW.at_ 2 rfl) rfl) b5 m5 ?_
            intro vn w' HW7 hnn
            obtain ⟨gn5, cn5, rfl⟩ := own_form (HW7.get 8 rfl) (by simp)
            simp only [List.set_cons_succ, List.set_cons_zero] at HW7
            have HW := HW7
            have hS := HW.drop (L' := [_]) (List.Sublist.cons _ (List.Sublist.cons _ (List.Sublist.cons _ (List.Sublist.cons_cons _ (List.nil_sublist _)))))
            refine ⟨hS, ?_⟩
            try simp only [Act.put, List.getElem_toArray, List.getElem_cons_succ, List.getElem_cons_zero, List.setIfInBounds_toArray, List.set_cons_succ, List.set_cons_zero]
            exact tail.out gl3 gl4 gl5 gn3 cn3 gn4 cn4 gn5 cn5 _ (HW.drop (L' := [_, _, _, _, _, _, _]) (List.Sublist.cons _ (List.Sublist.cons _ (List.Sublist.cons _ (List.Sublist.cons_cons _ (List.Sublist.cons_cons _ (List.Sublist.cons_cons _ (List.Sublist.cons_cons _ (List.Sublist.cons_cons _ (List.Sublist.cons_cons _ (List.Sublist.cons_cons _ (List.nil_sublist _))))))))))))
      case h2 =>
        intro gl3 gl4 gl5 gn3 cn3 gn4 cn4 gn5 cn5 w' HW
        have hS := HW.drop (L' := [_]) (List.Sublist.cons_cons _ (List.nil_sublist _))
        refine D_freeX 21 #[true, true, true, true, true, true, true, true, true, true, true, true, true, true, true, true, true, true, true, true, true, true, false, false, false, false, false, false, false, false] (by kernel_rfl) (v := ?_) rfl (by kernel_rfl) (by kernel_rfl) (by kernel_rfl) (by kernel_rfl) (fun _ _ _ h => h) rfl (by rfl) (fun W => ?_) hS ?_
        rotate_left; (focus (first | (go_simp; done) | (go_simp; with_reducible rfl) | (go_simp; rfl))); all_goals skip; (try simp only [List.set_cons_succ, List.set_cons_zero])
        refine D_freeX 22 #[true, true, true, true, true, true, true, true, true, true, true, true, true, true, true, true, true, true, true, true, true, true, true, false, false, false, false, false, false, false] (by kernel_rfl) (v := ?_) rfl (by kernel_rfl) (by kernel_rfl) (by kernel_rfl) (by kernel_rfl) (fun _ _ _ h => h) rfl (by rfl) (fun W => ?_) hS ?_
        rotate_left; (focus (first | (go_simp; done) | (go_simp; with_reducible rfl) | (go_simp; rfl))); all_goals skip; (try simp only [List.set_cons_succ, List.set_cons_zero])
        refine D_pX #[true, true, true, true, true, true, true, true, true, true, true, true, true, true, true, true, true, true, true, true, true, true, true, true, false, false, false, false, false, false] (by kernel_rfl) rfl (by kernel_rfl) (by rfl) ?_
        have hbk := HW.at_ 0 rfl
        have hcb := cell_of_row _ g 2 _ _ _ hbk
        have hfb := frozen_of_row _ g 2 _ _ hbk
        have HW8 := HW.setCell (off := 2) 0 (.slice (some ⟨gn3, 0, none⟩) (age.length + 1) cn3) rfl
        simp only [List.set_cons_succ, List.set_cons_zero, List.setIfInBounds_toArray] at HW8
        refine wp_of_skip (R_store1 (ty := 45) (x := .tmp 58) (y := .tmp 44) (g := g) (j := 2) (v := .slice (some ⟨gn3, 0, none⟩) (age.length + 1) cn3) rfl rfl rfl rfl rfl hcb hfb Tryz.sizeOf45) ?_
        clear HW
        have HW := HW8
        clear HW8 hbk hcb hfb
        try simp only [Act.put, List.getElem_toArray, List.getElem_cons_succ, List.getElem_cons_zero, List.setIfInBounds_toArray, List.set_cons_succ, List.set_cons_zero]
        refine D_afterX 24 #[true, true, true, true, true, true, true, true, true, true, true, true, true, true, true, true, true, true, true, true, true, true, true, true, true, false, false, false, false, false] (by kernel_rfl) rfl (by kernel_rfl) (by rfl) (by kernel_rfl) ?_
        refine wp_here (v := ?_) ?_ ?_; rotate_left; (focus (first | (go_simp; done) | (go_simp; with_reducible rfl) | (go_simp; rfl))); all_goals skip
        try simp only [Act.put, List.getElem_toArray, List.getElem_cons_succ, List.getElem_cons_zero, List.setIfInBounds_toArray, List.set_cons_succ, List.set_cons_zero]
        refine D_afterX 25 #[true, true, true, true, true, true, true, true, true, true, true, true, true, true, true, true, true, true, true, true, true, true, true, true, true, true, false, false, false, false] (by kernel_rfl) rfl (by kernel_rfl) (by rfl) (by kernel_rfl) ?_
        refine wp_here (v := ?_) ?_ ?_; rotate_left; (focus (first | (go_simp; done) | (go_simp; with_reducible rfl) | (go_simp; rfl))); all_goals skip
        try simp only [Act.put, List.getElem_toArray, List.getElem_cons_succ, List.getElem_cons_zero, List.setIfInBounds_toArray, List.set_cons_succ, List.set_cons_zero]
        refine D_afterX 26 #[true, true, true, true, true, true, true, true, true, true, true, true, true, true, true, true, true, true, true, true, true, true, true, true, true, true, true, false, false, false] (by kernel_rfl) rfl (by kernel_rfl) (by rfl) (by kernel_rfl) ?_
        have hbk := HW.at_ 0 rfl
        have hcb := cell_of_row _ g 3 _ _ _ hbk
        have hfb := frozen_of_row _ g 3 _ _ hbk
        have HW8 := HW.setCell (off := 3) 0 (.slice (some ⟨gn4, 0, none⟩) (old.length + 1) cn4) rfl
        simp only [List.set_cons_succ, List.set_cons_zero, List.setIfInBounds_toArray] at HW8
        refine wp_of_skip (R_store1 (ty := 45) (x := .tmp 60) (y := .tmp 50) (g := g) (j := 3) (v := .slice (some ⟨gn4, 0, none⟩) (old.length + 1) cn4) rfl rfl rfl rfl rfl hcb hfb Tryz.sizeOf45) ?_
        clear HW
        have HW := HW8
        clear HW8 hbk hcb hfb
        try simp only [Act.put, List.getElem_toArray, List.getElem_cons_succ, List.getElem_cons_zero, List.setIfInBounds_toArray, List.set_cons_succ, List.set_cons_zero]
        refine D_afterX 27 #[true, true, true, true, true, true, true, true, true, true, true, true, true, true, true, true, true, true, true, true, true, true, true, true, true, true, true, true, false, false] (by kernel_rfl) rfl (by kernel_rfl) (by rfl) (by kernel_rfl) ?_
        refine wp_here (v := ?_) ?_ ?_; rotate_left; (focus (first | (go_simp; done) | (go_simp; with_reducible rfl) | (go_simp; rfl))); all_goals skip
        try simp only [Act.put, List.getElem_toArray, List.getElem_cons_succ, List.getElem_cons_zero, List.setIfInBounds_toArray, List.set_cons_succ, List.set_cons_zero]
        refine D_afterX 28 #[true, true, true, true, true, true, true, true, true, true, true, true, true, true, true, true, true, true, true, true, true, true, true, true, true, true, true, true, true, false] (by kernel_rfl) rfl (by kernel_rfl) (by rfl) (by kernel_rfl) ?_
        refine wp_here (v := ?_) ?_ ?_; rotate_left; (focus (first | (go_simp; done) | (go_simp; with_reducible rfl) | (go_simp; rfl))); all_goals skip
        try simp only [Act.put, List.getElem_toArray, List.getElem_cons_succ, List.getElem_cons_zero, List.setIfInBounds_toArray, List.set_cons_succ, List.set_cons_zero]
        refine D_afterX 29 #[true, true, true, true, true, true, true, true, true, true, true, true, true, true, true, true, true, true, true, true, true, true, true, true, true, true, true, true, true, true] (by kernel_rfl) rfl (by kernel_rfl) (by rfl) (by kernel_rfl) ?_
        have hbk := HW.at_ 0 rfl
        have hcb := cell_of_row _ g 4 _ _ _ hbk
        have hfb := frozen_of_row _ g 4 _ _ hbk
        have HW8 := HW.setCell (off := 4) 0 (.slice (some ⟨gn5, 0, none⟩) (wet.length + 1) cn5) rfl
        simp only [List.set_cons_succ, List.set_cons_zero, List.setIfInBounds_toArray] at HW8
        refine wp_of_skip (R_store1 (ty := 46) (x := .tmp 62) (y := .tmp 56) (g := g) (j := 4) (v := .slice (some ⟨gn5, 0, none⟩) (wet.length + 1) cn5) rfl rfl rfl rfl rfl hcb hfb Tryz.sizeOf46) ?_
        clear HW
        have HW := HW8
        clear HW8 hbk hcb hfb
        try simp only [Act.put, List.getElem_toArray, List.getElem_cons_succ, List.getElem_cons_zero, List.setIfInBounds_toArray, List.set_cons_succ, List.set_cons_zero]
        refine wpAnyX_done (by kernel_rfl) ?_ _
        skip
        go_wp2_with fail
        go_roundw
        case rel =>
          refine ⟨k + 1, _, by go_num, by omega, HS.out (.slice (some ⟨g1, 0, none⟩) 32 32) (.slice (some ⟨g2, 0, none⟩) 32 32) (.slice (some ⟨gn1, 0, none⟩) (gs.length + 1) cn1) (.slice (some ⟨gn2, 0, none⟩) (ss.length + 1) cn2) (.slice (some ⟨gn3, 0, none⟩) (age.length + 1) cn3) (.slice (some ⟨gn4, 0, none⟩) (old.length + 1) cn4) (.slice (some ⟨gn5, 0, none⟩) (wet.length + 1) cn5), ?_⟩
          simp only [RM.L, RM.cells, List.length_append, List.length_cons, List.length_nil, List.map_append, List.map_cons, List.map_nil, z32]
          exact HW
        case measure => simp [intOf]; omega
    · obtain rfl : k = n := by omega
      have t : ¬ (k : Int) < sectors ∨ ((k : Int) < sectors ∧ ¬ (k : Int) < 4096) := by omega
      have HO := Lib.hid hr
      clear hr hsn
      rcases t with t | ⟨t, t2⟩
      · go_wp2_with fail
        go_ret
        exact ⟨_, r, rfl, HO.out, H⟩
      · go_wp2_with fail
        go_ret
        exact ⟨_, r, rfl, HO.out, H⟩
/-- New, whatever the argument. -/
theorem refNew_any (sectors : Int) (w : World) :
    Calls Tryz.prog 5 #[.int .i64 sectors] w fun e w' => ∃ b, e = .returned (.pointer (some ⟨b, 0, none⟩)) ∧ Ext0 w w' ∧ (RefA b (grown (fun _ => False) w w') (DS.new (min sectors.toNat 4096))).says w' := by
  refine (refNew_at sectors _ (by omega) rfl w).mono ?_
  rintro e w' ⟨b, r, rfl, hr, H⟩
  exact ⟨b, rfl, H.ext, RefA.closes (fun _ h => h.elim) H hr.ok⟩
end Go.Proofs.YtgmeahogdjhejaaGreatDoor.Rf
