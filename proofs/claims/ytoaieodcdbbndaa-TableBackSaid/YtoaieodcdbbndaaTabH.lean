/- Decode: what lies in memory; laws. -/
import Derived.Test.YtoaieodcdbbndaaTabG
import Derived.Lib.ConvBytes
namespace Go.Proofs.Ytoaieodcdbbndaa
set_option linter.unusedVariables false
set_option linter.unusedSimpArgs false
open Go.RowKit

/-- Bytes that nobody writes any more. -/
def bytesA (bv : List (Value × List Int)) : Asr where
  fp := fun i => ∃ p ∈ bv, ∃ off n c, p.1 = .slice (some ⟨i, off, none⟩) n c
  says := fun w => ∀ p ∈ bv, RdS (encInt .u8) 1 w p.1 p.2
  keep := fun w w' h hs p hp => by
    obtain ⟨A, cap, he, hc, h1 | ⟨b, off, cs, T, fr, rfl, hb, hcs⟩⟩ := hs p hp
    · exact ⟨A, cap, he, hc, .inl h1⟩
    · exact ⟨_, cap, he, hc, .inr ⟨b, off, cs, T, fr, rfl, (h b ⟨p, hp, off, _, _, he⟩).trans hb, hcs⟩⟩

theorem SH.merge {M : Nat → Prop} {w0 w : World} {A B : Asr} {L1 : List Asr} (H : SH M w0 w (A :: (L1 ++ [B]))) (C : Asr) (hs : C.says w) (hf : ∀ i, C.fp i → A.fp i ∨ B.fp i) : SH M w0 w (L1 ++ [C]) := by
  have hA : A ∈ A :: (L1 ++ [B]) := List.mem_cons_self
  have hB : B ∈ A :: (L1 ++ [B]) := by simp
  have h1 := List.pairwise_cons.1 H.apart
  have h2 := List.pairwise_append.1 h1.2
  refine ⟨H.ext, ?_, ?_, ?_, ?_⟩
  · intro X hX
    rcases List.mem_append.1 hX with hX | hX
    · exact H.says X (by simp [hX])
    · rw [List.mem_singleton.1 hX]; exact hs
  · intro X hX i hi
    rcases List.mem_append.1 hX with hX | hX
    · exact H.lt X (by simp [hX]) i hi
    · rw [List.mem_singleton.1 hX] at hi
      rcases hf i hi with h | h
      · exact H.lt A hA i h
      · exact H.lt B hB i h
  · intro X hX i hi
    rcases List.mem_append.1 hX with hX | hX
    · exact H.own X (by simp [hX]) i hi
    · rw [List.mem_singleton.1 hX] at hi
      rcases hf i hi with h | h
      · exact H.own A hA i h
      · exact H.own B hB i h
  · refine List.pairwise_append.2 ⟨h2.1, List.pairwise_singleton _ _, fun X hX Y hY i hi hi' => ?_⟩
    rw [List.mem_singleton.1 hY] at hi'
    rcases hf i hi' with h | h
    · exact h1.1 X (by simp [hX]) i h hi
    · exact h2.2.2 X hX B (by simp) i hi h
theorem SH.addEmpty {M : Nat → Prop} {w0 w : World} {L : List Asr} (H : SH M w0 w L) (A : Asr) (hs : A.says w) (hf : ∀ i, ¬ A.fp i) : SH M w0 w (L ++ [A]) := by
  refine ⟨H.ext, ?_, ?_, ?_, ?_⟩
  · intro X hX
    rcases List.mem_append.1 hX with hX | hX
    · exact H.says X hX
    · rw [List.mem_singleton.1 hX]; exact hs
  · intro X hX i hi
    rcases List.mem_append.1 hX with hX | hX
    · exact H.lt X hX i hi
    · rw [List.mem_singleton.1 hX] at hi; exact absurd hi (hf i)
  · intro X hX i hi
    rcases List.mem_append.1 hX with hX | hX
    · exact H.own X hX i hi
    · rw [List.mem_singleton.1 hX] at hi; exact absurd hi (hf i)
  · refine List.pairwise_append.2 ⟨H.apart, List.pairwise_singleton _ _, fun X hX Y hY i hi hi' => ?_⟩
    rw [List.mem_singleton.1 hY] at hi'
    exact hf i hi'

section
variable {P : Program} {w w0 : World} {M : Nat → Prop} {L : List Asr} {a : Act} {o : Oper} {Q : Exit → Act → World → Prop} {K : Act → World → Prop}
/-- '[]byte(s)': bytes of the call's own. -/
theorem W_convBytes {src dst e : TypeId} {x : Operand} (ho : o.op = .convert src dst x) (H : SH M w0 w L) {ys : List Int} (hx : a.eval x = .string (strOfNums ys)) (hb : ∀ y ∈ ys, 0 ≤ y ∧ y ≤ 255)
    (hs : P.underlying src = some .string) (hd : P.underlying dst = some (.slice e)) (he : P.underlying e = some (.int .u8))
    (k : ∀ A c w', SH M w0 w' (bytesA [(.slice A ys.length c, ys)] :: L) → Ext0 w w' → K (a.put o.dst (.slice A ys.length c)) w') : o.wp P a w K Q := by
  have hr := Lib.run_convert_string_bytes (P := P) w src dst e (strOfNums ys) hs hd he
  have hE : Ext0 w (Lib.bytesWorld w e (strOfNums ys)) := ⟨by simp [Lib.bytesWorld, World.freeze, World.alloc, World.drew, -World.alloc_eq, -World.drew_eq], by simp [Lib.bytesWorld, World.freeze, World.alloc, World.drew, -World.alloc_eq, -World.drew_eq], by simp [Lib.bytesWorld, World.freeze, World.alloc, World.drew, -World.alloc_eq, -World.drew_eq], by rw [Lib.bytesWorld_size]; omega, fun i hi _ => Lib.bytesWorld_at_old w e _ i hi⟩
  have hsz := strOfNums_size ys
  have hcap : ys.length ≤ grownCap w (strOfNums ys).size 0 e := by rw [← hsz]; exact grownCap_ge _ _ _ _
  have hrd : RdS (encInt .u8) 1 (Lib.bytesWorld w e (strOfNums ys)) (.slice (some ⟨w.heap.size, 0, none⟩) ys.length (grownCap w (strOfNums ys).size 0 e)) ys :=
    ⟨_, _, rfl, hcap, .inr ⟨_, 0, _, _, _, rfl, Lib.bytesWorld_at_new w e _, fun j hj i hi => by
      obtain rfl : i = 0 := by omega
      have h1 := Lib.bytesWorld_cell w e (strOfNums ys) j (by rw [hsz]; exact hj)
      have h2 := cell_of_row _ w.heap.size j _ _ _ (Lib.bytesWorld_at_new w e (strOfNums ys))
      rw [h1] at h2
      rw [Nat.zero_add, Nat.mul_one, Nat.add_zero, ← h2]
      have h3 := hb ys[j] (List.getElem_mem hj)
      simp only [strOfNums, encInt, List.getD_eq_getElem?_getD, List.getElem?_map, List.getElem?_eq_getElem hj, Option.map_some, Option.getD_some, UInt8.toNat_ofNat', List.getElem?_cons_zero]
      congr 2
      omega⟩⟩
  unfold Oper.wp execOp
  simp only [ho, hx, Sem.run_bind, Sem.run_pure, Result.andThen_ok, hr, hsz]
  refine k _ _ _ (H.add hE _ ?_ ?_) hE
  · intro p hp
    rw [List.mem_singleton.1 hp]
    rw [hsz] at hrd
    exact hrd
  · intro i hi
    obtain ⟨p, hp, off, n, c, he2⟩ := hi
    rw [List.mem_singleton.1 hp] at he2
    simp only [Value.slice.injEq, Option.some.injEq, Addr.mk.injEq] at he2
    rw [← he2.1.1, Lib.bytesWorld_size]
    omega
end
theorem SH.mergeBA {M : Nat → Prop} {w0 w : World} {L1 : List Asr} {b1 b2 : List (Value × List Int)} (H : SH M w0 w (bytesA b1 :: (L1 ++ [bytesA b2]))) : SH M w0 w (L1 ++ [bytesA (b1 ++ b2)]) := by
  have h1 : (bytesA b1).says w := H.says _ (by simp)
  have h2 : (bytesA b2).says w := H.says _ (by simp)
  refine SH.merge H (bytesA (b1 ++ b2)) (fun p hp => ?_) (fun i hi => ?_)
  · rcases List.mem_append.1 hp with hp | hp
    · exact h1 p hp
    · exact h2 p hp
  · obtain ⟨p, hp, q⟩ := hi
    rcases List.mem_append.1 hp with hp | hp
    · exact .inl ⟨p, hp, q⟩
    · exact .inr ⟨p, hp, q⟩
theorem be8_bytes (n : Int) : ∀ x ∈ be8 n, 0 ≤ x ∧ x ≤ 255 := by
  intro x hx
  simp only [be8, List.mem_cons, List.not_mem_nil, or_false] at hx
  rcases hx with rfl | rfl | rfl | rfl | rfl | rfl | rfl | rfl <;> omega
theorem encBlk_bytes {b : Blk} (h : b.Fit) : ∀ x ∈ encBlk b, 0 ≤ x ∧ x ≤ 255 := by
  intro x hx
  simp only [encBlk, List.mem_append, be2, List.mem_cons, List.not_mem_nil, or_false] at hx
  rcases hx with hx | hx | hx | hx | hx | (rfl | rfl) | hx
  · exact be8_bytes _ x hx
  · exact be8_bytes _ x hx
  · exact be8_bytes _ x hx
  · exact be8_bytes _ x hx
  · exact be8_bytes _ x hx
  · omega
  · omega
  · exact h.2 x hx
theorem encTab_bytes {t : Tab} (h : ∀ b ∈ t.bs, b.Fit) : ∀ x ∈ encTab t, 0 ≤ x ∧ x ≤ 255 := by
  intro x hx
  simp only [encTab, encHead, List.mem_append, List.mem_flatten, List.mem_map] at hx
  rcases hx with (hx | hx | hx | hx | hx | hx | hx) | ⟨l, ⟨b, hb, rfl⟩, hx⟩
  · exact be8_bytes _ x hx
  · exact be8_bytes _ x hx
  · exact be8_bytes _ x hx
  · exact be8_bytes _ x hx
  · exact be8_bytes _ x hx
  · exact be8_bytes _ x hx
  · exact be8_bytes _ x hx
  · exact encBlk_bytes (h b hb) x hx
/-- What Decode answers. -/
def decR (xs : List Int) : Tab × Int := match decTab xs with | none => (zeroT, 12) | some t => (t, 0)
def DecE (w : World) (xs : List Int) (e : Ending) (w' : World) : Prop :=
  ∃ bv ps, e = .returned (.tuple #[tabV (decR xs).1 bv, .int .i64 (decR xs).2]) ∧ ps.map (·.2) = (decR xs).1.bs ∧ BsR w' bv ps ∧ ps.length ≤ 12 ∧ (∀ b ∈ (decR xs).1.bs, b.Fit) ∧ Ext0 w w'
/-- Two results: a cell of the call's own and a slot. -/
theorem results_cell_tmp {P : Program} {fn : Func} {p q : Tmp} {ty : TypeId} (h : fn.results = #[.cell p ty, .tmp q]) (tmps : Array Value) (w : World) (g : Nat) (t : TypeId) (cs : Array Value) (fr : Nat × Nat) (d : TypeDesc)
    (hp : tmps.getD p undef = .pointer (some ⟨g, 0, none⟩)) (hg : w.heap[g]? = some (.cells cs t fr))
    (hu : P.underlying ty = some d) (hd : (match d with | .struct _ | .array _ _ => true | _ => false) = true) (hi : (P.info? ty).map (·.size) = some cs.size) :
    (results fn tmps).run P w = .ok (.tuple #[.agg cs, tmps.getD q undef]) w := by
  have hp' : tmps[p]?.getD undef = .pointer (some ⟨g, 0, none⟩) := by simpa using hp
  simp [results, h, hp', asAddr, run_loadVar_row w g t ty cs fr d hg hu hd hi]
theorem L_retrow2 {P : Program} {a : Act} {w w0 : World} {M : Nat → Prop} {L : List Asr} {fn : Func} {p q : Tmp} {ty : TypeId} (h : fn.results = #[.cell p ty, .tmp q]) {R : Ending → World → Prop} (H : SH M w0 w L) (i : Nat) {g : Nat} {cs : Array Value} {T : TypeId} {fr : Nat × Nat} {d : TypeDesc}
    (hp : a.tmps.getD p undef = .pointer (some ⟨g, 0, none⟩)) (hA : L[i]? = some (pt g (.cells cs T fr))) (hu : P.underlying ty = some d) (hd : (match d with | .struct _ | .array _ _ => true | _ => false) = true) {n : Nat} (hi : (P.info? ty).map (·.size) = some n) (hn : cs.size = n)
    (hdf : a.defers = []) {v : Value} (hq : a.tmps.getD q undef = v) (hR : R (.returned (.tuple #[.agg cs, v])) w) : bodyPost P fn R .ret a w :=
  bodyPost_ret (results_cell_tmp h a.tmps w g T cs fr d hp (H.at_ i hA) hu hd (by rw [hi, hn])) hdf (by rw [hq]; exact hR)
theorem own_form {w : World} {T : TypeId} {k : Nat} {v : Value} {n : Nat} {xs : List Value} (h : w.ownsRow 0 T k v n xs) (h0 : 0 < n) : ∃ g c, v = .slice (some ⟨g, 0, none⟩) n c := by
  rcases h.2 with ⟨_, h1⟩ | ⟨g, c, cur, h1, _⟩
  · omega
  · exact ⟨g, c, h1⟩
theorem infoBZ : (Try.prog.info? 45).map (fun i => (i.zero, i.size, i.bytes)) = some (some (.agg #[.int .i64 0, .int .i64 0, .int .i64 0, .int .i64 0, .int .i64 0, .slice none 0 0]), 6, 64) := by kernel_rfl
theorem oneBV {w : World} {g : Nat} {T : TypeId} {fr : Nat × Nat} {p : BV} (h : w.heap[g]? = some (.cells #[.int .i64 p.2.id, .int .i64 p.2.gen, .int .i64 p.2.at_, .int .i64 p.2.size, .int .i64 p.2.epoch, .slice p.1.1 p.2.wrap.length p.1.2] T fr)) : RdS bvCells 6 w (.slice (some ⟨g, 0, none⟩) 1 1) [p] :=
  ⟨_, 1, rfl, Nat.le_refl _, .inr ⟨g, 0, _, T, fr, rfl, h, fun j hj i hi => by
    obtain rfl : j = 0 := by simpa using hj
    match i, hi with
    | 0, _ => rfl
    | 1, _ => rfl
    | 2, _ => rfl
    | 3, _ => rfl
    | 4, _ => rfl
    | 5, _ => rfl⟩⟩
theorem rdW_fit {rd : Rd} (h : ∀ l, rd = some l → ∀ x ∈ l, 0 ≤ x ∧ x ≤ 255) : (rdW 72 rd).1.length ≤ 72 ∧ ∀ x ∈ (rdW 72 rd).1, 0 ≤ x ∧ x ≤ 255 := by
  cases rd with
  | none => simp [rdW]
  | some l =>
    have hl := h l rfl
    simp only [rdW]
    split
    · simp
    · split
      · simp
      · rename_i h1 h2
        refine ⟨by rw [List.length_take]; omega, fun x hx => hl x (List.mem_of_mem_drop (List.mem_of_mem_take hx))⟩
theorem clipBs_any (A : Option Addr) (n cap : Nat) (w : World) (h : n ≤ cap) (hn : n ≤ 1000000000) : Calls Try.prog 44 #[.slice A n cap] w fun e w' => e = .returned (.slice A n n) ∧ w' = w := by
  have hci : (n : Int) ≤ (cap : Int) := by omega
  go_enter Try.func44, Try.ntmps44
  go_wp2
  go_ret
  exact ⟨rfl, rfl⟩
theorem RdS.clip {α : Type} {enc : α → List Value} {k : Nat} {w : World} {A : Option Addr} {n c : Nat} {xs : List α} (h : RdS enc k w (.slice A n c) xs) : RdS enc k w (.slice A n n) xs := by
  obtain ⟨A', c', he, hc, hh⟩ := h
  cases he
  exact ⟨_, _, rfl, Nat.le_refl _, hh⟩
theorem DecE_none {w w' : World} {xs : List Int} (h : decR xs = (zeroT, 12)) (hE : Ext0 w w') : DecE w xs (.returned (.tuple #[.agg #[.int .i64 0, .int .i64 0, .int .i64 0, .int .i64 0, .int .i64 0, .int .i64 0, .slice none 0 0], .int .i64 12])) w' := by
  unfold DecE
  rw [h]
  exact ⟨.slice none 0 0, [], rfl, rfl, ⟨RdS.nil _ _ _, by simp⟩, by simp, by simp [zeroT], hE⟩
end Go.Proofs.Ytoaieodcdbbndaa
