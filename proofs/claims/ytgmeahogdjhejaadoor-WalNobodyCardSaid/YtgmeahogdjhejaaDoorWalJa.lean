/- Journals that are opened, among other assertions; the words of the laws. -/
import Derived.Test.YtgmeahogdjhejaaDoorWalY
import Derived.Test.YtgmeahogdjhejaaDoorWalU
import Derived.Test.YtgmeahogdjhejaaDoorWalSm
namespace Go.Proofs.YtgmeahogdjhejaaDoor
set_option linter.unusedVariables false
set_option linter.unusedSimpArgs false
open Go.RowKit Go.Shelf

theorem L_value {P : Program} {ops : Array Oper} {Q : Exit → Act → World → Prop} {rest : List Oper} {a : Act} {w : World} {o : Oper} (hgd : o.guard = none) {v : Value} (hr : (execOp a.eval o).run P w = .ok (.value v) w) (k : wpList P ops Q rest (a.put o.dst v) w) : wpList P ops Q (o :: rest) a w :=
  wpList_plain hgd fun K hK => wp_of_value hr (hK _ _ k)
section
variable {M : Nat → Prop} {w0 w : World} {L : List Asr} {b bs bm jb : Nat} {d : DS} {j : JS}
theorem SH.glue2 {A B D : Asr} (H : SH M w0 w (A :: B :: L)) (hs : D.says w) (hf : ∀ i, D.fp i → A.fp i ∨ B.fp i) : SH M w0 w (D :: L) := by
  have ha := H.apart
  simp only [List.pairwise_cons, List.mem_cons] at ha
  refine ⟨H.ext, fun X hX => ?_, fun X hX i hi => ?_, fun X hX i hi => ?_, List.pairwise_cons.2 ⟨fun X hX i hi hi' => ?_, ha.2.2⟩⟩
  · rcases List.mem_cons.1 hX with rfl | hX
    · exact hs
    · exact H.says X (List.mem_cons_of_mem _ (List.mem_cons_of_mem _ hX))
  · rcases List.mem_cons.1 hX with rfl | hX
    · rcases hf i hi with h | h
      · exact H.lt A List.mem_cons_self i h
      · exact H.lt B (List.mem_cons_of_mem _ List.mem_cons_self) i h
    · exact H.lt X (List.mem_cons_of_mem _ (List.mem_cons_of_mem _ hX)) i hi
  · rcases List.mem_cons.1 hX with rfl | hX
    · rcases hf i hi with h | h
      · exact H.own A List.mem_cons_self i h
      · exact H.own B (List.mem_cons_of_mem _ List.mem_cons_self) i h
    · exact H.own X (List.mem_cons_of_mem _ (List.mem_cons_of_mem _ hX)) i hi
  · rcases hf i hi with h | h
    · exact ha.1 X (.inr hX) i h hi'
    · exact ha.2.1 X hX i h hi'
/-- What Open answers, come to a list whose head is the disk. -/
theorem SH.opened {w' : World} {vs vl : Value} {st : List Int} {ps : List ((Option Addr × Nat × Nat) × List Int)} (H : SH M w0 w (DiskA b bs bm d :: L)) (h : SH (fun _ => False) w w' [rowsA ps, ownA 23 1 vl ps.length (cellsOf encSl (ps.map (·.1))), JA b jb j, rdA vs st]) :
    SH M w0 w' (JD b bs bm jb d j :: rowsA ps :: ownA 23 1 vl ps.length (cellsOf encSl (ps.map (·.1))) :: rdA vs st :: L) := by
  have K := H.cat h
  simp only [List.cons_append, List.nil_append] at K
  have K2 : SH M w0 w' (JA b jb j :: DiskA b bs bm d :: rowsA ps :: ownA 23 1 vl ps.length (cellsOf encSl (ps.map (·.1))) :: rdA vs st :: L) := by
    exact K.perm ((List.perm_middle (l₁ := [_, _])).trans (.cons _ (List.perm_middle (l₁ := [_, _, _])))).symm
  exact K2.glue2 (JD.shut K2) (fun i hi => hi.elim .inr .inl)
/-- The old journal let go. -/
theorem SH.undisk (H : SH M w0 w (JD b bs bm jb d j :: L)) : SH M w0 w (DiskA b bs bm d :: L) :=
  H.head (Ext.refl _ _) (H.get 0 rfl).1 (fun i hi => ⟨.inl (.inl hi), JD.lt (H.get 0 rfl) (.inl hi)⟩)
/-- What is done to the disk alone. -/
theorem SH.jdisk (H : SH M w0 w (JD b bs bm jb d j :: L)) {w' : World} {d' : DS} (he : Ext (DiskA b bs bm d).fp w w') (hs : (DiskA b bs bm d').says w') : SH M w0 w' (JD b bs bm jb d' j :: L) := by
  have h0 := H.get 0 rfl
  refine H.jd 0 rfl (he.mono (fun i _ hi => .inl hi)) ⟨hs, he.keep h0.2.1 (fun h => h0.2.2 h), h0.2.2⟩
theorem opened_some {b : Nat} {j : JS} {st : List Int} {xss : List (List Int)} {w : World} {e : Ending} {w' : World} (h : OpenE b (some (j, st, xss)) w e w') :
    ∃ jb vs vl ps, e = .returned (.tuple #[.pointer (some ⟨jb, 0, none⟩), vs, vl, .int .i64 0]) ∧ ps.map (·.2) = xss ∧ SH (fun _ => False) w w' [rowsA ps, ownA 23 1 vl ps.length (cellsOf encSl (ps.map (·.1))), JA b jb j, rdA vs st] := by
  rcases h with ⟨h, _⟩ | ⟨j', st', xss', jb, vs, vl, ps, h, he, hp, hS⟩
  · cases h
  · cases h
    exact ⟨jb, vs, vl, ps, he, hp, hS⟩
end
theorem one_byte {w : World} {g : Nat} {T : TypeId} {fr : Nat × Nat} {x : Int} (h : w.heap[g]? = some (.cells #[.int .u8 x] T fr)) : RdS (encInt .u8) 1 w (.slice (some ⟨g, 0, none⟩) 1 1) [x] := by
  refine ⟨_, 1, rfl, Nat.le_refl _, .inr ⟨g, 0, _, T, fr, rfl, h, fun j hj i hi => ?_⟩⟩
  obtain rfl : j = 0 := by simpa using hj
  obtain rfl : i = 0 := by omega
  rfl
end Go.Proofs.YtgmeahogdjhejaaDoor
