/- Catalogues: Clone, Clip. -/
import Derived.Test.YtmfcccflohpjiaaGreatDoorCatS
namespace Go.Proofs.YtmfcccflohpjiaaGreatDoor
set_option linter.unusedVariables false
set_option linter.unusedSimpArgs false
open Go.RowKit

def GivesOwn {α : Type} (T : TypeId) (k : Nat) (enc : α → List Value) (w : World) (xs : List α) (e : Ending) (w' : World) : Prop := ∃ v, e = .returned v ∧ w'.ownsRow w.heap.size T k v xs.length (cellsOf enc xs) ∧ Ext0 w w'
set_option maxRecDepth 100000 in
set_option maxHeartbeats 1000000 in
theorem cloneE_any (v : Value) (ps : List Ent) (w : World) (hr : RdS eCells 6 w v ps) (hn : ps.length ≤ 1000000) : Calls Tryz.prog 45 #[v] w (GivesOwn 39 6 eCells w ps) := by
  obtain ⟨A, cap, rfl, hcap⟩ := hr.len
  have H : SH (fun _ => False) w w [] := SH.nil _ _
  cases A with
  | none =>
    have hx : ps = [] := by
      obtain ⟨A', c, he, hc, h | ⟨b, off, cs, T, fr, h, _⟩⟩ := hr
      · exact h
      · cases he; cases h
    subst hx
    clear hr hcap
    have he := fun w => Lib.run_eql_slice_nil (P := Tryz.prog) w 22 39 none 0 cap 0 0 Tryz.underlying22
    go_enter Tryz.func45, Tryz.ntmps45
    go_wp2
    go_ret
    exact ⟨_, rfl, World.ownsRow_nil _ _ _ _, Ext.refl _ _⟩
  | some ad =>
    have hb1 : (0 + ps.length) * 56 ≤ 140737488355328 := by omega
    have hb2 : 0 + ps.length ≤ maxLen := by simp only [maxLen]; omega
    have he := fun w => Lib.run_eql_slice_nil (P := Tryz.prog) w 22 39 (some ad) ps.length cap 0 0 Tryz.underlying22
    go_enter Tryz.func45, Tryz.ntmps45
    go_wp2_with (first
      | (refine L_litE (e := 39) (cs := #[]) rfl rfl H (by intro _; first | (go_simp; done) | (go_simp; rfl)) ?_; clear H; intro g2 w H hEx; clear hEx; replace H := H.toOwn 0 rfl 6 0 0 (Nat.le_refl _) (Nat.zero_le _) rfl [] rfl; simp only [List.set_cons_zero] at H)
      | (refine L_append eLen eOne rfl rfl Tryz.underlying22 infoEZ rfl (by decide) H 0 rfl rfl rfl (hr.keep H.ext) hb1 hb2 ?_; clear H; intro v2 w H hnn; clear hnn; simp only [List.set_cons_zero, List.nil_append, Nat.zero_add] at H))
    go_ret
    exact ⟨_, rfl, H.retOwn 0 rfl (fun _ _ h => h), H.ext⟩
end Go.Proofs.YtmfcccflohpjiaaGreatDoor
