/- Deeds of chapter 16: what lies in memory. -/
import Derived.Test.YtgmeahogdjhejaaGreatDoorWalRm
namespace Go.Proofs.YtgmeahogdjhejaaGreatDoor
set_option linter.unusedVariables false
set_option linter.unusedSimpArgs false
open Go.RowKit Go.Shelf

structure D16 where
  kind : Int
  b : List Int
  x : Int
  y : Int
  z : Int
/-- A deed with its slice. -/
abbrev DV := (Option Addr × Nat) × D16
def DV.wv (p : DV) : Value := .slice p.1.1 p.2.b.length p.1.2
def dvCells (p : DV) : List Value := [.int .u8 p.2.kind, p.wv, .int .i64 p.2.x, .int .i64 p.2.y, .int .i64 p.2.z]
theorem dvLen (p : DV) : (dvCells p).length = 5 := rfl
def I64 (n : Int) : Prop := -9223372036854775808 ≤ n ∧ n ≤ 9223372036854775807
structure D16.Ok (d : D16) : Prop where
  kind : 0 ≤ d.kind ∧ d.kind ≤ 255
  b : ∀ x ∈ d.b, 0 ≤ x ∧ x ≤ 255
  x : I64 d.x
  y : I64 d.y
  z : I64 d.z
/-- The slice v holds these deeds. -/
structure DvR (w : World) (v : Value) (ps : List DV) : Prop where
  row : RdS dvCells 5 w v ps
  bs : ∀ p ∈ ps, RdS (encInt .u8) 1 w p.wv p.2.b
  ok : ∀ p ∈ ps, p.2.Ok
theorem DvR.keep {w w' : World} {v : Value} {ps : List DV} (h : DvR w v ps) (e : Ext0 w w') : DvR w' v ps := ⟨h.row.keep e, fun p hp => (h.bs p hp).keep e, h.ok⟩
theorem DvR.cells {w : World} {A : Option Addr} {n cap : Nat} {ps : List DV} (h : DvR w (.slice A n cap) ps) {i : Nat} (hi : i < ps.length) {p : DV} (hp : ps[i] = p) :
    ∃ b off, A = some ⟨b, off, none⟩ ∧ ∀ k, k < 5 → w.cell? ⟨b, off + i * 5 + k, none⟩ = (dvCells p)[k]? := by
  obtain ⟨b, off, cs, T, fr, he, hb, hcs⟩ := h.row.cell hi
  cases he
  refine ⟨b, off, rfl, fun k hk => ?_⟩
  rw [cell_of_row w b _ cs T fr hb, hcs k hk, hp]
def dvV (p : DV) : Value := .agg #[.int .u8 p.2.kind, p.wv, .int .i64 p.2.x, .int .i64 p.2.y, .int .i64 p.2.z]
/-- A journal's two assertions apart. -/
theorem SH.split {M : Nat → Prop} {w0 w : World} {L : List Asr} {b bs bm jb : Nat} {d : DS} {j : JS} (H : SH M w0 w (JD b bs bm jb d j :: L)) : SH M w0 w (DiskA b bs bm d :: pt jb (.cells (jCells b j) 76 (0, 0)) :: L) := by
  have hs := H.get 0 rfl
  have hap := List.pairwise_cons.1 H.apart
  refine ⟨H.ext, fun A hA => ?_, fun A hA i hi => ?_, fun A hA i hi => ?_, ?_⟩
  · rcases List.mem_cons.1 hA with rfl | hA
    · exact hs.1
    · rcases List.mem_cons.1 hA with rfl | hA
      · exact hs.2.1
      · exact H.says A (List.mem_cons_of_mem _ hA)
  · rcases List.mem_cons.1 hA with rfl | hA
    · exact JD.lt hs (.inl hi)
    · rcases List.mem_cons.1 hA with rfl | hA
      · exact JD.lt hs (.inr hi)
      · exact H.lt A (List.mem_cons_of_mem _ hA) i hi
  · rcases List.mem_cons.1 hA with rfl | hA
    · exact H.own _ List.mem_cons_self i (.inl hi)
    · rcases List.mem_cons.1 hA with rfl | hA
      · exact H.own _ List.mem_cons_self i (.inr hi)
      · exact H.own A (List.mem_cons_of_mem _ hA) i hi
  · refine List.pairwise_cons.2 ⟨fun A hA i hi hi' => ?_, List.pairwise_cons.2 ⟨fun A hA i hi hi' => ?_, hap.2⟩⟩
    · rcases List.mem_cons.1 hA with rfl | hA
      · simp only [pt_fp] at hi'
        subst hi'
        exact hs.2.2 hi
      · exact hap.1 A hA i (.inl hi) hi'
    · exact hap.1 A hA i (.inr hi) hi'
end Go.Proofs.YtgmeahogdjhejaaGreatDoor
