/- Journals: deeds as arguments. -/
import Derived.Test.YtgmeahogdjhejaaDoorWalAr
import Derived.Test.YtgmeahogdjhejaaDoorWalDd
namespace Go.Proofs.YtgmeahogdjhejaaDoor
set_option linter.unusedVariables false
set_option linter.unusedSimpArgs false
open Go.RowKit Go.ChangeShapes Go.WideShapes Go.Deep

theorem c1_int : Tryd.prog.cellsOf 3 = 1 := by kernel_rfl
theorem c1_bs : Tryd.prog.cellsOf 23 = 1 := by kernel_rfl
theorem c5_deed : Tryd.prog.cellsOf 46 = 5 := by kernel_rfl
section
variable {H : Type} {enc : TypeId × Value → H} {w : World}
theorem bytes_of (n : Nat) (cs : List Value) (x : DataW H × List MemPlace) (h : DataW.trod enc Tryd.prog w 0 (fun _ => true) true n 23 cs = some x) : ∃ A c xs, cs = [.slice A xs.length c] ∧ RdS (encInt .u8) 1 w (.slice A xs.length c) xs ∧ ∀ b ∈ xs, (0 : Int) ≤ b ∧ b ≤ 255 := by
  rcases DataW.trod_slice Tryd.underlying23 h with ⟨rfl, _⟩ | ⟨a, len, cap, _, _, _, _, rfl, _⟩
  · exact ⟨none, 0, [], rfl, RdS.nil _ _ _, by simp⟩
  · obtain ⟨d, pl⟩ := x
    obtain ⟨xs, hr, hb⟩ := rds_of_slice (enc' := encInt .u8) (k := 1) (Ok := fun b => 0 ≤ b ∧ b ≤ 255) (d := d) (ps := pl) Tryd.underlying23 c1_u8 (by omega) (fun n cs x h => by
      obtain ⟨a, e, _, wf⟩ := DataW.trod_int Tryd.underlying5 h
      exact ⟨a, e, wf_in wf⟩) ⟨n, h⟩
    obtain ⟨A, c, he, hc⟩ := hr.len
    rw [he] at hr ⊢
    exact ⟨A, c, xs, rfl, hr, hb⟩
set_option maxRecDepth 100000 in
theorem dv_of (n : Nat) (cs : List Value) (x : DataW H × List MemPlace) (h : DataW.trod enc Tryd.prog w 0 (fun _ => true) true n 46 cs = some x) : ∃ p : DV, cs = dvCells p ∧ (RdS (encInt .u8) 1 w p.wv p.2.b ∧ p.2.Ok) := by
  obtain ⟨xs, m, _, _, hl, hlen, hf⟩ := DataW.trod_struct Tryd.underlying46 h
  rw [c5_deed] at hl
  match cs, hl, xs, hlen with
  | [c0, c1, c2, c3, c4], _, [y0, y1, y2, y3, y4], _ =>
    obtain ⟨a0, e0, _, w0⟩ := DataW.trod_int Tryd.underlying5 (hf 0 _ rfl)
    obtain ⟨A, c, ws, e1, hr, hb⟩ := bytes_of _ _ _ (hf 1 _ rfl)
    obtain ⟨a2, e2, _, w2⟩ := DataW.trod_int Tryd.underlying3 (hf 2 _ rfl)
    obtain ⟨a3, e3, _, w3⟩ := DataW.trod_int Tryd.underlying3 (hf 3 _ rfl)
    obtain ⟨a4, e4, _, w4⟩ := DataW.trod_int Tryd.underlying3 (hf 4 _ rfl)
    have g0 : c0 = .int .u8 a0 := by simpa [c1_u8] using e0
    have g1 : c1 = .slice A ws.length c := by simpa [c1_bs, c1_u8] using e1
    have g2 : c2 = .int .i64 a2 := by simpa [c1_int, c1_bs, c1_u8] using e2
    have g3 : c3 = .int .i64 a3 := by simpa [c1_int, c1_bs, c1_u8] using e3
    have g4 : c4 = .int .i64 a4 := by simpa [c1_int, c1_bs, c1_u8] using e4
    subst g0 g1 g2 g3 g4
    exact ⟨((A, c), ⟨a0, ws, a2, a3, a4⟩), rfl, hr, ⟨wf_in w0, hb, wf_in w2, wf_in w3, wf_in w4⟩⟩
set_option maxRecDepth 100000 in
theorem deeds16_arg {r : Reach} {base : Nat} {v : Value} {d : DataW H} {ps : List MemPlace} (hv : Value.okWide Tryd.prog w r base 43 v) (h : DataW.Trod enc Tryd.prog w 0 (fun _ => true) true 43 v d ps) : ∃ qs : List DV, DvR w v qs ∧ True := by
  obtain ⟨A, len, cap, rfl⟩ := okWide_slice Tryd.underlying43 hv
  obtain ⟨qs, hr, hq⟩ := rds_of_slice (enc' := dvCells) (k := 5) (Ok := fun p => RdS (encInt .u8) 1 w p.wv p.2.b ∧ p.2.Ok) Tryd.underlying43 c5_deed (by omega) dv_of h
  exact ⟨qs, ⟨hr, fun p hp => (hq p hp).1, fun p hp => (hq p hp).2⟩, trivial⟩
open Go.Joins in
set_option maxRecDepth 100000 in
theorem deed16_arg {r : Reach} {base : Nat} {v : Value} {d : DataW H} {ps : List MemPlace} (hv : Value.okWide Tryd.prog w r base 46 v) (h : DataW.Trod enc Tryd.prog w 0 (fun _ => true) true 46 v d ps) :
    ∃ q : DV, v = dvV q ∧ (RdS (encInt .u8) 1 w q.wv q.2.b ∧ q.2.Ok) := by
  obtain ⟨cs, rfl, _⟩ := okWide_struct Tryd.underlying46 hv
  obtain ⟨n, hf⟩ := h
  obtain ⟨p, hp, hq⟩ := dv_of n _ _ hf
  refine ⟨p, ?_, hq⟩
  unfold dvV
  congr 1
  exact Array.toList_inj.1 hp
end
end Go.Proofs.YtgmeahogdjhejaaDoor
