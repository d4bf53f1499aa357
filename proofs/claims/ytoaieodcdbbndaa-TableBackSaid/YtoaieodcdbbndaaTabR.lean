/- A table as an argument. -/
import Derived.Test.YtoaieodcdbbndaaTabQ
import Derived.Test.YtoaieodcdbbndaaOpen
namespace Go.Proofs.Ytoaieodcdbbndaa
set_option linter.unusedVariables false
set_option linter.unusedSimpArgs false
open Go.RowKit Go.ChangeShapes Go.WideShapes

theorem wf_in {q : IntKind} {a : Int} (h : (Lit.int q a).wf = true) : q.min ≤ a ∧ a ≤ q.max := by simpa [Lit.wf] using h
theorem c1_u8 : Try.prog.cellsOf 5 = 1 := by kernel_rfl
theorem c1_int : Try.prog.cellsOf 3 = 1 := by kernel_rfl
theorem c1_bs : Try.prog.cellsOf 34 = 1 := by kernel_rfl
theorem c1_bks : Try.prog.cellsOf 22 = 1 := by kernel_rfl
theorem c6_blk : Try.prog.cellsOf 45 = 6 := by kernel_rfl
theorem c7_tab : Try.prog.cellsOf 24 = 7 := by kernel_rfl
section
variable {H : Type} {enc : TypeId × Value → H} {w : World}
theorem bytes_of (n : Nat) (cs : List Value) (x : DataW H × List MemPlace) (h : DataW.trod enc Try.prog w 0 (fun _ => true) true n 34 cs = some x) : ∃ A c xs, cs = [.slice A xs.length c] ∧ RdS (encInt .u8) 1 w (.slice A xs.length c) xs ∧ ∀ b ∈ xs, 0 ≤ b ∧ b ≤ 255 := by
  rcases DataW.trod_slice Try.underlying34 h with ⟨rfl, _⟩ | ⟨a, len, cap, _, _, _, _, rfl, _⟩
  · exact ⟨none, 0, [], rfl, RdS.nil _ _ _, by simp⟩
  · obtain ⟨d, pl⟩ := x
    obtain ⟨xs, hr, hb⟩ := rds_of_slice (enc' := encInt .u8) (k := 1) (Ok := fun b => 0 ≤ b ∧ b ≤ 255) (d := d) (ps := pl) Try.underlying34 c1_u8 (by omega) (fun n cs x h => by
      obtain ⟨a, e, _, wf⟩ := DataW.trod_int Try.underlying5 h
      exact ⟨a, e, wf_in wf⟩) ⟨n, h⟩
    obtain ⟨A, c, he, hc⟩ := hr.len
    rw [he] at hr ⊢
    exact ⟨A, c, xs, rfl, hr, hb⟩
set_option maxRecDepth 100000 in
theorem blk_of (n : Nat) (cs : List Value) (x : DataW H × List MemPlace) (h : DataW.trod enc Try.prog w 0 (fun _ => true) true n 45 cs = some x) : ∃ p : BV, cs = bvCells p ∧ (RdS (encInt .u8) 1 w p.wv p.2.wrap ∧ p.2.Num ∧ ∀ b ∈ p.2.wrap, 0 ≤ b ∧ b ≤ 255) := by
  obtain ⟨xs, m, _, _, hl, hlen, hf⟩ := DataW.trod_struct Try.underlying45 h
  rw [c6_blk] at hl
  match cs, hl, xs, hlen with
  | [c0, c1, c2, c3, c4, c5], _, [y0, y1, y2, y3, y4, y5], _ =>
    obtain ⟨a0, e0, _, w0⟩ := DataW.trod_int Try.underlying3 (hf 0 _ rfl)
    obtain ⟨a1, e1, _, w1⟩ := DataW.trod_int Try.underlying3 (hf 1 _ rfl)
    obtain ⟨a2, e2, _, w2⟩ := DataW.trod_int Try.underlying3 (hf 2 _ rfl)
    obtain ⟨a3, e3, _, w3⟩ := DataW.trod_int Try.underlying3 (hf 3 _ rfl)
    obtain ⟨a4, e4, _, w4⟩ := DataW.trod_int Try.underlying3 (hf 4 _ rfl)
    obtain ⟨A, c, ws, e5, hr, hb⟩ := bytes_of _ _ _ (hf 5 _ rfl)
    have g0 : c0 = .int .i64 a0 := by simpa [c1_int] using e0
    have g1 : c1 = .int .i64 a1 := by simpa [c1_int] using e1
    have g2 : c2 = .int .i64 a2 := by simpa [c1_int] using e2
    have g3 : c3 = .int .i64 a3 := by simpa [c1_int] using e3
    have g4 : c4 = .int .i64 a4 := by simpa [c1_int] using e4
    have g5 : c5 = .slice A ws.length c := by simpa [c1_bs] using e5
    subst g0 g1 g2 g3 g4 g5
    exact ⟨((A, c), ⟨a0, a1, a2, a3, a4, ws⟩), rfl, hr, ⟨wf_in w2, wf_in w3⟩, hb⟩
/-- What is known of a table that came in. -/
def TabIn (w : World) (v : Value) : Prop := ∃ (t : Tab) (bv : Value) (ps : List BV), v = tabV t bv ∧ ps.map (·.2) = t.bs ∧ BsR w bv ps ∧ ∀ b ∈ t.bs, b.Num ∧ ∀ x ∈ b.wrap, 0 ≤ x ∧ x ≤ 255
open Go.Joins in
set_option maxRecDepth 100000 in
theorem tab_arg {r : Reach} {base : Nat} {v : Value} {d : DataW H} {ps : List MemPlace} (hv : Value.okWide Try.prog w r base 24 v) (h : DataW.Trod enc Try.prog w 0 (fun _ => true) true 24 v d ps) : TabIn w v := by
  obtain ⟨cs, rfl, _⟩ := okWide_struct Try.underlying24 hv
  obtain ⟨n, hf0⟩ := h
  obtain ⟨xs, m, _, _, hl, hlen, hf⟩ := DataW.trod_struct Try.underlying24 hf0
  rw [c7_tab] at hl
  obtain ⟨cl, hcl⟩ : ∃ cl, (Value.agg cs).cells.toList = cl := ⟨_, rfl⟩
  have hcs : cs.toList = cl := hcl
  rw [hcl] at hl hf
  match cl, hl, xs, hlen with
  | [c0, c1, c2, c3, c4, c5, c6], _, [y0, y1, y2, y3, y4, y5, y6], _ =>
    obtain ⟨a0, e0, _, w0⟩ := DataW.trod_int Try.underlying3 (hf 0 _ rfl)
    obtain ⟨a1, e1, _, w1⟩ := DataW.trod_int Try.underlying3 (hf 1 _ rfl)
    obtain ⟨a2, e2, _, w2⟩ := DataW.trod_int Try.underlying3 (hf 2 _ rfl)
    obtain ⟨a3, e3, _, w3⟩ := DataW.trod_int Try.underlying3 (hf 3 _ rfl)
    obtain ⟨a4, e4, _, w4⟩ := DataW.trod_int Try.underlying3 (hf 4 _ rfl)
    obtain ⟨a5, e5, _, w5⟩ := DataW.trod_int Try.underlying3 (hf 5 _ rfl)
    have h6 := hf 6 _ rfl
    have g0 : c0 = .int .i64 a0 := by simpa [c1_int] using e0
    have g1 : c1 = .int .i64 a1 := by simpa [c1_int] using e1
    have g2 : c2 = .int .i64 a2 := by simpa [c1_int] using e2
    have g3 : c3 = .int .i64 a3 := by simpa [c1_int] using e3
    have g4 : c4 = .int .i64 a4 := by simpa [c1_int] using e4
    have g5 : c5 = .int .i64 a5 := by simpa [c1_int] using e5
    have h6' : DataW.trod enc Try.prog w 0 (fun _ => true) true m 22 [c6] = some y6 := by simpa [c1_bks] using h6
    have hblocks : ∃ bv ps, c6 = bv ∧ RdS bvCells 6 w bv ps ∧ ∀ p ∈ ps, RdS (encInt .u8) 1 w p.wv p.2.wrap ∧ p.2.Num ∧ ∀ b ∈ p.2.wrap, 0 ≤ b ∧ b ≤ 255 := by
      rcases DataW.trod_slice Try.underlying22 h6' with ⟨h7, _⟩ | ⟨a, len, cap, _, _, _, _, h7, _⟩
      · exact ⟨.slice none 0 0, [], by simpa using h7, RdS.nil _ _ _, by simp⟩
      · have h8 : c6 = .slice (some a) len cap := by simpa using h7
        subst h8
        obtain ⟨yd, yp⟩ := y6
        obtain ⟨ps, hr, hp⟩ := rds_of_slice (enc' := bvCells) (k := 6) (Ok := fun p => RdS (encInt .u8) 1 w p.wv p.2.wrap ∧ p.2.Num ∧ ∀ b ∈ p.2.wrap, 0 ≤ b ∧ b ≤ 255) (d := yd) (ps := yp) Try.underlying22 c6_blk (by omega) blk_of ⟨m, h6'⟩
        exact ⟨_, ps, rfl, hr, hp⟩
    obtain ⟨bv, ps, rfl, hr, hp⟩ := hblocks
    subst g0 g1 g2 g3 g4 g5
    refine ⟨⟨a0, a1, a2, a3, a4, a5, ps.map (·.2)⟩, c6, ps, ?_, rfl, ⟨hr, fun p h => (hp p h).1⟩, fun b hb => ?_⟩
    · unfold tabV
      congr 1
      exact Array.toList_inj.1 hcs
    · obtain ⟨p, hpm, rfl⟩ := List.mem_map.1 hb
      exact (hp p hpm).2
end
end Go.Proofs.Ytoaieodcdbbndaa
