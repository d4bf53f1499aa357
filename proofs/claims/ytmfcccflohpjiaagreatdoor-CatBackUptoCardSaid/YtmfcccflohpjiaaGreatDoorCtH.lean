/- Catalogues: arguments. -/
import Derived.Test.YtmfcccflohpjiaaGreatDoorCtD
import Derived.Test.YtmfcccflohpjiaaGreatDoorOpen
import Derived.Test.YtmfcccflohpjiaaGreatDoorCards
import Derived.Test.YtmfcccflohpjiaaGreatDoorTie
import Derived.WalkKit
import Derived.ProofKit
import Derived.OpenShut
import Derived.ShutString
import Derived.ChangeOld
import Derived.Below
import Derived.Deep.DeepHandedRow
import Derived.Lib.LaidTab
namespace Go.Proofs.YtmfcccflohpjiaaGreatDoor
set_option linter.unusedVariables false
set_option linter.unusedSimpArgs false
open Go.RowKit Go.ChangeShapes Go.WideShapes Go.Deep

theorem wf_in {q : IntKind} {a : Int} (h : (Lit.int q a).wf = true) : q.min ≤ a ∧ a ≤ q.max := by simpa [Lit.wf] using h
theorem c1_u8 : Tryz.prog.cellsOf 5 = 1 := by kernel_rfl
theorem c1_int : Tryz.prog.cellsOf 3 = 1 := by kernel_rfl
theorem c1_str : Tryz.prog.cellsOf 9 = 1 := by kernel_rfl
theorem c6_ent : Tryz.prog.cellsOf 39 = 6 := by kernel_rfl
/-- A slice of structs as a list, each element with what it reads as. -/
theorem rds_of_sliceD {α H : Type} {enc' : α → List Value} {k : Nat} {Ok : α → DataW H → Prop} {enc : TypeId × Value → H} {P : Program} {w : World} {t e : TypeId} {A : Option Addr} {len cap : Nat} {d : DataW H} {ps : List MemPlace}
    (ht : P.underlying t = some (.slice e)) (hk : P.cellsOf e = k) (hk0 : 0 < k) (hel : ∀ (n : Nat) cs (x : DataW H × List MemPlace), DataW.trod enc P w 0 (fun _ => true) true n e cs = some x → ∃ y : α, cs = enc' y ∧ Ok y x.1)
    (h : DataW.Trod enc P w 0 (fun _ => true) true t (.slice A len cap) d ps) : ∃ xs : List α, RdS enc' k w (.slice A len cap) xs ∧ ∀ x ∈ xs, ∃ D es sp, Ok x D ∧ d = .slice es sp ∧ D ∈ es := by
  obtain ⟨fuel, hf⟩ := h
  rcases open_slice ht hf with ⟨hcs, _⟩ | ⟨a, len', cap', m, n, D, Pl, hcs, _, hl, _, hm, hd, hall⟩
  · simp [Value.cells] at hcs
    obtain ⟨rfl, rfl, rfl⟩ := hcs
    exact ⟨[], RdS.nil _ _ _, by simp⟩
  · simp [Value.cells] at hcs
    obtain ⟨rfl, rfl, rfl⟩ := hcs
    obtain ⟨b, off, spot⟩ := a
    obtain ⟨xs, hxl, hxs⟩ := list_of (p := fun i (y : α) => w.cells? 0 ((⟨b, off, spot⟩ : Addr).add (i * k)) k = some (enc' y) ∧ Ok y (D i)) len (fun i hi => by
      obtain ⟨cs', h1, h2⟩ := hall i (by simp_all; omega)
      obtain ⟨y, rfl, hy⟩ := hel n cs' _ h2
      rw [hk] at h1
      exact ⟨y, h1, hy⟩)
    subst hxl
    have hcells : ∀ i (hi : i < xs.length) j, j < k → w.cell? ((⟨b, off, spot⟩ : Addr).add (i * k + j)) = (enc' xs[i])[j]? ∧ (enc' xs[i]).length = k := fun i hi j hj => by
      obtain ⟨h1, h2⟩ := hxs i xs[i] (List.getElem?_eq_getElem hi)
      obtain ⟨_, h3, h4⟩ := World.cells?_some h1
      rw [← add_add]
      exact ⟨h4 j hj, h3⟩
    refine ⟨xs, ?_, fun x hx => ?_⟩
    · by_cases hne : xs = []
      · subst hne; exact ⟨_, cap, rfl, hl, .inl rfl⟩
      · have h0 : 0 < xs.length := List.length_pos_iff.2 hne
        have hc0 := hcells 0 h0 0 hk0
        have hsp : spot = none := by
          obtain ⟨v, hv⟩ : ∃ v, (enc' xs[0])[0]? = some v := ⟨_, List.getElem?_eq_getElem (by rw [hc0.2]; exact hk0)⟩
          have := hc0.1.trans hv
          have h5 := World.cell?_spot this
          simpa [Addr.add] using h5
        subst hsp
        have hplain : ∀ j, (⟨b, off, none⟩ : Addr).add j = ⟨b, off + j, none⟩ := fun j => by by_cases hj : j = 0 <;> simp [Addr.add, hj]
        obtain ⟨v, hv⟩ : ∃ v, (enc' xs[0])[0]? = some v := ⟨_, List.getElem?_eq_getElem (by rw [hc0.2]; exact hk0)⟩
        have h6 := hc0.1.trans hv
        rw [hplain] at h6
        obtain ⟨cs, T, fr, hb, _⟩ := cell_inv h6
        refine ⟨_, cap, rfl, hl, .inr ⟨b, off, cs, T, fr, rfl, hb, fun j hj i hi => ?_⟩⟩
        rw [← (hcells j hj i hi).1, hplain, cell_of_row w b _ cs T fr hb, Nat.add_assoc]
    · obtain ⟨i, hi, rfl⟩ := List.mem_iff_getElem.1 hx
      simp only [Prod.mk.injEq] at hd
      exact ⟨D i, _, _, (hxs i xs[i] (List.getElem?_eq_getElem hi)).2, hd.1, List.mem_map.2 ⟨i, List.mem_range.2 hi, rfl⟩⟩
section
variable {H : Type} {enc : TypeId × Value → H} {w : World}
def EntIn (y : Ent) (D : DataW H) : Prop := (Rng y.mode ∧ Rng y.time ∧ Rng y.block ∧ Rng y.at_ ∧ Rng y.size) ∧ ∃ parts, D = .agg parts ∧ DataW.lit (.string y.path.data.toList) ∈ parts
theorem rng_wf {a : Int} (h : (Lit.int .i64 a).wf = true) : Rng a := by
  have := wf_in h
  simp [IntKind.min, IntKind.max, IntKind.bits, IntKind.signed] at this
  unfold Rng
  omega
set_option maxRecDepth 100000 in
theorem ent_of (n : Nat) (cs : List Value) (x : DataW H × List MemPlace) (h : DataW.trod enc Tryz.prog w 0 (fun _ => true) true n 39 cs = some x) : ∃ y : Ent, cs = eCells y ∧ EntIn y x.1 := by
  obtain ⟨xs, m, _, hx, hl, hlen, hf⟩ := DataW.trod_struct Tryz.underlying39 h
  rw [c6_ent] at hl
  match cs, hl, xs, hlen with
  | [c0, c1, c2, c3, c4, c5], _, [y0, y1, y2, y3, y4, y5], _ =>
    obtain ⟨s, e0, w0, _⟩ := DataW.trod_string Tryz.underlying9 (hf 0 _ rfl)
    obtain ⟨a1, e1, _, w1⟩ := DataW.trod_int Tryz.underlying3 (hf 1 _ rfl)
    obtain ⟨a2, e2, _, w2⟩ := DataW.trod_int Tryz.underlying3 (hf 2 _ rfl)
    obtain ⟨a3, e3, _, w3⟩ := DataW.trod_int Tryz.underlying3 (hf 3 _ rfl)
    obtain ⟨a4, e4, _, w4⟩ := DataW.trod_int Tryz.underlying3 (hf 4 _ rfl)
    obtain ⟨a5, e5, _, w5⟩ := DataW.trod_int Tryz.underlying3 (hf 5 _ rfl)
    have g0 : c0 = .string s := by simpa [c1_str] using e0
    have g1 : c1 = .int .i64 a1 := by simpa [c1_int] using e1
    have g2 : c2 = .int .i64 a2 := by simpa [c1_int] using e2
    have g3 : c3 = .int .i64 a3 := by simpa [c1_int] using e3
    have g4 : c4 = .int .i64 a4 := by simpa [c1_int] using e4
    have g5 : c5 = .int .i64 a5 := by simpa [c1_int] using e5
    subst g0 g1 g2 g3 g4 g5
    refine ⟨⟨s, a1, a2, a3, a4, a5⟩, rfl, ⟨rng_wf w1, rng_wf w2, rng_wf w3, rng_wf w4, rng_wf w5⟩, _, by rw [hx], ?_⟩
    rw [w0]
    exact List.mem_cons_self
set_option maxRecDepth 100000 in
theorem ents_arg {r : Reach} {base : Nat} {v : Value} {d : DataW H} {ps : List MemPlace} (hv : Value.okWide Tryz.prog w r base 22 v) (h : DataW.Trod enc Tryz.prog w 0 (fun _ => true) true 22 v d ps) :
    ∃ xs : List Ent, RdS eCells 6 w v xs ∧ ∀ x ∈ xs, ∃ D es sp, EntIn x D ∧ d = .slice es sp ∧ D ∈ es := by
  obtain ⟨A, len, cap, rfl⟩ := okWide_slice Tryz.underlying22 hv
  exact rds_of_sliceD Tryz.underlying22 c6_ent (by omega) ent_of h
open Go.Joins in
set_option maxRecDepth 100000 in
theorem ent_arg {r : Reach} {base : Nat} {v : Value} {d : DataW H} {ps : List MemPlace} (hv : Value.okWide Tryz.prog w r base 39 v) (h : DataW.Trod enc Tryz.prog w 0 (fun _ => true) true 39 v d ps) : ∃ x : Ent, v = entV x := by
  obtain ⟨cs, rfl, _⟩ := okWide_struct Tryz.underlying39 hv
  obtain ⟨n, hf⟩ := h
  obtain ⟨p, hp, _⟩ := ent_of n _ _ hf
  refine ⟨p, ?_⟩
  unfold entV
  congr 1
  exact Array.toList_inj.1 hp
set_option maxRecDepth 100000 in
theorem bytes_arg {r : Reach} {base : Nat} {v : Value} {d : DataW H} {ps : List MemPlace} (hv : Value.okWide Tryz.prog w r base 23 v) (h : DataW.Trod enc Tryz.prog w 0 (fun _ => true) true 23 v d ps) : ∃ xs : List Int, RdS (encInt .u8) 1 w v xs ∧ ∀ x ∈ xs, 0 ≤ x ∧ x ≤ 255 := by
  obtain ⟨A, len, cap, rfl⟩ := okWide_slice Tryz.underlying23 hv
  exact rds_of_slice (enc' := encInt .u8) (k := 1) (Ok := fun b => 0 ≤ b ∧ b ≤ 255) Tryz.underlying23 c1_u8 (by omega) (fun n cs x h => by
    obtain ⟨a, e, _, wf⟩ := DataW.trod_int Tryz.underlying5 h
    exact ⟨a, e, wf_in wf⟩) h
/-- A part's bulk is at most the whole's. -/
theorem part_le {d : DataW H} {l : List (DataW H)} (h : d ∈ l) : Rows.uptoBulk d ≤ Rows.uptoBulkAll l := by
  induction l with
  | nil => cases h
  | cons x r ih =>
    simp only [Rows.uptoBulkAll]
    cases List.mem_cons.1 h with
    | inl e => subst e; omega
    | inr e => have := ih e; omega
theorem ents_small {l : List (DataW H)} (hk : Rows.uptoSmall H l = true) {xs : List Ent} {d : DataW H} (hd : d ∈ l) (h : ∀ x ∈ xs, ∃ D es sp, EntIn x D ∧ d = .slice es sp ∧ D ∈ es) : ∀ x ∈ xs, EntOk x := fun x hx => by
  obtain ⟨D, es, sp, ⟨⟨h1, h2, h3, h4, h5⟩, parts, rfl, hs⟩, rfl, hD⟩ := h x hx
  have b1 := part_le hd
  have b2 : Rows.uptoBulkAll l ≤ 1048576 := of_decide_eq_true hk
  have b3 := part_le hD
  have b4 := part_le hs
  simp only [Rows.uptoBulk, Array.length_toList] at b1 b3 b4
  have b5 : x.path.data.size = x.path.size := rfl
  exact ⟨by omega, h1, h2, h3, h4, h5⟩
end
theorem pown : ownKnob Tryz.prog.godebug = none := by kernel_rfl
theorem plaidOut : laidOutB Tryz.prog = true := by kernel_rfl
/-- A world for the witness: the tables hold what their initialisers lay. -/
def layFirst (o : Obj) : Obj := match o with
  | .cells _ t frozen => .cells (Go.Pinned.utf8FirstZ.map fun (n : Nat) => Value.int .u8 (n : Int)).toArray t frozen
  | o => o
def layRanges (o : Obj) : Obj := match o with
  | .cells _ t frozen => .cells (([128, 191, 160, 191, 128, 159, 144, 191, 128, 143] ++ List.replicate 22 0 : List Nat).map fun (n : Nat) => Value.int .u8 (n : Int)).toArray t frozen
  | o => o
noncomputable def pathWorld (os : Os) (args : Array Value) : World :=
  { World.holding Tryz.prog os ⟨#[], args, []⟩ with heap := ((World.holding Tryz.prog os ⟨#[], args, []⟩).heap.modify 1 layFirst).modify 2 layRanges }
end Go.Proofs.YtmfcccflohpjiaaGreatDoor
