/- TableChanges: Find, With and Without agree with the document's. For every input. -/
import Derived.Test.YtoaieodcdbbndaaTabR
import Derived.Test.YtoaieodcdbbndaaTabRo
import Derived.Test.YtoaieodcdbbndaaRows
import Derived.Deep.RegionWith
import Derived.WalkKit
import Derived.ProofKit
import Derived.OpenShut
import Derived.ShutString
import Derived.ChangeOld
import Derived.Below
namespace Go.Proofs.Ytoaieodcdbbndaa
set_option linter.unusedVariables false
set_option linter.unusedSimpArgs false
open Go.RowKit

section
open Go.ChangeShapes Go.WideShapes Go.Deep
theorem slice_len {H : Type} {enc : TypeId × Value → H} {P : Program} {w : World} {t e : TypeId} {A : Option Addr} {len cap : Nat} {d : DataW H} {ps : List MemPlace} (ht : P.underlying t = some (.slice e)) (h : DataW.Trod enc P w 0 (fun _ => true) true t (.slice A len cap) d ps) : len ≤ maxLen := by
  obtain ⟨fuel, hf⟩ := h
  rcases open_slice ht hf with ⟨hcs, _⟩ | ⟨a, len', cap', m, n, D, Pl, hcs, _, hl, hc, _⟩
  · simp [Value.cells] at hcs
    obtain ⟨_, rfl, _⟩ := hcs
    exact Nat.zero_le _
  · simp [Value.cells] at hcs
    obtain ⟨_, rfl, rfl⟩ := hcs
    omega
def IntsIn (w : World) (v : Value) : Prop := ∃ xs : List Int, RdS (encInt .i64) 1 w v xs ∧ xs.length ≤ maxLen
set_option maxRecDepth 100000 in
theorem ints_arg {H : Type} {enc : TypeId × Value → H} {w : World} {r : Reach} {base : Nat} {v : Value} {d : DataW H} {ps : List MemPlace} (hv : Value.okWide Try.prog w r base 46 v) (h : DataW.Trod enc Try.prog w 0 (fun _ => true) true 46 v d ps) : IntsIn w v := by
  obtain ⟨A, len, cap, rfl⟩ := okWide_slice Try.underlying46 hv
  have hl := slice_len Try.underlying46 h
  obtain ⟨xs, hr, _⟩ := rds_of_slice (enc' := encInt .i64) (k := 1) (Ok := fun _ => True) Try.underlying46 c1_int (by omega) (fun n cs x h => by
    obtain ⟨a, e, _, wf⟩ := DataW.trod_int Try.underlying3 h
    exact ⟨a, e, trivial⟩) h
  obtain ⟨_, _, he, _⟩ := hr.len
  simp only [Value.slice.injEq] at he
  exact ⟨xs, hr, by rw [← he.2.1]; exact hl⟩
def BlkIn (w : World) (v : Value) : Prop := ∃ p : BV, v = blkV p ∧ RdS (encInt .u8) 1 w p.wv p.2.wrap ∧ p.2.Num ∧ ∀ x ∈ p.2.wrap, 0 ≤ x ∧ x ≤ 255
set_option maxRecDepth 100000 in
open Go.Joins in
theorem blk_arg {H : Type} {enc : TypeId × Value → H} {w : World} {r : Reach} {base : Nat} {v : Value} {d : DataW H} {ps : List MemPlace} (hv : Value.okWide Try.prog w r base 45 v) (h : DataW.Trod enc Try.prog w 0 (fun _ => true) true 45 v d ps) : BlkIn w v := by
  obtain ⟨cs, rfl, _⟩ := okWide_struct Try.underlying45 hv
  obtain ⟨n, hf⟩ := h
  obtain ⟨p, hp, h1, h2, h3⟩ := blk_of n _ _ hf
  refine ⟨p, ?_, h1, h2, h3⟩
  unfold blkV
  congr 1
  exact Array.toList_inj.1 hp
end
theorem withL_mem {bs : List Blk} {x b : Blk} (h : b ∈ withL bs x) : b ∈ bs ∨ b = x := by
  unfold withL at h
  split at h
  · rcases List.mem_append.1 h with h | h
    · exact .inl (List.mem_of_mem_take h)
    · rcases List.mem_cons.1 h with h | h
      · exact .inr h
      · exact .inl (List.mem_of_mem_drop h)
  · exact List.mem_or_eq_of_mem_set h
theorem withL_len (bs : List Blk) (x : Blk) : (withL bs x).length ≤ bs.length + 1 := by
  unfold withL
  split
  · rw [List.length_append, List.length_cons, List.length_take, List.length_drop]
    omega
  · rw [List.length_set]; omega
theorem outL_mem {bs : List Blk} {ids : List Int} {b : Blk} (h : b ∈ outL bs ids) : b ∈ bs := (List.mem_filter.1 h).1
theorem outL_len (bs : List Blk) (ids : List Int) : (outL bs ids).length ≤ bs.length := List.length_filter_le _ _
theorem cutT_fit2 {t : Tab} (h : ∀ b ∈ t.bs, b.Num ∧ ∀ x ∈ b.wrap, 0 ≤ x ∧ x ≤ 255) : ∀ b ∈ (cutT t).bs, b.Fit := fun b hb => by
  obtain ⟨c, hc, rfl⟩ := List.mem_map.1 hb
  have hc2 := h c (List.mem_of_mem_take hc)
  refine ⟨?_, fun x hx => hc2.2 x (List.mem_of_mem_take hx)⟩
  show (c.wrap.take 80).length ≤ 1000
  rw [List.length_take]
  omega
theorem take_len80 {f f80 : List Int} (h : f.take 80 = f80) : f.take f80.length = f80 := by
  subst h
  rw [List.length_take]
  rcases Nat.le_total 80 f.length with h | h
  · rw [Nat.min_eq_left h]
  · rw [Nat.min_eq_right h, List.take_length, List.take_of_length_le h]
theorem one6s (a b c d e : Int) (A : Option Addr) (n m : Nat) : (#[Value.int .i64 a, .int .i64 b, .int .i64 c, .int .i64 d, .int .i64 e, .slice A n m] : Array Value).all (·.oneCell') = true := by simp [Value.oneCell']
def CutX (b1 b2 b3 b4 b5 : Int) (f80 : List Int) (WA : Option Addr) (xc : Nat) (g9 g10 : Nat) (T9 : Array Value) (w1 w : World) : Prop :=
  SH (fun _ => False) w1 w [pt g10 (.cells #[.int .i64 b1, .int .i64 b2, .int .i64 b3, .int .i64 b4, .int .i64 b5, .slice WA f80.length xc] 45 (0, 0)), pt g9 (.cells T9 24 (0, 0))]
set_option maxRecDepth 100000 in
set_option maxHeartbeats 4000000 in
theorem changes_walk (v xv : Value) (id : Int) (iv : Value) (w0 : World) (h : TabIn w0 v) (hx : BlkIn w0 xv) (hi : IntsIn w0 iv) :
    Calls Try.prog 6 #[v, xv, .int .i64 id, iv] w0 fun e w' => e = .returned (.bool true) ∧ Ext0 w0 w' := by
  obtain ⟨t, bv, ps, rfl, hps, hb, hin⟩ := h
  obtain ⟨⟨⟨WA, xc⟩, b1, b2, b3, b4, b5, f⟩, rfl, hxr, hxn, hxb⟩ := hx
  obtain ⟨ids, hir, hil⟩ := hi
  have hfit := cutT_fit2 hin
  have hcut := fun {W : World} (h : Ext0 w0 W) => cut_any t bv ps W hps (hb.keep h)
  have hcl : (cutT t).bs.length ≤ 20 := by unfold cutT; simp only [List.length_map, List.length_take]; omega
  unfold GivesCut at hcut
  generalize cutT t = ct at hcut hfit hcl
  obtain ⟨c1, c2, c3, c4, c5, c6, cbs⟩ := ct
  obtain ⟨a1, a2, a3, a4, a5, a6, abs⟩ := t
  obtain ⟨f80, hf80⟩ : ∃ f80, f.take 80 = f80 := ⟨_, rfl⟩
  have hf8l : f80.length ≤ 80 := by rw [← hf80, List.length_take]; omega
  have hf8b : ∀ x ∈ f80, 0 ≤ x ∧ x ≤ 255 := fun x hx => hxb x (by rw [← hf80] at hx; exact List.mem_of_mem_take hx)
  have hxr0 := hxr
  obtain ⟨A', cap', he, hcap, _⟩ := hxr0
  simp only [BV.wv, Value.slice.injEq] at he
  obtain ⟨rfl, _, rfl⟩ := he
  have hxr8 : RdS (encInt .u8) 1 w0 (.slice WA f80.length xc) f80 := by
    have h9 : f80.length ≤ f.length := by rw [← hf80, List.length_take]; omega
    have := RdS.takeG (xs := f) hxr f80.length h9
    rw [take_len80 hf80] at this
    exact this
  have HF := Lib.hid (And.intro hf80 (And.intro hf8l (And.intro hf8b (And.intro hxr8 hfit))))
  have HI := Lib.hid (And.intro hir hil)
  obtain ⟨IA, icap, rfl, _⟩ := hir.len
  simp only [tabV, blkV, BV.wv] at hcut ⊢
  clear hb hps hin hxr hxn hxb hf80 hf8l hf8b hxr8 hfit hir
  have H : SH (fun _ => False) w0 w0 [] := SH.nil _ _
  go_enter Try.func6, Try.ntmps6
  go_upto_region 1 with (first | (refine L_box rfl rfl H rfl rfl ?_; clear H; intro g w H; (try simp only [Act.eval, Array.getD_eq_getD_getElem?, List.getElem?_toArray, List.getElem?_cons_succ, List.getElem?_cons_zero, Option.getD_some, Value.cells] at H); (try simp only [Act.put, List.setIfInBounds_toArray, List.set_cons_succ, List.set_cons_zero, List.getElem_toArray, List.getElem_cons_succ, List.getElem_cons_zero])))
  go_upto_region 3 with (first
    | (refine L_loadrow rfl rfl H 1 rfl rfl Try.underlying24 rfl info24 rfl ?_; (try simp only [Act.put, List.setIfInBounds_toArray, List.set_cons_succ, List.set_cons_zero, List.getElem_toArray, List.getElem_cons_succ, List.getElem_cons_zero]))
    | (go_at_call 8; refine (hcut H.ext).mono ?_; rintro e w1 ⟨u, qs, rfl, hq, hl, hb, hE⟩; replace H := H.calls hE; have hE1 := H.ext; have hg5 := H.at_ 0 rfl; clear H hE; obtain ⟨Au, cu, rfl, _⟩ := hb.row.len; have H1 : SH (fun _ => False) w1 w1 [] := SH.nil _ _)
    | (refine L_alloc rfl rfl H1 Try.zeroValue24 ?_; clear H1; intro g9 w H1; simp only [Value.cells] at H1; (try simp only [Act.put, List.setIfInBounds_toArray, List.set_cons_succ, List.set_cons_zero, List.getElem_toArray, List.getElem_cons_succ, List.getElem_cons_zero]))
    | (refine L_storerow rfl rfl H1 0 rfl rfl rfl info24 rfl rfl (one7s _ _ _ _ _ _ _ _ _) ?_; clear H1; intro w H1; simp only [List.set_cons_zero] at H1; (try simp only [Act.put, List.setIfInBounds_toArray, List.set_cons_succ, List.set_cons_zero, List.getElem_toArray, List.getElem_cons_succ, List.getElem_cons_zero]))
    | (refine L_loadmidr rfl rfl H1 rfl hg5 (fun e => e) Try.underlying45 rfl info45 [.int .i64 b1, .int .i64 b2, .int .i64 b3, .int .i64 b4, .int .i64 b5, .slice WA f.length xc] rfl (fun j _ => by rw [Nat.zero_add]; simp) ?_; (try simp only [Act.put, List.setIfInBounds_toArray, List.set_cons_succ, List.set_cons_zero, List.getElem_toArray, List.getElem_cons_succ, List.getElem_cons_zero]))
    | (refine L_alloc rfl rfl H1 Try.zeroValue45 ?_; clear H1; intro g10 w H1; simp only [Value.cells] at H1; (try simp only [Act.put, List.setIfInBounds_toArray, List.set_cons_succ, List.set_cons_zero, List.getElem_toArray, List.getElem_cons_succ, List.getElem_cons_zero]))
    | (refine L_storerow rfl rfl H1 0 rfl rfl rfl info45 rfl rfl (one6s _ _ _ _ _ _ _ _) ?_; clear H1; intro w H1; simp only [List.set_cons_zero] at H1; (try simp only [Act.put, List.setIfInBounds_toArray, List.set_cons_succ, List.set_cons_zero, List.getElem_toArray, List.getElem_cons_succ, List.getElem_cons_zero])))
  have hq1 : qs.map (·.2) = cbs := hq
  have hxr1 := fun {W : World} (hE : Ext0 w1 W) => HF.out.2.2.2.1.keep (hE1.trans0 hE)
  have hir1 := fun {W : World} (hE : Ext0 w1 W) => HI.out.1.keep (hE1.trans0 hE)
  have hcl2 : cbs.length ≤ 20 := hcl
  have hml : ids.length ≤ 9223372036854775807 := by have := HI.out.2; simp only [maxLen] at this; omega
  have hwl : ∀ p ∈ qs, p.2.wrap.length ≤ 140737488355000 := fun p hp => by
    have : p.2 ∈ cbs := by rw [← hq1]; exact List.mem_map.2 ⟨p, hp, rfl⟩
    have := (HF.out.2.2.2.2 p.2 this).1
    omega
  obtain ⟨T1, hT1⟩ : ∃ T1, (⟨c1, c2, c3, c4, c5, c6, withL cbs ⟨b1, b2, b3, b4, b5, f80⟩⟩ : Tab) = T1 := ⟨_, rfl⟩
  obtain ⟨T2, hT2⟩ : ∃ T2, (⟨c1, c2, c3, c4, c5, c6, outL cbs ids⟩ : Tab) = T2 := ⟨_, rfl⟩
  have hfind := fun {W : World} (hE : Ext0 w1 W) => find_any ⟨c1, c2, c3, c4, c5, c6, cbs⟩ _ qs id W hq1 (hb.row.keep hE) (by omega)
  have hrfind := fun {W : World} (hE : Ext0 w1 W) => refFindT_any ⟨c1, c2, c3, c4, c5, c6, cbs⟩ _ qs id W hq1 (hb.row.keep hE) (by omega)
  have hwith := fun {W : World} (hE : Ext0 w1 W) => with_any ⟨c1, c2, c3, c4, c5, c6, cbs⟩ _ qs ((WA, xc), ⟨b1, b2, b3, b4, b5, f80⟩) W hq1 (hb.keep hE) (by omega) hwl (hxr1 hE) (by have := HF.out.2.1; show f80.length ≤ _; omega)
  have hrwith := fun {W : World} (hE : Ext0 w1 W) => refWith_any ⟨c1, c2, c3, c4, c5, c6, cbs⟩ _ qs ((WA, xc), ⟨b1, b2, b3, b4, b5, f80⟩) W hq1 (hb.keep hE) (by omega) (hxr1 hE)
  have hwout := fun {W : World} (hE : Ext0 w1 W) => without_any ⟨c1, c2, c3, c4, c5, c6, cbs⟩ _ _ qs ids W hq1 (hb.keep hE) (by omega) hwl (hir1 hE) (by omega)
  have hrwout := fun {W : World} (hE : Ext0 w1 W) => refWithout_any ⟨c1, c2, c3, c4, c5, c6, cbs⟩ _ _ qs ids W hq1 (hb.keep hE) (by omega) (hir1 hE) hml
  simp only at hwith hrwith hwout hrwout
  rw [hT1] at hwith hrwith
  rw [hT2] at hwout hrwout
  have hf1 : ∀ b ∈ T1.bs, b.Fit := fun b hb => by
    rw [← hT1] at hb
    rcases withL_mem hb with hb | rfl
    · exact HF.out.2.2.2.2 b hb
    · exact ⟨by have := HF.out.2.1; show f80.length ≤ 1000; omega, HF.out.2.2.1⟩
  have hf2 : ∀ b ∈ T2.bs, b.Fit := fun b hb => by
    rw [← hT2] at hb
    exact HF.out.2.2.2.2 b (outL_mem hb)
  have hl1 : T1.bs.length ≤ 1000 := by rw [← hT1]; have := withL_len cbs ⟨b1, b2, b3, b4, b5, f80⟩; show (withL _ _).length ≤ _; omega
  have hl2 : T2.bs.length ≤ 1000 := by rw [← hT2]; have := outL_len cbs ids; show (outL _ _).length ≤ _; omega
  have hsame : ∀ (T : Tab), (∀ b ∈ T.bs, b.Fit) → T.bs.length ≤ 1000 → ∀ {u v : Value} {q1 q2 : List BV} {W : World}, q1.map (·.2) = T.bs → BsR W u q1 → q2.map (·.2) = T.bs → BsR W v q2 → Calls Try.prog 21 #[tabV T u, tabV T v] W fun e w' => e = .returned (.bool true) ∧ Ext0 W w' := fun T hf hl u v q1 q2 W h1 h2 h3 h4 =>
    refSame_any T T u v q1 q2 W h1 h2 (by have := congrArg List.length h1; rw [List.length_map] at this; omega) hf h3 h4 (by have := congrArg List.length h3; rw [List.length_map] at this; omega) hf rfl
  have hsame1 := @hsame T1 hf1 hl1
  have hsame2 := @hsame T2 hf2 hl2
  simp only [tabV, blkV, BV.wv] at hfind hrfind hwith hrwith hwout hrwout
  unfold GivesTab at hwith hrwith hwout hrwout
  generalize findP id cbs = fp at hfind hrfind
  have HQ := Lib.hid (And.intro hq1 hT1)
  clear hsame hf1 hf2 hl1 hl2 hT1 hT2 hwl hml hxr1 hir1 hq hq1 hb
  generalize hqn : qs.length = ql at *
  generalize hn8 : f80.length = n8 at *
  have HQN := Lib.hid (And.intro hqn hn8)
  clear hqn
  have HLN : f80.length = n8 := hn8
  clear hn8
  go_upto_if 17 with (first
    | (refine L_load1 rfl rfl H1 0 rfl rfl rfl Try.isAgg34 ?_; (try simp only [Act.put, List.setIfInBounds_toArray, List.set_cons_succ, List.set_cons_zero, List.getElem_toArray, List.getElem_cons_succ, List.getElem_cons_zero])))
  go_cut [] from 18 to 21 (fun wc9 => SH (fun _ => False) w1 wc9 [pt g10 (.cells #[.int .i64 b1, .int .i64 b2, .int .i64 b3, .int .i64 b4, .int .i64 b5, .slice WA n8 xc] 45 (0, 0)), pt g9 (.cells #[.int .i64 c1, .int .i64 c2, .int .i64 c3, .int .i64 c4, .int .i64 c5, .int .i64 c6, .slice Au ql cu] 24 (0, 0))])
  case first =>
    have h80c : f.take 80 = f80 := HF.out.1
    by_cases h80 : 80 < f.length
    · have h80i : (80 : Int) < (f.length : Int) := by omega
      have hcc : (80 : Int) ≤ (xc : Int) := by omega
      have hn : n8 = 80 := by rw [← HLN, ← h80c, List.length_take]; omega
      subst hn
      clear h80c HLN hfind hrfind hwith hrwith hwout hrwout hsame1 hsame2
      go_wp2_with (first
        | (refine L_load1 rfl rfl H1 0 rfl rfl rfl Try.isAgg34 ?_; (try simp only [Act.put, List.setIfInBounds_toArray, List.set_cons_succ, List.set_cons_zero, List.getElem_toArray, List.getElem_cons_succ, List.getElem_cons_zero]))
        | (refine L_store1 rfl rfl H1 0 rfl rfl rfl rfl rfl (Nat.le_of_ble_eq_true rfl) Try.sizeOf34 ?_; clear H1; intro w H1; simp only [List.set_cons_zero, List.set_cons_succ, List.setIfInBounds_toArray] at H1; (try simp only [Act.put, List.setIfInBounds_toArray, List.set_cons_succ, List.set_cons_zero, List.getElem_toArray, List.getElem_cons_succ, List.getElem_cons_zero])))
      go_meet
      case rel => exact H1
    · have h80i : ¬ (80 : Int) < (f.length : Int) := by omega
      have hn : n8 = f.length := by rw [← HLN, ← h80c, List.length_take]; omega
      subst hn
      clear h80c hfind hrfind hwith hrwith hwout hrwout hsame1 hsame2
      go_wp2_with fail
      go_meet
      case rel => exact H1
  case rest =>
  clear H1
  have H1 := hcut
  clear hcut
  go_upto_region 5 with fail
  refine D_start H1 (by kernel_rfl) (fun hS => ?_)
  try simp only [Act.put, List.setIfInBounds_toArray, List.set_cons_succ, List.set_cons_zero]
  refine D_one 0 rfl (by kernel_rfl) (by rfl) ?_
  refine R_call (f := 9) (args := #[]) (by first | (go_simp; done) | (go_simp; rfl)) (awake_any _) ?_
  rintro e w ⟨rfl, hE⟩
  have hS2 := hS.calls hE
  clear hS
  have hS := hS2
  clear hS2 hE
  refine ⟨_, rfl, hS, ?_⟩
  try simp only [Act.put, List.getElem_toArray, List.getElem_cons_succ, List.getElem_cons_zero, List.setIfInBounds_toArray, List.set_cons_succ, List.set_cons_zero]
  refine D_take 1 (v := ?_) rfl (by kernel_rfl) (by kernel_rfl) (by kernel_rfl) (fun _ _ _ h => h) rfl (by rfl) (fun W hS => ?_) hS ?_
  rotate_left; (focus (first | (go_simp; done) | (go_simp; with_reducible rfl) | (go_simp; rfl))); all_goals skip; (try simp only [List.set_cons_succ, List.set_cons_zero])
  refine D_take 2 (v := (.agg #[.int .i64 c1, .int .i64 c2, .int .i64 c3, .int .i64 c4, .int .i64 c5, .int .i64 c6, .slice Au ql cu])) rfl (by kernel_rfl) (by kernel_rfl) (by kernel_rfl) (fun _ _ _ h => h) rfl (by rfl) (fun W hS => R_loadrow (ty := 24) (x := .tmp 9) rfl hS 1 rfl rfl Try.underlying24 rfl info24 rfl) hS ?_; (try simp only [List.set_cons_succ, List.set_cons_zero])
  refine D_take 3 (v := ?_) rfl (by kernel_rfl) (by kernel_rfl) (by kernel_rfl) (fun _ _ _ h => h) rfl (by rfl) (fun W hS => ?_) hS ?_
  rotate_left; (focus (first | (go_simp; done) | (go_simp; with_reducible rfl) | (go_simp; rfl))); all_goals skip; (try simp only [List.set_cons_succ, List.set_cons_zero])
  refine D_take 5 (v := (.agg #[.int .i64 c1, .int .i64 c2, .int .i64 c3, .int .i64 c4, .int .i64 c5, .int .i64 c6, .slice Au ql cu])) rfl (by kernel_rfl) (by kernel_rfl) (by kernel_rfl) (fun _ _ _ h => h) rfl (by rfl) (fun W hS => R_loadrow (ty := 24) (x := .tmp 9) rfl hS 1 rfl rfl Try.underlying24 rfl info24 rfl) hS ?_; (try simp only [List.set_cons_succ, List.set_cons_zero])
  refine D_take 6 (v := ?_) rfl (by kernel_rfl) (by kernel_rfl) (by kernel_rfl) (fun _ _ _ h => h) rfl (by rfl) (fun W hS => ?_) hS ?_
  rotate_left; (focus (first | (go_simp; done) | (go_simp; with_reducible rfl) | (go_simp; rfl))); all_goals skip; (try simp only [List.set_cons_succ, List.set_cons_zero])
  refine D_one 4 rfl (by kernel_rfl) (by rfl) ?_
  refine R_call (f := 22) (args := #[.agg #[.int .i64 c1, .int .i64 c2, .int .i64 c3, .int .i64 c4, .int .i64 c5, .int .i64 c6, .slice Au ql cu], .int .i64 id]) (by first | (go_simp; done) | (go_simp; rfl)) (hfind hS.ext) ?_
  rintro e w ⟨rfl, hE⟩
  have hS2 := hS.calls hE
  clear hS
  have hS := hS2
  clear hS2 hE
  refine ⟨_, rfl, hS, ?_⟩
  try simp only [Act.put, List.getElem_toArray, List.getElem_cons_succ, List.getElem_cons_zero, List.setIfInBounds_toArray, List.set_cons_succ, List.set_cons_zero]
  refine D_one 7 rfl (by kernel_rfl) (by rfl) ?_
  refine R_call (f := 23) (args := #[.agg #[.int .i64 c1, .int .i64 c2, .int .i64 c3, .int .i64 c4, .int .i64 c5, .int .i64 c6, .slice Au ql cu], .int .i64 id]) (by first | (go_simp; done) | (go_simp; rfl)) (hrfind hS.ext) ?_
  rintro e w ⟨rfl, hE⟩
  have hS2 := hS.calls hE
  clear hS
  have hS := hS2
  clear hS2 hE
  refine ⟨_, rfl, hS, ?_⟩
  try simp only [Act.put, List.getElem_toArray, List.getElem_cons_succ, List.getElem_cons_zero, List.setIfInBounds_toArray, List.set_cons_succ, List.set_cons_zero]
  refine D_take 8 (v := (.bool true)) rfl (by kernel_rfl) (by kernel_rfl) (by kernel_rfl) (fun _ _ _ h => h) rfl (by rfl) (fun W hS => by first | (go_simp; done) | (go_simp; rfl)) hS ?_; (try simp only [List.set_cons_succ, List.set_cons_zero])
  refine D_take 9 (v := (.bool true)) rfl (by kernel_rfl) (by kernel_rfl) (by kernel_rfl) (fun _ _ _ h => h) rfl (by rfl) (fun W hS => by first | (go_simp; done) | (go_simp; rfl)) hS ?_; (try simp only [List.set_cons_succ, List.set_cons_zero])
  refine D_take 10 (v := ?_) rfl (by kernel_rfl) (by kernel_rfl) (by kernel_rfl) (fun _ _ _ h => h) rfl (by rfl) (fun W hS => ?_) hS ?_
  rotate_left; (focus (first | (go_simp; done) | (go_simp; with_reducible rfl) | (go_simp; rfl))); all_goals skip; (try simp only [List.set_cons_succ, List.set_cons_zero])
  refine D_take 11 (v := (.agg #[.int .i64 c1, .int .i64 c2, .int .i64 c3, .int .i64 c4, .int .i64 c5, .int .i64 c6, .slice Au ql cu])) rfl (by kernel_rfl) (by kernel_rfl) (by kernel_rfl) (fun _ _ _ h => h) rfl (by rfl) (fun W hS => R_loadrow (ty := 24) (x := .tmp 9) rfl hS 1 rfl rfl Try.underlying24 rfl info24 rfl) hS ?_; (try simp only [List.set_cons_succ, List.set_cons_zero])
  refine D_take 12 (v := (.agg #[.int .i64 b1, .int .i64 b2, .int .i64 b3, .int .i64 b4, .int .i64 b5, .slice WA n8 xc])) rfl (by kernel_rfl) (by kernel_rfl) (by kernel_rfl) (fun _ _ _ h => h) rfl (by rfl) (fun W hS => R_loadrow (ty := 45) (x := .tmp 10) rfl hS 0 rfl rfl Try.underlying45 rfl info45 rfl) hS ?_; (try simp only [List.set_cons_succ, List.set_cons_zero])
  refine D_take 14 (v := (.agg #[.int .i64 c1, .int .i64 c2, .int .i64 c3, .int .i64 c4, .int .i64 c5, .int .i64 c6, .slice Au ql cu])) rfl (by kernel_rfl) (by kernel_rfl) (by kernel_rfl) (fun _ _ _ h => h) rfl (by rfl) (fun W hS => R_loadrow (ty := 24) (x := .tmp 9) rfl hS 1 rfl rfl Try.underlying24 rfl info24 rfl) hS ?_; (try simp only [List.set_cons_succ, List.set_cons_zero])
  refine D_take 15 (v := (.agg #[.int .i64 b1, .int .i64 b2, .int .i64 b3, .int .i64 b4, .int .i64 b5, .slice WA n8 xc])) rfl (by kernel_rfl) (by kernel_rfl) (by kernel_rfl) (fun _ _ _ h => h) rfl (by rfl) (fun W hS => R_loadrow (ty := 45) (x := .tmp 10) rfl hS 0 rfl rfl Try.underlying45 rfl info45 rfl) hS ?_; (try simp only [List.set_cons_succ, List.set_cons_zero])
  refine D_one 13 rfl (by kernel_rfl) (by rfl) ?_
  refine R_call (f := 24) (args := #[.agg #[.int .i64 c1, .int .i64 c2, .int .i64 c3, .int .i64 c4, .int .i64 c5, .int .i64 c6, .slice Au ql cu], .agg #[.int .i64 b1, .int .i64 b2, .int .i64 b3, .int .i64 b4, .int .i64 b5, .slice WA n8 xc]]) (by first | (go_simp; done) | (go_simp; rfl)) (hwith hS.ext) ?_
  rintro e w ⟨u1, p1, rfl, hm1, hb1, hE⟩
  have hS2 := hS.calls hE
  clear hS
  have hS := hS2
  clear hS2 hE
  refine ⟨_, rfl, hS, ?_⟩
  try simp only [Act.put, List.getElem_toArray, List.getElem_cons_succ, List.getElem_cons_zero, List.setIfInBounds_toArray, List.set_cons_succ, List.set_cons_zero]
  refine D_one 16 rfl (by kernel_rfl) (by rfl) ?_
  refine R_call (f := 25) (args := #[.agg #[.int .i64 c1, .int .i64 c2, .int .i64 c3, .int .i64 c4, .int .i64 c5, .int .i64 c6, .slice Au ql cu], .agg #[.int .i64 b1, .int .i64 b2, .int .i64 b3, .int .i64 b4, .int .i64 b5, .slice WA n8 xc]]) (by first | (go_simp; done) | (go_simp; rfl)) (hrwith hS.ext) ?_
  rintro e w ⟨u2, p2, rfl, hm2, hb2, hE⟩
  replace hb1 := hb1.keep hE
  have hS2 := hS.calls hE
  clear hS
  have hS := hS2
  clear hS2 hE
  refine ⟨_, rfl, hS, ?_⟩
  try simp only [Act.put, List.getElem_toArray, List.getElem_cons_succ, List.getElem_cons_zero, List.setIfInBounds_toArray, List.set_cons_succ, List.set_cons_zero]
  refine D_one 17 rfl (by kernel_rfl) (by rfl) ?_
  refine R_call (f := 21) (args := #[tabV T1 u1, tabV T1 u2]) (by first | (go_simp; done) | (go_simp; rfl)) (hsame1 hm1 hb1 hm2 hb2) ?_
  rintro e w ⟨rfl, hE⟩
  have hS2 := hS.calls hE
  clear hS
  have hS := hS2
  clear hS2 hE
  refine ⟨_, rfl, hS, ?_⟩
  try simp only [Act.put, List.getElem_toArray, List.getElem_cons_succ, List.getElem_cons_zero, List.setIfInBounds_toArray, List.set_cons_succ, List.set_cons_zero]
  refine D_take 18 (v := ?_) rfl (by kernel_rfl) (by kernel_rfl) (by kernel_rfl) (fun _ _ _ h => h) rfl (by rfl) (fun W hS => ?_) hS ?_
  rotate_left; (focus (first | (go_simp; done) | (go_simp; with_reducible rfl) | (go_simp; rfl))); all_goals skip; (try simp only [List.set_cons_succ, List.set_cons_zero])
  refine D_take 19 (v := ?_) rfl (by kernel_rfl) (by kernel_rfl) (by kernel_rfl) (fun _ _ _ h => h) rfl (by rfl) (fun W hS => ?_) hS ?_
  rotate_left; (focus (first | (go_simp; done) | (go_simp; with_reducible rfl) | (go_simp; rfl))); all_goals skip; (try simp only [List.set_cons_succ, List.set_cons_zero])
  refine D_take 20 (v := (.agg #[.int .i64 c1, .int .i64 c2, .int .i64 c3, .int .i64 c4, .int .i64 c5, .int .i64 c6, .slice Au ql cu])) rfl (by kernel_rfl) (by kernel_rfl) (by kernel_rfl) (fun _ _ _ h => h) rfl (by rfl) (fun W hS => R_loadrow (ty := 24) (x := .tmp 9) rfl hS 1 rfl rfl Try.underlying24 rfl info24 rfl) hS ?_; (try simp only [List.set_cons_succ, List.set_cons_zero])
  refine D_take 21 (v := ?_) rfl (by kernel_rfl) (by kernel_rfl) (by kernel_rfl) (fun _ _ _ h => h) rfl (by rfl) (fun W hS => ?_) hS ?_
  rotate_left; (focus (first | (go_simp; done) | (go_simp; with_reducible rfl) | (go_simp; rfl))); all_goals skip; (try simp only [List.set_cons_succ, List.set_cons_zero])
  refine D_take 23 (v := (.agg #[.int .i64 c1, .int .i64 c2, .int .i64 c3, .int .i64 c4, .int .i64 c5, .int .i64 c6, .slice Au ql cu])) rfl (by kernel_rfl) (by kernel_rfl) (by kernel_rfl) (fun _ _ _ h => h) rfl (by rfl) (fun W hS => R_loadrow (ty := 24) (x := .tmp 9) rfl hS 1 rfl rfl Try.underlying24 rfl info24 rfl) hS ?_; (try simp only [List.set_cons_succ, List.set_cons_zero])
  refine D_take 24 (v := ?_) rfl (by kernel_rfl) (by kernel_rfl) (by kernel_rfl) (fun _ _ _ h => h) rfl (by rfl) (fun W hS => ?_) hS ?_
  rotate_left; (focus (first | (go_simp; done) | (go_simp; with_reducible rfl) | (go_simp; rfl))); all_goals skip; (try simp only [List.set_cons_succ, List.set_cons_zero])
  refine D_one 22 rfl (by kernel_rfl) (by rfl) ?_
  refine R_call (f := 26) (args := #[.agg #[.int .i64 c1, .int .i64 c2, .int .i64 c3, .int .i64 c4, .int .i64 c5, .int .i64 c6, .slice Au ql cu], .slice IA ids.length icap]) (by first | (go_simp; done) | (go_simp; rfl)) (hwout hS.ext) ?_
  rintro e w ⟨u3, p3, rfl, hm3, hb3, hE⟩
  have hS2 := hS.calls hE
  clear hS
  have hS := hS2
  clear hS2 hE
  refine ⟨_, rfl, hS, ?_⟩
  try simp only [Act.put, List.getElem_toArray, List.getElem_cons_succ, List.getElem_cons_zero, List.setIfInBounds_toArray, List.set_cons_succ, List.set_cons_zero]
  refine D_one 25 rfl (by kernel_rfl) (by rfl) ?_
  refine R_call (f := 27) (args := #[.agg #[.int .i64 c1, .int .i64 c2, .int .i64 c3, .int .i64 c4, .int .i64 c5, .int .i64 c6, .slice Au ql cu], .slice IA ids.length icap]) (by first | (go_simp; done) | (go_simp; rfl)) (hrwout hS.ext) ?_
  rintro e w ⟨u4, p4, rfl, hm4, hb4, hE⟩
  replace hb3 := hb3.keep hE
  have hS2 := hS.calls hE
  clear hS
  have hS := hS2
  clear hS2 hE
  refine ⟨_, rfl, hS, ?_⟩
  try simp only [Act.put, List.getElem_toArray, List.getElem_cons_succ, List.getElem_cons_zero, List.setIfInBounds_toArray, List.set_cons_succ, List.set_cons_zero]
  refine D_one 26 rfl (by kernel_rfl) (by rfl) ?_
  refine R_call (f := 21) (args := #[tabV T2 u3, tabV T2 u4]) (by first | (go_simp; done) | (go_simp; rfl)) (hsame2 hm3 hb3 hm4 hb4) ?_
  rintro e w ⟨rfl, hE⟩
  have hS2 := hS.calls hE
  clear hS
  have hS := hS2
  clear hS2 hE
  refine ⟨_, rfl, hS, ?_⟩
  try simp only [Act.put, List.getElem_toArray, List.getElem_cons_succ, List.getElem_cons_zero, List.setIfInBounds_toArray, List.set_cons_succ, List.set_cons_zero]
  refine D_take 27 (v := ?_) rfl (by kernel_rfl) (by kernel_rfl) (by kernel_rfl) (fun _ _ _ h => h) rfl (by rfl) (fun W hS => ?_) hS ?_
  rotate_left; (focus (first | (go_simp; done) | (go_simp; with_reducible rfl) | (go_simp; rfl))); all_goals skip; (try simp only [List.set_cons_succ, List.set_cons_zero])
  refine D_take 28 (v := ?_) rfl (by kernel_rfl) (by kernel_rfl) (by kernel_rfl) (fun _ _ _ h => h) rfl (by rfl) (fun W hS => ?_) hS ?_
  rotate_left; (focus (first | (go_simp; done) | (go_simp; with_reducible rfl) | (go_simp; rfl))); all_goals skip; (try simp only [List.set_cons_succ, List.set_cons_zero])
  refine wpAnyH_done (by kernel_rfl) ?_ _
  go_wp2_with fail
  go_ret
  exact ⟨rfl, hE1.trans0 hS.ext⟩
theorem changes_row (w : World) (v : Value) (h1 : TabIn w v) (xv : Value) (h2 : BlkIn w xv) (id : Int) (_ : (Lit.int .i64 id).wf = true) (iv : Value) (h3 : IntsIn w iv) : Calls Try.prog 6 #[v, xv, .int .i64 id, iv] w fun e w' => e = .returned (.bool true) ∧ Below w.heap.size w w' :=
  (changes_walk v xv id iv w h1 h2 h3).mono fun _ _ h => ⟨h.1, h.2.below⟩
section
open Go.ChangeShapes Go.WideShapes Go.ChangeAt Go.RowKit
open Go.ChangeMaps (open_string shut_string)
theorem tableChanges_own : ownKnob Try.prog.godebug = none := by kernel_rfl
theorem tableChanges_laidOut : laidOutB Try.prog = true := by kernel_rfl
set_option maxRecDepth 100000 in
theorem tableChanges_lifted (os : Os) (started : os.Started) (H : Type) (enc : TypeId × Value → H) :
    ReturnsInHanded {} Try.checked os 6 .any (Rows.tableChangesSpec.pre6 enc Try.prog Try.f6 Rows.tableChangesRow.domain false) (Rows.tableChangesSpec.post enc Try.prog Try.f6 false true false false) := by
  refine returnsInHanded_of_change (C := Try.checked) tableChanges_own started (by kernel_rfl) Try.func6
    (ChangeSpec.witness6 (enc := enc) (C := Try.checked) false ⟨#[], #[.agg #[.int .i64 0,.int .i64 0,.int .i64 0,.int .i64 0,.int .i64 0,.int .i64 0,.slice none 0 0], .agg #[.int .i64 0,.int .i64 0,.int .i64 0,.int .i64 0,.int .i64 0,.slice none 0 0], .int .i64 0, .slice none 0 0], []⟩ 8 (by kernel_rfl) (by kernel_rfl) (by kernel_rfl) (by kernel_rfl)) ?_
  intro W base args ds gs before hval0 hW hcnd _
  have hval : ∀ (j : Nat) t v, Try.f6.params[j]? = some t → args[j]? = some v → Value.okWide Try.prog W .any base t v := hval0
  have hW' := hW
  obtain ⟨p, q, hA0, hV, rfl, hfz, hnd⟩ := hW
  have hA : DataW.TrodAll enc Try.prog W 0 (fun _ => true) true Try.f6.params.toList args.toList ds p := hA0
  rw [Try.params6] at hA hval
  obtain ⟨v0, vs0, d0, ds0, p0, q0, hargs, rfl, rfl, h0, r0⟩ := trodAll_cons hA
  obtain ⟨v1, vs1, d1, ds1, p1, q1, rfl, rfl, rfl, h1, r1⟩ := trodAll_cons r0
  obtain ⟨v2, vs2, d2, ds2, p2, q2, rfl, rfl, rfl, h2, r2⟩ := trodAll_cons r1
  obtain ⟨v3, vs3, d3, ds3, p3, q3, rfl, rfl, rfl, h3, r3⟩ := trodAll_cons r2
  obtain ⟨rfl, rfl, rfl⟩ := trodAll_nil r3
  obtain rfl : args = #[v0, v1, v2, v3] := by cases args; simp_all
  obtain ⟨rfl, rfl⟩ := trodVars_none hV
  have k0 := h0
  have lt0 : ∀ x ∈ p0, x.block < W.heap.size := by obtain ⟨m, hm⟩ := k0; exact DataW.trod_lt m _ _ _ hm
  have w0 := tab_arg (hval 0 24 v0 rfl rfl) h0
  have k1 := h1
  have lt1 : ∀ x ∈ p1, x.block < W.heap.size := by obtain ⟨m, hm⟩ := k1; exact DataW.trod_lt m _ _ _ hm
  have w1 := blk_arg (hval 1 45 v1 rfl rfl) h1
  obtain ⟨a2, rfl, rfl, rfl, w2⟩ := open_int Try.underlying3 (hval 2 3 v2 rfl rfl) h2
  have k3 := h3
  have lt3 : ∀ x ∈ p3, x.block < W.heap.size := by obtain ⟨m, hm⟩ := k3; exact DataW.trod_lt m _ _ _ hm
  have w3 := ints_arg (hval 3 46 v3 rfl rfl) h3
  clear hA0 hval0
  refine (changes_row W v0 w0 v1 w1 a2 w2 v3 w3).mono fun e W' ⟨he, bel⟩ => ?_
  subst he
  exact ⟨_, rfl, _, _, _, [], _, [], hW', trodAll_mk1 (shut_bool Try.underlying4 _), (trodAll_cons_mk (Below.trod tableChanges_laidOut (by kernel_rfl) (of_decide_eq_true (by kernel_rfl)) k0 bel lt0) (trodAll_cons_mk (Below.trod tableChanges_laidOut (by kernel_rfl) (of_decide_eq_true (by kernel_rfl)) k1 bel lt1) (trodAll_cons_mk (shut_int Try.underlying3 w2) (trodAll_cons_mk (Below.trod tableChanges_laidOut (by kernel_rfl) (of_decide_eq_true (by kernel_rfl)) k3 bel lt3) trodAll_mk0)))), rfl, bel.frame _, fun h => by cases h⟩
theorem tableChanges_over : Rows.tableChangesRow.holds Try.pinned (OpenSpec.ofChange Rows.tableChangesSpec) :=
  OpenClaim.holds_of_wide 6 Try.f6 rfl rfl rfl rfl rfl rfl rfl ⟨rfl, rfl, rfl, rfl, rfl⟩ rfl rfl rfl rfl rfl (by kernel_rfl) Try.func6 (by kernel_rfl)
    (of_decide_eq_true (by kernel_rfl)) (by unfold Func.isWrapper; first | (rw [if_pos (by decide +kernel)]; kernel_rfl) | (rw [if_neg (by decide +kernel)]; exact ⟨rfl, rfl⟩))
    (fun os started H enc _ => tableChanges_lifted os started H enc)
/-- THE STATEMENT. -/
theorem tableChanges_holds : Rows.TableChangesSaid := tableChanges_over
#print axioms tableChanges_holds
end
end Go.Proofs.Ytoaieodcdbbndaa
