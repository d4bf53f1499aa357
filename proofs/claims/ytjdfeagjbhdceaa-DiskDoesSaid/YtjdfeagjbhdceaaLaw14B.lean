/- The law's fixed fact: awake. -/
import Derived.Test.YtjdfeagjbhdceaaLaw14A
import Derived.Deep.RegionWith
namespace Go.Proofs.Ytjdfeagjbhdceaa
set_option linter.unusedVariables false
set_option linter.unusedSimpArgs false
open Go.RowKit

theorem ownSep {M : Nat → Prop} {w0 w : World} {L : List Asr} (H : SH M w0 w L) (i j : Nat) (hij : i ≠ j) {B : Asr} {g n m : Nat} {o : Obj} (hA : L[i]? = some (pt g o)) (hB : L[j]? = some B) : ∀ k, (Value.slice (some ⟨g, 0, none⟩) n m).ownBlock = some k → ¬ B.fp k := fun k hk hb => by
  have hk' : some g = some k := hk
  cases hk'
  exact H.sep i j hij hA hB g rfl hb

def GivesRow (n : Nat) (xs : List Int) (w : World) (e : Ending) (w' : World) : Prop := ∃ g, e = .returned (.slice (some ⟨g, 0, none⟩) n n) ∧ SH (fun _ => False) w w' [pt g (.cells (bcells xs) 5 (0, 0))]
theorem full_row (c : Int) (xs : List Int) (h : List.replicate 32 c = xs) (w : World) : Calls Try.prog 32 #[.int .u8 c] w (GivesRow 32 xs w) := by
  subst h
  have := full_any c w
  unfold GivesBytes at this
  rw [List.length_replicate] at this
  exact this

/-- What the fixed fact leans on. -/
structure Aw (d0 d1 d2 d3 : DS) (x7 x8 x0 : List Int) : Prop where
  f0 : d0.Fine 10
  f1 : d1.Fine 11
  f2 : d2.Fine 12
  f3 : d3.Fine 12
  l7 : x7.length = 32
  l8 : x8.length = 32
  l0 : x0.length = 32
  w1 : d0.writeR 3 x7 = (d1, 0)
  w2 : d1.writeR 1 x8 = (d2, 0)
  p : d2.pend.length = 2
  c : d2.crash 1 1 5 = d3
  r1 : d3.readR 1 = (x8, 0)
  r3 : d3.readR 3 = (x7.take 5 ++ x0.drop 5, 0)
  s1 : d3.sinceR 1 = 2
  s3 : d3.sinceR 3 = 0
  ws : d3.writes = 2
  sz : d3.sure.length = 5

set_option maxRecDepth 100000 in
set_option maxHeartbeats 400000 in
theorem awake_walk (d0 d1 d2 d3 : DS) (x7 x8 x0 : List Int) (hA : Aw d0 d1 d2 d3 x7 x8 x0) (c0 : ∀ w, Calls Try.prog 34 #[.int .i64 5] w (GivesDisk w d0)) (c7 : ∀ w, Calls Try.prog 32 #[.int .u8 7] w (GivesRow 32 x7 w)) (c8 : ∀ w, Calls Try.prog 32 #[.int .u8 8] w (GivesRow 32 x8 w)) (cz : ∀ w, Calls Try.prog 32 #[.int .u8 0] w (GivesRow 32 x0 w))
    (w0 : World) : Calls Try.prog 30 #[] w0 fun e w' => e = .returned (.bool true) ∧ Ext0 w0 w' := by
  have H : SH (fun _ => False) w0 w0 [] := SH.nil _ _
  have cw1 : ∀ {b bs bm : Nat} {w : World} {g : Nat} {L : List Asr}, SH (fun _ => False) w0 w (pt g (.cells (bcells x7) 5 (0, 0)) :: DiskA b bs bm d0 :: L) → Calls Try.prog 27 #[.pointer (some ⟨b, 0, none⟩), .int .i64 3, .slice (some ⟨g, 0, none⟩) 32 32] w fun e w' => e = .returned (.int .i64 0) ∧ SH (fun _ => False) w0 w' (pt g (.cells (bcells x7) 5 (0, 0)) :: DiskA b bs bm d1 :: L) := fun {b bs bm w g L} H => by
    have := dwrite (H.get 1 rfl) hA.f0 (by omega) 3 (xs := x7) (v := .slice (some ⟨g, 0, none⟩) 32 32) (by have := bytesRd (H.at_ 0 rfl); rwa [hA.l7] at this) (ownSep H 0 1 (by omega) rfl rfl)
    rw [hA.w1] at this
    exact this.mono fun e w' ⟨h1, h2, h3⟩ => ⟨h1, H.disk 1 rfl h2 h3⟩
  have cw2 : ∀ {b bs bm : Nat} {w : World} {g : Nat} {L : List Asr} {A : Asr}, SH (fun _ => False) w0 w (pt g (.cells (bcells x8) 5 (0, 0)) :: A :: DiskA b bs bm d1 :: L) → Calls Try.prog 27 #[.pointer (some ⟨b, 0, none⟩), .int .i64 1, .slice (some ⟨g, 0, none⟩) 32 32] w fun e w' => e = .returned (.int .i64 0) ∧ SH (fun _ => False) w0 w' (pt g (.cells (bcells x8) 5 (0, 0)) :: A :: DiskA b bs bm d2 :: L) := fun {b bs bm w g L A} H => by
    have := dwrite (H.get 2 rfl) hA.f1 (by omega) 1 (xs := x8) (v := .slice (some ⟨g, 0, none⟩) 32 32) (by have := bytesRd (H.at_ 0 rfl); rwa [hA.l8] at this) (ownSep H 0 2 (by omega) rfl rfl)
    rw [hA.w2] at this
    exact this.mono fun e w' ⟨h1, h2, h3⟩ => ⟨h1, H.disk 2 rfl h2 h3⟩
  have hA' := Lib.hid hA
  clear hA
  go_enter Try.func30, Try.ntmps30
  go_wp2_with (first
    | (go_at_call 34; refine (c0 _).mono ?_; rintro e w ⟨b, bs, bm, rfl, h⟩; replace H : SH (fun _ => False) w0 w [DiskA b bs bm d0] := H.cat h; clear h)
    | (go_at_call_of 32 (Value.int IntKind.u8 7); refine (c7 _).mono ?_; rintro e w ⟨g7, rfl, h⟩; replace H := H.cat h; clear h; simp only [List.cons_append, List.nil_append] at H)
    | (go_at_call_of 32 (Value.int IntKind.u8 8); refine (c8 _).mono ?_; rintro e w ⟨g8, rfl, h⟩; replace H := H.cat h; clear h; simp only [List.cons_append, List.nil_append] at H)
    | (go_at_call_of 27 (Value.int IntKind.i64 3); refine (cw1 H).mono ?_; clear H; rintro e w ⟨rfl, H⟩)
    | (go_at_call_of 27 (Value.int IntKind.i64 1); refine (cw2 H).mono ?_; clear H; rintro e w ⟨rfl, H⟩)
    | (go_at_call 25; refine (pending_any b bs bm d2 _ (H.get 2 rfl)).mono ?_; rw [hA'.out.p]; rintro e w' ⟨rfl, rfl⟩)
    | (go_at_call 29; refine (crash_on b bs bm d2 1 1 5 _ (H.get 2 rfl) hA'.out.f2.good).mono ?_; rw [hA'.out.c]; rintro e w ⟨rfl, h1, h2⟩; replace H := H.disk 2 rfl h1 h2; clear h1 h2; simp only [List.set_cons_succ, List.set_cons_zero] at H)
    | (go_at_call_of 41 (Value.int IntKind.i64 1); refine (dread (H.get 2 rfl) hA'.out.f3 1).mono ?_; rw [hA'.out.r1, hA'.out.l8]; rintro e w ⟨v1, rfl, h1, h2⟩; replace H := H.addOwn h2 h1; clear h1 h2)
    | (go_at_call_of 41 (Value.int IntKind.i64 3); refine (dread (H.get 3 rfl) hA'.out.f3 3).mono ?_; rw [hA'.out.r3]; rintro e w ⟨v3, rfl, h1, h2⟩; replace H := H.addOwn h2 h1; clear h1 h2))
  have hl3 : (x7.take 5 ++ x0.drop 5).length = 32 := by simp [hA'.out.l7, hA'.out.l0]
  have H1 := H.drop (L' := [_, _, DiskA b bs bm d3]) (List.Sublist.cons_cons _ (List.Sublist.cons_cons _ (List.Sublist.cons _ (List.Sublist.cons _ (List.Sublist.refl _)))))
  clear H
  have H := H1.drew
  have h7 := Lib.hid c7
  have h8 := Lib.hid c8
  have hz := Lib.hid cz
  clear c7 c8 cz c0 cw1 cw2
  refine D_start H1 (by kernel_rfl) (fun hS => ?_)
  try simp only [Act.put, List.setIfInBounds_toArray, List.set_cons_succ, List.set_cons_zero]
  refine D_take 0 (v := ?_) rfl (by kernel_rfl) (by kernel_rfl) (by kernel_rfl) (fun _ _ _ h => h) rfl (by rfl) (fun W hS => ?_) hS ?_
  rotate_left; (focus (first | (go_simp; done) | (go_simp; with_reducible rfl) | (go_simp; rfl))); all_goals skip; (try simp only [List.set_cons_succ, List.set_cons_zero])
  refine D_take 1 (v := ?_) rfl (by kernel_rfl) (by kernel_rfl) (by kernel_rfl) (fun _ _ _ h => h) rfl (by rfl) (fun W hS => ?_) hS ?_
  rotate_left; (focus (first | (go_simp; done) | (go_simp; with_reducible rfl) | (go_simp; rfl))); all_goals skip; (try simp only [List.set_cons_succ, List.set_cons_zero])
  refine D_take 2 (v := ?_) rfl (by kernel_rfl) (by kernel_rfl) (by kernel_rfl) (fun _ _ _ h => h) rfl (by rfl) (fun W hS => ?_) hS ?_
  rotate_left; (focus (first | (go_simp; done) | (go_simp; with_reducible rfl) | (go_simp; rfl))); all_goals skip; (try simp only [List.set_cons_succ, List.set_cons_zero])
  refine D_take 3 (v := ?_) rfl (by kernel_rfl) (by kernel_rfl) (by kernel_rfl) (fun _ _ _ h => h) rfl (by rfl) (fun W hS => ?_) hS ?_
  rotate_left; (focus (first | (go_simp; done) | (go_simp; with_reducible rfl) | (go_simp; rfl))); all_goals skip; (try simp only [List.set_cons_succ, List.set_cons_zero])
  refine D_take 4 (v := ?_) rfl (by kernel_rfl) (by kernel_rfl) (by kernel_rfl) (fun _ _ _ h => h) rfl (by rfl) (fun W hS => ?_) hS ?_
  rotate_left; (focus (first | (go_simp; done) | (go_simp; with_reducible rfl) | (go_simp; rfl))); all_goals skip; (try simp only [List.set_cons_succ, List.set_cons_zero])
  refine D_take 5 (v := ?_) rfl (by kernel_rfl) (by kernel_rfl) (by kernel_rfl) (fun _ _ _ h => h) rfl (by rfl) (fun W hS => ?_) hS ?_
  rotate_left; (focus (first | (go_simp; done) | (go_simp; with_reducible rfl) | (go_simp; rfl))); all_goals skip; (try simp only [List.set_cons_succ, List.set_cons_zero])
  refine D_take 6 (v := ?_) rfl (by kernel_rfl) (by kernel_rfl) (by kernel_rfl) (fun _ _ _ h => h) rfl (by rfl) (fun W hS => ?_) hS ?_
  rotate_left; (focus (first | (go_simp; done) | (go_simp; with_reducible rfl) | (go_simp; rfl))); all_goals skip; (try simp only [List.set_cons_succ, List.set_cons_zero])
  refine D_take 7 (v := ?_) rfl (by kernel_rfl) (by kernel_rfl) (by kernel_rfl) (fun _ _ _ h => h) rfl (by rfl) (fun W hS => ?_) hS ?_
  rotate_left; (focus (first | (go_simp; done) | (go_simp; with_reducible rfl) | (go_simp; rfl))); all_goals skip; (try simp only [List.set_cons_succ, List.set_cons_zero])
  refine D_take 8 (v := ?_) rfl (by kernel_rfl) (by kernel_rfl) (by kernel_rfl) (fun _ _ _ h => h) rfl (by rfl) (fun W hS => ?_) hS ?_
  rotate_left; (focus (first | (go_simp; done) | (go_simp; with_reducible rfl) | (go_simp; rfl))); all_goals skip; (try simp only [List.set_cons_succ, List.set_cons_zero])
  refine D_take 9 (v := ?_) rfl (by kernel_rfl) (by kernel_rfl) (by kernel_rfl) (fun _ _ _ h => h) rfl (by rfl) (fun W hS => ?_) hS ?_
  rotate_left; (focus (first | (go_simp; done) | (go_simp; with_reducible rfl) | (go_simp; rfl))); all_goals skip; (try simp only [List.set_cons_succ, List.set_cons_zero])
  refine D_take 10 (v := ?_) rfl (by kernel_rfl) (by kernel_rfl) (by kernel_rfl) (fun _ _ _ h => h) rfl (by rfl) (fun W hS => ?_) hS ?_
  rotate_left; (focus (first | (go_simp; done) | (go_simp; with_reducible rfl) | (go_simp; rfl))); all_goals skip; (try simp only [List.set_cons_succ, List.set_cons_zero])
  refine D_take 11 (v := ?_) rfl (by kernel_rfl) (by kernel_rfl) (by kernel_rfl) (fun _ _ _ h => h) rfl (by rfl) (fun W hS => ?_) hS ?_
  rotate_left; (focus (first | (go_simp; done) | (go_simp; with_reducible rfl) | (go_simp; rfl))); all_goals skip; (try simp only [List.set_cons_succ, List.set_cons_zero])
  refine D_take 12 (v := (.string (strOfNums x8))) rfl (by kernel_rfl) (by kernel_rfl) (by kernel_rfl) (fun _ _ _ h => h) rfl (by rfl) (fun W hS => R_convert (src := 48) (dst := 9) (x := .tmp 41) rfl rfl (run_string (RdS.own (encInt_len .u8) hA'.out.l8.symm (hS.get 1 rfl)) Try.underlying48 Try.underlying5 Try.underlying9)) hS ?_; (try simp only [List.set_cons_succ, List.set_cons_zero])
  refine D_one 13 rfl (by kernel_rfl) (by rfl) ?_
  refine R_call (f := 32) (args := #[.int .u8 8]) (by first | (go_simp; done) | (go_simp; rfl)) (h8.out _) ?_
  clear hS
  rintro e w ⟨g9, rfl, h⟩
  replace H := H.cat h
  have hS := H.drop (List.sublist_cons_self _ _)
  refine ⟨_, rfl, hS, ?_⟩
  try simp only [Act.put, List.getElem_toArray, List.getElem_cons_succ, List.getElem_cons_zero, List.setIfInBounds_toArray, List.set_cons_succ, List.set_cons_zero]
  refine D_one 14 rfl (by kernel_rfl) (by rfl) ?_
  refine wp_of_value (R_convert (src := 48) (dst := 9) (x := .tmp 43) rfl rfl (run_string (xs := x8) (by have := bytesRd (H.at_ 0 rfl); rwa [hA'.out.l8] at this) Try.underlying48 Try.underlying5 Try.underlying9)) ⟨hS, ?_⟩
  clear H
  have H := hS
  try simp only [Act.put, List.getElem_toArray, List.getElem_cons_succ, List.getElem_cons_zero, List.setIfInBounds_toArray, List.set_cons_succ, List.set_cons_zero]
  refine D_take 15 (v := (.bool true)) rfl (by kernel_rfl) (by kernel_rfl) (by kernel_rfl) (fun _ _ _ h => h) rfl (by rfl) (fun W hS => by first | (go_simp; done) | (go_simp; simp)) hS ?_; (try simp only [List.set_cons_succ, List.set_cons_zero])
  refine D_take 16 (v := ?_) rfl (by kernel_rfl) (by kernel_rfl) (by kernel_rfl) (fun _ _ _ h => h) rfl (by rfl) (fun W hS => ?_) hS ?_
  rotate_left; (focus (first | (go_simp; done) | (go_simp; with_reducible rfl) | (go_simp; rfl))); all_goals skip; (try simp only [List.set_cons_succ, List.set_cons_zero])
  refine D_take 17 (v := ?_) rfl (by kernel_rfl) (by kernel_rfl) (by kernel_rfl) (fun _ _ _ h => h) rfl (by rfl) (fun W hS => ?_) hS ?_
  rotate_left; (focus (first | (go_simp; done) | (go_simp; with_reducible rfl) | (go_simp; rfl))); all_goals skip; (try simp only [List.set_cons_succ, List.set_cons_zero])
  refine D_take 18 (v := ?_) rfl (by kernel_rfl) (by kernel_rfl) (by kernel_rfl) (fun _ _ _ h => h) rfl (by rfl) (fun W hS => ?_) hS ?_
  rotate_left; (focus (first | (go_simp; done) | (go_simp; with_reducible rfl) | (go_simp; rfl))); all_goals skip; (try simp only [List.set_cons_succ, List.set_cons_zero])
  refine D_take 19 (v := ?_) rfl (by kernel_rfl) (by kernel_rfl) (by kernel_rfl) (fun _ _ _ h => h) rfl (by rfl) (fun W hS => ?_) hS ?_
  rotate_left; (focus (first | (go_simp; done) | (go_simp; with_reducible rfl) | (go_simp; rfl))); all_goals skip; (try simp only [List.set_cons_succ, List.set_cons_zero])
  refine D_take 20 (v := ?_) rfl (by kernel_rfl) (by kernel_rfl) (by kernel_rfl) (fun _ _ _ h => h) rfl (by rfl) (fun W hS => ?_) hS ?_
  rotate_left; (focus (first | (go_simp; done) | (go_simp; with_reducible rfl) | (go_simp; rfl))); all_goals skip; (try simp only [List.set_cons_succ, List.set_cons_zero])
  refine D_take 21 (v := ?_) rfl (by kernel_rfl) (by kernel_rfl) (by kernel_rfl) (fun _ _ _ h => h) rfl (by rfl) (fun W hS => ?_) hS ?_
  rotate_left; (focus (first | (go_simp; done) | (go_simp; with_reducible rfl) | (go_simp; rfl))); all_goals skip; (try simp only [List.set_cons_succ, List.set_cons_zero])
  refine D_take 22 (v := ?_) rfl (by kernel_rfl) (by kernel_rfl) (by kernel_rfl) (fun _ _ _ h => h) rfl (by rfl) (fun W hS => ?_) hS ?_
  rotate_left; (focus (first | (go_simp; done) | (go_simp; with_reducible rfl) | (go_simp; rfl))); all_goals skip; (try simp only [List.set_cons_succ, List.set_cons_zero])
  refine D_take 23 (v := (.string (strOfNums (x7.take 5 ++ x0.drop 5)))) rfl (by kernel_rfl) (by kernel_rfl) (by kernel_rfl) (fun _ _ _ h => h) rfl (by rfl) (fun W hS => R_convert (src := 48) (dst := 9) (x := .tmp 52) rfl rfl (run_string (RdS.own (encInt_len .u8) rfl (hS.get 0 rfl)) Try.underlying48 Try.underlying5 Try.underlying9)) hS ?_; (try simp only [List.set_cons_succ, List.set_cons_zero])
  refine D_one 24 rfl (by kernel_rfl) (by rfl) ?_
  refine R_call (f := 32) (args := #[.int .u8 7]) (by first | (go_simp; done) | (go_simp; rfl)) (h7.out _) ?_
  clear hS
  rintro e w ⟨ga, rfl, h⟩
  replace H := H.cat h
  have hS := H.drop (List.sublist_cons_self _ _)
  refine ⟨_, rfl, hS, ?_⟩
  try simp only [Act.put, List.getElem_toArray, List.getElem_cons_succ, List.getElem_cons_zero, List.setIfInBounds_toArray, List.set_cons_succ, List.set_cons_zero]
  refine D_take 25 (v := ?_) rfl (by kernel_rfl) (by kernel_rfl) (by kernel_rfl) (fun _ _ _ h => h) rfl (by rfl) (fun W hS => ?_) hS ?_
  rotate_left; (focus (first | (go_simp; done) | (go_simp; with_reducible rfl) | (go_simp; rfl))); all_goals skip; (try simp only [List.set_cons_succ, List.set_cons_zero])
  refine D_one 26 rfl (by kernel_rfl) (by rfl) ?_
  refine R_call (f := 32) (args := #[.int .u8 0]) (by first | (go_simp; done) | (go_simp; rfl)) (hz.out _) ?_
  clear hS
  rintro e w ⟨gb, rfl, h⟩
  replace H := H.cat h
  have hS := (H.drop (List.sublist_cons_self _ _)).drop (List.sublist_cons_self _ _)
  refine ⟨_, rfl, hS, ?_⟩
  try simp only [Act.put, List.getElem_toArray, List.getElem_cons_succ, List.getElem_cons_zero, List.setIfInBounds_toArray, List.set_cons_succ, List.set_cons_zero]
  refine D_take 27 (v := ?_) rfl (by kernel_rfl) (by kernel_rfl) (by kernel_rfl) (fun _ _ _ h => h) rfl (by rfl) (fun W hS => ?_) hS ?_
  rotate_left; (focus (first | (go_simp; done) | (go_simp; with_reducible rfl) | (go_simp; rfl))); all_goals skip; (try simp only [List.set_cons_succ, List.set_cons_zero])
  refine D_one 28 rfl (by kernel_rfl) (by rfl) ?_
  have H2 := H.toOwn 1 rfl 1 5 32 (by omega) (by simp only [maxLen]; omega) (by rw [bcells_size, hA'.out.l7]) ((x7.take 5).map (Value.int .u8)) (by simp [bcells, List.map_take])
  have hr := bytesRdAt (H2.at_ 0 rfl) 5 27 27 (by rw [hA'.out.l0]; omega) (Nat.le_refl _)
  rw [List.take_of_length_le (by rw [List.length_drop, hA'.out.l0]; omega)] at hr
  have hl0 : (x0.drop 5).length = 27 := by rw [List.length_drop, hA'.out.l0]
  refine W_append (s := .tmp 55) (x := .tmp 57) (v := .slice (some ⟨ga, 0, none⟩) 5 32) (xv := .slice (some ⟨gb, 5, none⟩) 27 27) (encInt_len .u8) (encInt_one .u8) rfl Try.underlying48 info5 rfl (Nat.le_refl _) H2 1 rfl rfl rfl hr (by rw [hl0]; omega) (by rw [hl0]; simp only [maxLen]; omega) ?_
  intro v' w' H' _
  clear hS H H2 hr
  have hS := (H'.drop (List.sublist_cons_self _ _)).drop (List.sublist_cons_self _ _)
  refine ⟨hS, ?_⟩
  have hown := H'.get 1 rfl
  clear H'
  have H := hS
  try simp only [Act.put, List.getElem_toArray, List.getElem_cons_succ, List.getElem_cons_zero, List.setIfInBounds_toArray, List.set_cons_succ, List.set_cons_zero]
  refine D_one 29 rfl (by kernel_rfl) (by rfl) ?_
  refine wp_of_value (R_convert (src := 48) (dst := 9) (x := .tmp 58) rfl rfl (run_string (xs := x7.take 5 ++ x0.drop 5) (RdS.own (encInt_len .u8) (n := 5 + (x0.drop 5).length) (by rw [List.length_append, List.length_take, hA'.out.l7]; simp) (by rw [cellsOf_append]; rw [cellsOf_int .u8 (x7.take 5)]; exact hown)) Try.underlying48 Try.underlying5 Try.underlying9)) ⟨hS, ?_⟩
  clear hown
  try simp only [Act.put, List.getElem_toArray, List.getElem_cons_succ, List.getElem_cons_zero, List.setIfInBounds_toArray, List.set_cons_succ, List.set_cons_zero]
  refine D_take 30 (v := (.bool true)) rfl (by kernel_rfl) (by kernel_rfl) (by kernel_rfl) (fun _ _ _ h => h) rfl (by rfl) (fun W hS => by first | (go_simp; done) | (go_simp; simp)) hS ?_; (try simp only [List.set_cons_succ, List.set_cons_zero])
  refine D_take 31 (v := ?_) rfl (by kernel_rfl) (by kernel_rfl) (by kernel_rfl) (fun _ _ _ h => h) rfl (by rfl) (fun W hS => ?_) hS ?_
  rotate_left; (focus (first | (go_simp; done) | (go_simp; with_reducible rfl) | (go_simp; rfl))); all_goals skip; (try simp only [List.set_cons_succ, List.set_cons_zero])
  refine D_take 32 (v := ?_) rfl (by kernel_rfl) (by kernel_rfl) (by kernel_rfl) (fun _ _ _ h => h) rfl (by rfl) (fun W hS => ?_) hS ?_
  rotate_left; (focus (first | (go_simp; done) | (go_simp; with_reducible rfl) | (go_simp; rfl))); all_goals skip; (try simp only [List.set_cons_succ, List.set_cons_zero])
  refine D_take 33 (v := ?_) rfl (by kernel_rfl) (by kernel_rfl) (by kernel_rfl) (fun _ _ _ h => h) rfl (by rfl) (fun W hS => ?_) hS ?_
  rotate_left; (focus (first | (go_simp; done) | (go_simp; with_reducible rfl) | (go_simp; rfl))); all_goals skip; (try simp only [List.set_cons_succ, List.set_cons_zero])
  refine D_take 34 (v := ?_) rfl (by kernel_rfl) (by kernel_rfl) (by kernel_rfl) (fun _ _ _ h => h) rfl (by rfl) (fun W hS => ?_) hS ?_
  rotate_left; (focus (first | (go_simp; done) | (go_simp; with_reducible rfl) | (go_simp; rfl))); all_goals skip; (try simp only [List.set_cons_succ, List.set_cons_zero])
  refine D_take 35 (v := ?_) rfl (by kernel_rfl) (by kernel_rfl) (by kernel_rfl) (fun _ _ _ h => h) rfl (by rfl) (fun W hS => ?_) hS ?_
  rotate_left; (focus (first | (go_simp; done) | (go_simp; with_reducible rfl) | (go_simp; rfl))); all_goals skip; (try simp only [List.set_cons_succ, List.set_cons_zero])
  refine D_take 36 (v := ?_) rfl (by kernel_rfl) (by kernel_rfl) (by kernel_rfl) (fun _ _ _ h => h) rfl (by rfl) (fun W hS => ?_) hS ?_
  rotate_left; (focus (first | (go_simp; done) | (go_simp; with_reducible rfl) | (go_simp; rfl))); all_goals skip; (try simp only [List.set_cons_succ, List.set_cons_zero])
  refine D_take 37 (v := ?_) rfl (by kernel_rfl) (by kernel_rfl) (by kernel_rfl) (fun _ _ _ h => h) rfl (by rfl) (fun W hS => ?_) hS ?_
  rotate_left; (focus (first | (go_simp; done) | (go_simp; with_reducible rfl) | (go_simp; rfl))); all_goals skip; (try simp only [List.set_cons_succ, List.set_cons_zero])
  refine D_one 38 rfl (by kernel_rfl) (by rfl) ?_
  refine R_call (f := 33) (args := #[.pointer (some ⟨b, 0, none⟩), .int .i64 1]) (by first | (go_simp; done) | (go_simp; rfl)) (dsince (H.get 2 rfl) hA'.out.f3 1) ?_
  rw [hA'.out.s1]
  clear hS
  rintro e w ⟨rfl, h⟩
  replace H := H.calls h
  have hS := H
  refine ⟨_, rfl, hS, ?_⟩
  try simp only [Act.put, List.getElem_toArray, List.getElem_cons_succ, List.getElem_cons_zero, List.setIfInBounds_toArray, List.set_cons_succ, List.set_cons_zero]
  refine D_take 39 (v := ?_) rfl (by kernel_rfl) (by kernel_rfl) (by kernel_rfl) (fun _ _ _ h => h) rfl (by rfl) (fun W hS => ?_) hS ?_
  rotate_left; (focus (first | (go_simp; done) | (go_simp; with_reducible rfl) | (go_simp; rfl))); all_goals skip; (try simp only [List.set_cons_succ, List.set_cons_zero])
  refine D_take 40 (v := ?_) rfl (by kernel_rfl) (by kernel_rfl) (by kernel_rfl) (fun _ _ _ h => h) rfl (by rfl) (fun W hS => ?_) hS ?_
  rotate_left; (focus (first | (go_simp; done) | (go_simp; with_reducible rfl) | (go_simp; rfl))); all_goals skip; (try simp only [List.set_cons_succ, List.set_cons_zero])
  refine D_take 41 (v := ?_) rfl (by kernel_rfl) (by kernel_rfl) (by kernel_rfl) (fun _ _ _ h => h) rfl (by rfl) (fun W hS => ?_) hS ?_
  rotate_left; (focus (first | (go_simp; done) | (go_simp; with_reducible rfl) | (go_simp; rfl))); all_goals skip; (try simp only [List.set_cons_succ, List.set_cons_zero])
  refine D_take 42 (v := ?_) rfl (by kernel_rfl) (by kernel_rfl) (by kernel_rfl) (fun _ _ _ h => h) rfl (by rfl) (fun W hS => ?_) hS ?_
  rotate_left; (focus (first | (go_simp; done) | (go_simp; with_reducible rfl) | (go_simp; rfl))); all_goals skip; (try simp only [List.set_cons_succ, List.set_cons_zero])
  refine D_one 43 rfl (by kernel_rfl) (by rfl) ?_
  refine R_call (f := 33) (args := #[.pointer (some ⟨b, 0, none⟩), .int .i64 3]) (by first | (go_simp; done) | (go_simp; rfl)) (dsince (H.get 2 rfl) hA'.out.f3 3) ?_
  rw [hA'.out.s3]
  clear hS
  rintro e w ⟨rfl, h⟩
  replace H := H.calls h
  have hS := H
  refine ⟨_, rfl, hS, ?_⟩
  try simp only [Act.put, List.getElem_toArray, List.getElem_cons_succ, List.getElem_cons_zero, List.setIfInBounds_toArray, List.set_cons_succ, List.set_cons_zero]
  refine D_take 44 (v := ?_) rfl (by kernel_rfl) (by kernel_rfl) (by kernel_rfl) (fun _ _ _ h => h) rfl (by rfl) (fun W hS => ?_) hS ?_
  rotate_left; (focus (first | (go_simp; done) | (go_simp; with_reducible rfl) | (go_simp; rfl))); all_goals skip; (try simp only [List.set_cons_succ, List.set_cons_zero])
  refine D_take 45 (v := ?_) rfl (by kernel_rfl) (by kernel_rfl) (by kernel_rfl) (fun _ _ _ h => h) rfl (by rfl) (fun W hS => ?_) hS ?_
  rotate_left; (focus (first | (go_simp; done) | (go_simp; with_reducible rfl) | (go_simp; rfl))); all_goals skip; (try simp only [List.set_cons_succ, List.set_cons_zero])
  refine D_take 46 (v := ?_) rfl (by kernel_rfl) (by kernel_rfl) (by kernel_rfl) (fun _ _ _ h => h) rfl (by rfl) (fun W hS => ?_) hS ?_
  rotate_left; (focus (first | (go_simp; done) | (go_simp; with_reducible rfl) | (go_simp; rfl))); all_goals skip; (try simp only [List.set_cons_succ, List.set_cons_zero])
  refine D_take 47 (v := ?_) rfl (by kernel_rfl) (by kernel_rfl) (by kernel_rfl) (fun _ _ _ h => h) rfl (by rfl) (fun W hS => ?_) hS ?_
  rotate_left; (focus (first | (go_simp; done) | (go_simp; with_reducible rfl) | (go_simp; rfl))); all_goals skip; (try simp only [List.set_cons_succ, List.set_cons_zero])
  refine D_one 48 rfl (by kernel_rfl) (by rfl) ?_
  refine R_call (f := 31) (args := #[.pointer (some ⟨b, 0, none⟩)]) (by first | (go_simp; done) | (go_simp; rfl)) (writes_any b bs bm d3 _ (H.get 2 rfl)) ?_
  rw [hA'.out.ws]
  rintro e w' ⟨rfl, rfl⟩
  refine ⟨_, rfl, hS, ?_⟩
  try simp only [Act.put, List.getElem_toArray, List.getElem_cons_succ, List.getElem_cons_zero, List.setIfInBounds_toArray, List.set_cons_succ, List.set_cons_zero]
  refine D_take 49 (v := ?_) rfl (by kernel_rfl) (by kernel_rfl) (by kernel_rfl) (fun _ _ _ h => h) rfl (by rfl) (fun W hS => ?_) hS ?_
  rotate_left; (focus (first | (go_simp; done) | (go_simp; with_reducible rfl) | (go_simp; rfl))); all_goals skip; (try simp only [List.set_cons_succ, List.set_cons_zero])
  refine D_take 50 (v := ?_) rfl (by kernel_rfl) (by kernel_rfl) (by kernel_rfl) (fun _ _ _ h => h) rfl (by rfl) (fun W hS => ?_) hS ?_
  rotate_left; (focus (first | (go_simp; done) | (go_simp; with_reducible rfl) | (go_simp; rfl))); all_goals skip; (try simp only [List.set_cons_succ, List.set_cons_zero])
  refine D_take 51 (v := ?_) rfl (by kernel_rfl) (by kernel_rfl) (by kernel_rfl) (fun _ _ _ h => h) rfl (by rfl) (fun W hS => ?_) hS ?_
  rotate_left; (focus (first | (go_simp; done) | (go_simp; with_reducible rfl) | (go_simp; rfl))); all_goals skip; (try simp only [List.set_cons_succ, List.set_cons_zero])
  refine D_take 52 (v := ?_) rfl (by kernel_rfl) (by kernel_rfl) (by kernel_rfl) (fun _ _ _ h => h) rfl (by rfl) (fun W hS => ?_) hS ?_
  rotate_left; (focus (first | (go_simp; done) | (go_simp; with_reducible rfl) | (go_simp; rfl))); all_goals skip; (try simp only [List.set_cons_succ, List.set_cons_zero])
  refine D_one 53 rfl (by kernel_rfl) (by rfl) ?_
  refine R_call (f := 36) (args := #[.pointer (some ⟨b, 0, none⟩)]) (by first | (go_simp; done) | (go_simp; rfl)) (size_any b bs bm d3 _ (H.get 2 rfl)) ?_
  rw [hA'.out.sz]
  rintro e w' ⟨rfl, rfl⟩
  refine ⟨_, rfl, hS, ?_⟩
  try simp only [Act.put, List.getElem_toArray, List.getElem_cons_succ, List.getElem_cons_zero, List.setIfInBounds_toArray, List.set_cons_succ, List.set_cons_zero]
  refine D_take 54 (v := ?_) rfl (by kernel_rfl) (by kernel_rfl) (by kernel_rfl) (fun _ _ _ h => h) rfl (by rfl) (fun W hS => ?_) hS ?_
  rotate_left; (focus (first | (go_simp; done) | (go_simp; with_reducible rfl) | (go_simp; rfl))); all_goals skip; (try simp only [List.set_cons_succ, List.set_cons_zero])
  refine D_take 55 (v := ?_) rfl (by kernel_rfl) (by kernel_rfl) (by kernel_rfl) (fun _ _ _ h => h) rfl (by rfl) (fun W hS => ?_) hS ?_
  rotate_left; (focus (first | (go_simp; done) | (go_simp; with_reducible rfl) | (go_simp; rfl))); all_goals skip; (try simp only [List.set_cons_succ, List.set_cons_zero])
  refine D_take 56 (v := ?_) rfl (by kernel_rfl) (by kernel_rfl) (by kernel_rfl) (fun _ _ _ h => h) rfl (by rfl) (fun W hS => ?_) hS ?_
  rotate_left; (focus (first | (go_simp; done) | (go_simp; with_reducible rfl) | (go_simp; rfl))); all_goals skip; (try simp only [List.set_cons_succ, List.set_cons_zero])
  refine wpAnyH_done (by kernel_rfl) ?_ _
  go_wp2_with fail
  go_ret
  exact ⟨rfl, hS.ext⟩
end Go.Proofs.Ytjdfeagjbhdceaa
