/- The law's helpers: full, wrote. -/
import Derived.Test.YtjdfeagjbhdceaaDiskI
namespace Go.Proofs.Ytjdfeagjbhdceaa
set_option linter.unusedVariables false
set_option linter.unusedSimpArgs false
open Go.RowKit

theorem rep_set (c : Int) (n k : Nat) (hk : k < n) : (List.replicate k c ++ List.replicate (n - k) (0 : Int)).set k c = List.replicate (k + 1) c ++ List.replicate (n - (k + 1)) 0 := by
  rw [List.set_append_right _ _ (by simp)]
  simp only [List.length_replicate, Nat.sub_self]
  rw [show n - k = (n - (k + 1)) + 1 by omega, List.replicate_succ (n := n - (k + 1)), List.set_cons_zero, List.replicate_succ' (n := k), List.append_assoc]
  rfl

theorem made_bytes (n : Nat) : madeCells (Value.int .u8 0).cells (n * 1) = bcells (List.replicate n 0) := by
  apply Array.toList_inj.1
  rw [madeCells_rep (Value.int .u8 0).cells n 1 rfl]
  simp only [bcells, List.map_replicate]
  show (List.replicate n [Value.int .u8 0]).flatten = _
  induction n with
  | zero => rfl
  | succ n ih => rw [List.replicate_succ, List.flatten_cons, ih]; rfl
/-- A row of bytes of one's own, at the head of its block. -/
def GivesBytes (w : World) (xs : List Int) (e : Ending) (w' : World) : Prop := ∃ g, e = .returned (.slice (some ⟨g, 0, none⟩) xs.length xs.length) ∧ SH (fun _ => False) w w' [pt g (.cells (bcells xs) 5 (0, 0))]

def FullRel (g : Nat) (c : Int) (w0 : World) (vi : Value) (wr : World) : Prop :=
  ∃ k : Nat, vi = .int .i64 (k : Int) ∧ k ≤ 32 ∧ SH (fun _ => False) w0 wr [pt g (.cells (bcells (List.replicate k c ++ List.replicate (32 - k) 0)) 5 (0, 0))]

set_option maxRecDepth 100000 in
set_option maxHeartbeats 1000000 in
theorem full_any (c : Int) (w0 : World) : Calls Try.prog 32 #[.int .u8 c] w0 (GivesBytes w0 (List.replicate 32 c)) := by
  obtain ⟨i0, hi, hz, hsz, hby⟩ := info_parts info5
  have H : SH (fun _ => False) w0 w0 [] := SH.nil _ _
  go_enter Try.func32, Try.ntmps32
  go_wp2_with (first | (refine L_make (n := 32) rfl rfl H Try.underlying48 hi hz rfl rfl (by rw [hby]; omega) (by simp only [maxLen]; omega) ?_; clear H; intro g w H; rw [hsz, made_bytes] at H))
  go_loopw [4] (fun vi wr => FullRel g c w0 vi wr) (fun vi _ => 32 - (intOf vi).toNat)
  case atStart => exact ⟨0, rfl, Nat.zero_le _, H⟩
  case round =>
    clear H
    obtain ⟨k, rfl, hk, H⟩ := hrel
    by_cases hkn : k < 32
    · have hlt : ((k : Int) < 32) := by omega
      have hsz2 : k < (bcells (List.replicate k c ++ List.replicate (32 - k) 0)).size := by rw [bcells_size, List.length_append, List.length_replicate, List.length_replicate]; omega
      go_wp2_with (first | (refine L_store1 rfl rfl H 0 rfl rfl rfl rfl rfl hsz2 Try.sizeOf5 ?_; clear H; intro w H; simp only [List.set_cons_zero, List.set_cons_succ, List.setIfInBounds_toArray, Act.eval, Array.getD_eq_getD_getElem?, List.getElem?_toArray, List.getElem?_cons_succ, List.getElem?_cons_zero, Option.getD_some] at H; rw [bcells_set, rep_set c 32 k hkn] at H))
      go_roundw
      case rel => exact ⟨k + 1, by go_num, by omega, H⟩
      case measure => simp [intOf]; omega
    · obtain rfl : k = 32 := by omega
      go_wp2_with fail
      go_ret
      exact ⟨g, rfl, by simpa using H⟩

structure Deed where
  kind : Int
  at_ : Int
  c : Int
  n : Int
  keep : Int
def Deed.cells (d : Deed) : List Value := [.int .u8 d.kind, .int .i64 d.at_, .int .u8 d.c, .int .i64 d.n, .int .i64 d.keep]
def Deed.val (d : Deed) : Value := .agg d.cells.toArray
structure Deed.Ok (d : Deed) : Prop where
  kind : 0 ≤ d.kind ∧ d.kind ≤ 255
  c : 0 ≤ d.c ∧ d.c ≤ 255
  n : -9223372036854775808 ≤ d.n ∧ d.n ≤ 9223372036854775807
def Deed.bytes (d : Deed) : List Int := if d.kind % 32 = 31 then List.replicate d.c.toNat 0 else (List.replicate 32 d.c).set (d.c.toNat % 32) (d.keep % 256)

set_option maxRecDepth 100000 in
set_option maxHeartbeats 1000000 in
theorem wrote_any (d : Deed) (hd : d.Ok) (w0 : World) : Calls Try.prog 28 #[d.val] w0 (GivesBytes w0 d.bytes) := by
  obtain ⟨i0, hi, hz, hsz, hby⟩ := info_parts info5
  have H : SH (fun _ => False) w0 w0 [] := SH.nil _ _
  obtain ⟨kind, at_, c, n, keep⟩ := d
  obtain ⟨hk, hc, _⟩ := hd
  dsimp only at hk hc
  show Calls Try.prog 28 #[.agg #[.int .u8 kind, .int .i64 at_, .int .u8 c, .int .i64 n, .int .i64 keep]] w0 _
  obtain ⟨m, rfl⟩ := Int.eq_ofNat_of_zero_le hc.1
  have hsz2 : m % 32 < (bcells (List.replicate 32 (m : Int))).size := by rw [bcells_size, List.length_replicate]; omega
  have hres : ∀ b : Bool, (kind % 32 == 31) = b → (⟨kind, at_, m, n, keep⟩ : Deed).bytes = (if b then List.replicate m 0 else (List.replicate 32 (m : Int)).set (m % 32) (keep % 256)) := fun b hb => by
    unfold Deed.bytes
    subst hb
    by_cases h : kind % 32 = 31 <;> simp [h]
  cases hb : (kind % 32 == 31)
  · rw [hres _ hb, if_neg (by simp)]
    clear hres
    obtain ⟨xs, hxs⟩ : ∃ xs, xs = (List.replicate 32 (m : Int)).set (m % 32) (keep % 256) := ⟨_, rfl⟩
    rw [← hxs]
    have HX := Lib.hid hxs
    clear hxs
    go_enter Try.func28, Try.ntmps28
    go_wp2_with (first | (refine L_load1 rfl rfl H 0 rfl rfl rfl Try.isAgg5 ?_; (try simp only [Act.put, List.setIfInBounds_toArray, List.set_cons_succ, List.set_cons_zero, List.getElem_toArray, List.getElem_cons_succ, List.getElem_cons_zero])) | (refine L_load1 rfl rfl H 1 rfl rfl rfl Try.isAgg5 ?_; (try simp only [Act.put, List.setIfInBounds_toArray, List.set_cons_succ, List.set_cons_zero, List.getElem_toArray, List.getElem_cons_succ, List.getElem_cons_zero])) | (refine L_load1 rfl rfl H 0 rfl rfl rfl Try.isAgg3 ?_; (try simp only [Act.put, List.setIfInBounds_toArray, List.set_cons_succ, List.set_cons_zero, List.getElem_toArray, List.getElem_cons_succ, List.getElem_cons_zero])) | (refine L_load1 rfl rfl H 1 rfl rfl rfl Try.isAgg3 ?_; (try simp only [Act.put, List.setIfInBounds_toArray, List.set_cons_succ, List.set_cons_zero, List.getElem_toArray, List.getElem_cons_succ, List.getElem_cons_zero])) | (refine L_box rfl rfl H rfl rfl ?_; clear H; intro g w H; (try simp only [Act.eval, Array.getD_eq_getD_getElem?, List.getElem?_toArray, List.getElem?_cons_succ, List.getElem?_cons_zero, Option.getD_some, Value.cells] at H); (try simp only [Act.put, List.setIfInBounds_toArray, List.set_cons_succ, List.set_cons_zero, List.getElem_toArray, List.getElem_cons_succ, List.getElem_cons_zero])) | (go_at_call 32; refine (full_any _ _).mono ?_; rintro e w' ⟨g, rfl, hg⟩; replace H := H.cat hg; clear hg; simp only [List.cons_append, List.nil_append] at H; rename World => w) | (refine L_store1 rfl rfl H 0 rfl rfl rfl rfl rfl hsz2 Try.sizeOf5 ?_; clear H; intro w H; simp only [List.set_cons_zero, List.set_cons_succ, List.setIfInBounds_toArray, Act.eval, Array.getD_eq_getD_getElem?, List.getElem?_toArray, List.getElem?_cons_succ, List.getElem?_cons_zero, Option.getD_some] at H; rw [bcells_set] at H))
    go_ret
    have hl : xs.length = 32 := by rw [HX.out]; simp
    rw [← HX.out] at H
    exact ⟨_, by rw [hl]; rfl, H.drop (List.Sublist.cons_cons _ (List.nil_sublist _))⟩
  · rw [hres _ hb, if_pos rfl]
    clear hres
    go_enter Try.func28, Try.ntmps28
    go_wp2_with (first | (refine L_load1 rfl rfl H 0 rfl rfl rfl Try.isAgg5 ?_; (try simp only [Act.put, List.setIfInBounds_toArray, List.set_cons_succ, List.set_cons_zero, List.getElem_toArray, List.getElem_cons_succ, List.getElem_cons_zero])) | (refine L_load1 rfl rfl H 1 rfl rfl rfl Try.isAgg5 ?_; (try simp only [Act.put, List.setIfInBounds_toArray, List.set_cons_succ, List.set_cons_zero, List.getElem_toArray, List.getElem_cons_succ, List.getElem_cons_zero])) | (refine L_load1 rfl rfl H 0 rfl rfl rfl Try.isAgg3 ?_; (try simp only [Act.put, List.setIfInBounds_toArray, List.set_cons_succ, List.set_cons_zero, List.getElem_toArray, List.getElem_cons_succ, List.getElem_cons_zero])) | (refine L_load1 rfl rfl H 1 rfl rfl rfl Try.isAgg3 ?_; (try simp only [Act.put, List.setIfInBounds_toArray, List.set_cons_succ, List.set_cons_zero, List.getElem_toArray, List.getElem_cons_succ, List.getElem_cons_zero])) | (refine L_box rfl rfl H rfl rfl ?_; clear H; intro g w H; (try simp only [Act.eval, Array.getD_eq_getD_getElem?, List.getElem?_toArray, List.getElem?_cons_succ, List.getElem?_cons_zero, Option.getD_some, Value.cells] at H); (try simp only [Act.put, List.setIfInBounds_toArray, List.set_cons_succ, List.set_cons_zero, List.getElem_toArray, List.getElem_cons_succ, List.getElem_cons_zero])) | (go_at_call 32; refine (full_any _ _).mono ?_; rintro e w' ⟨g, rfl, hg⟩; replace H := H.cat hg; clear hg; simp only [List.cons_append, List.nil_append] at H; rename World => w) | (refine L_store1 rfl rfl H 0 rfl rfl rfl rfl rfl hsz2 Try.sizeOf5 ?_; clear H; intro w H; simp only [List.set_cons_zero, List.set_cons_succ, List.setIfInBounds_toArray, Act.eval, Array.getD_eq_getD_getElem?, List.getElem?_toArray, List.getElem?_cons_succ, List.getElem?_cons_zero, Option.getD_some] at H; rw [bcells_set] at H) | (refine L_make (n := m) rfl rfl H Try.underlying48 hi hz rfl rfl (by rw [hby]; omega) (by simp only [maxLen]; omega) ?_; clear H; intro g w H; rw [hsz, made_bytes] at H))
    go_ret
    exact ⟨_, by rw [List.length_replicate]; rfl, H.drop (List.Sublist.cons_cons _ (List.nil_sublist _))⟩
end Go.Proofs.Ytjdfeagjbhdceaa
