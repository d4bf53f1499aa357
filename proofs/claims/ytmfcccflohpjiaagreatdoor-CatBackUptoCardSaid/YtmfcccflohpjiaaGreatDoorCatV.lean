/- Catalogues: the document's Without. -/
import Derived.Test.YtmfcccflohpjiaaGreatDoorCatW
namespace Go.Proofs.YtmfcccflohpjiaaGreatDoor
set_option linter.unusedVariables false
set_option linter.unusedSimpArgs false
open Go.RowKit

theorem oneEnt {w : World} {g : Nat} {T : TypeId} {fr : Nat × Nat} (x : Ent) (hg : w.heap[g]? = some (.cells (eCells x).toArray T fr)) : RdS eCells 6 w (.slice (some ⟨g, 0, none⟩) 1 1) [x] :=
  ⟨_, _, rfl, Nat.le_refl _, .inr ⟨g, 0, _, T, fr, rfl, hg, fun j hj i hi => by
    obtain rfl : j = 0 := by simp at hj; omega
    simp⟩⟩
def RoRelE (s : ByteArray) (xs : List Ent) (w0 : World) (s5 s6 : Value) (wr : World) : Prop :=
  ∃ i n : Nat, s6 = .int .i64 (i : Int) ∧ i ≤ xs.length ∧ SH (fun _ => False) w0 wr [ownA 39 6 s5 n (cellsOf eCells (kept (eqP s) xs i))] ∧ Hid (n = (kept (eqP s) xs i).length)
set_option maxRecDepth 100000 in
set_option maxHeartbeats 4000000 in
theorem refWithoutC_any (v : Value) (xs : List Ent) (s : ByteArray) (w0 : World) (hr : RdS eCells 6 w0 v xs) (hn : xs.length ≤ 1000) :
    Calls Tryz.prog 21 #[v, .string s] w0 (GivesE w0 (outE s xs)) := by
  obtain ⟨A, cap, rfl, hcap⟩ := hr.len
  have H : SH (fun _ => False) w0 w0 [] := SH.nil _ _
  have HR := Lib.hid hr
  clear hr
  go_enter Tryz.func21, Tryz.ntmps21
  go_wp2_with fail
  replace H := (H.alloc (.cells #[] 39)).toOwn 0 rfl 6 0 0 (Nat.le_refl _) (Nat.zero_le _) rfl [] rfl
  simp only [List.set_cons_zero] at H
  go_loopw [5, 6] (fun s5 s6 wr => RoRelE s xs w0 s5 s6 wr) (fun _ s6 _ => xs.length - (intOf s6).toNat)
  case atStart => exact ⟨0, 0, rfl, Nat.zero_le _, H, Lib.hid rfl⟩
  case round =>
    clear H
    obtain ⟨i, n, rfl, hi9, H, HN⟩ := hrel
    by_cases hin : i < xs.length
    · have hii : (i : Int) < (xs.length : Int) := by omega
      obtain ⟨x, hx⟩ : ∃ x, xs[i] = x := ⟨_, rfl⟩
      obtain ⟨bb, off, cs, T, fr, rfl, hbb, hcs⟩ := ent_cells HR.out hin hx
      have hci := hcs i hin
      have hks := kept_succ (eqP s) xs i hin
      rw [hx] at hci hks
      have HKS := Lib.hid hks
      have hnn : n ≤ 1000 := by have h1 := HN.out; have h2 := kept_len (eqP s) xs i; omega
      have hb1 : (n + 1) * 56 ≤ 140737488355328 := by omega
      have hm1 : n + 1 ≤ maxLen := by simp only [maxLen]; omega
      clear hks hx hcs hnn
      have hpid : cs[off + i * 6]? = some (.string x.path) := hci 0 (by omega)
      obtain ⟨q, hq⟩ : ∃ q, (x.path.toList == s.toList) = q := ⟨_, rfl⟩
      have HQ : Hid (eqP s x = q) := Lib.hid hq
      go_upto_if 20 with (refine L_load1r rfl rfl H rfl hbb (fun e => e) hpid Tryz.isAgg9 ?_; (try simp only [Act.put, List.setIfInBounds_toArray, List.set_cons_succ, List.set_cons_zero, List.getElem_toArray, List.getElem_cons_succ, List.getElem_cons_zero]))
      clear hq
      obtain ⟨p, mode, time, block, at_, size⟩ := x
      have hci6 : ∀ j', j' < 6 → cs[off + i * 6 + j']? = [Value.string p, .int .i64 mode, .int .i64 time, .int .i64 block, .int .i64 at_, .int .i64 size][j']? := fun j hj => hci j hj
      clear hci
      cases q
      · go_wp2_with (first
          | (refine L_loadmidr rfl rfl H rfl hbb (fun e => e) Tryz.underlying39 rfl info39 [Value.string p, .int .i64 mode, .int .i64 time, .int .i64 block, .int .i64 at_, .int .i64 size] rfl hci6 ?_; (try simp only [Act.put, List.setIfInBounds_toArray, List.set_cons_succ, List.set_cons_zero, List.getElem_toArray, List.getElem_cons_succ, List.getElem_cons_zero]))
          | (refine L_litE (e := 39) (cs := #[.string p, .int .i64 mode, .int .i64 time, .int .i64 block, .int .i64 at_, .int .i64 size]) rfl rfl H (by intro _; first | (go_simp; done) | (go_simp; rfl)) ?_; clear H; intro gl w H hEx; clear hEx)
          | (refine L_append eLen eOne rfl rfl Tryz.underlying22 infoEZ rfl (by decide) H 1 rfl rfl rfl (oneEnt ⟨p, mode, time, block, at_, size⟩ (H.at_ 0 rfl)) hb1 hm1 ?_; clear H; intro v2 w H hnn; clear hnn; simp only [List.set_cons_succ, List.set_cons_zero] at H))
        go_roundw
        case rel => exact ⟨i + 1, n + 1, by go_num, by omega, by rw [HKS.out, if_neg (by rw [HQ.out]; simp), cellsOf_append]; exact H.drop (List.sublist_cons_self _ _), Lib.hid (by rw [HKS.out, if_neg (by rw [HQ.out]; simp), List.length_append, ← HN.out]; rfl)⟩
        case measure => simp [intOf]; omega
      · go_wp2_with fail
        go_roundw
        case rel => exact ⟨i + 1, n, by go_num, by omega, by rw [HKS.out, if_pos HQ.out]; exact H, Lib.hid (by rw [HKS.out, if_pos HQ.out]; exact HN.out)⟩
        case measure => simp [intOf]; omega
    · obtain rfl : i = xs.length := by omega
      have hjn2 : ¬ ((xs.length : Int) < (xs.length : Int)) := by omega
      go_wp2_with fail
      go_ret
      exact ⟨_, rfl, by rw [← kept_out]; exact RdS.own eLen HN.out (H.get 0 rfl), H.ext⟩
end Go.Proofs.YtmfcccflohpjiaaGreatDoor
