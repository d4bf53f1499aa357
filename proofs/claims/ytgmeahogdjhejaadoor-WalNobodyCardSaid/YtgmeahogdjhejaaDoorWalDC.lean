/- The disk of the program: Read, Write, Flush. -/
import Derived.Test.YtgmeahogdjhejaaDoorWalDB
import Derived.Test.YtgmeahogdjhejaaDoorSlice
import Derived.Lib.SliceRun
namespace Go.Proofs.YtgmeahogdjhejaaDoor
set_option linter.unusedVariables false
set_option linter.unusedSimpArgs false
open Go.RowKit

theorem infoDu8 : (Tryd.prog.info? 5).map (fun i => (i.zero, i.size, i.bytes)) = some (some (.int .u8 0), 1, 1) := by kernel_rfl

set_option maxRecDepth 100000 in
/-- slices.Clone of bytes. -/
theorem clone_bytes (ad : Addr) (n cap : Nat) (xs : List Int) (w : World) (hr : RdS (encInt .u8) 1 w (.slice (some ad) n cap) xs) (hl : xs.length ≤ 1048576) :
    Calls Tryd.prog 50 #[.slice (some ad) n cap] w fun e w' => ∃ v, e = .returned v ∧ w'.ownsRow w.heap.size 5 1 v xs.length (cellsOf (encInt .u8) xs) ∧ Ext0 w w' := by
  have H : SH (fun _ => False) w w [] := SH.nil _ _
  have he := fun w => Lib.run_eql_slice_nil (P := Tryd.prog) w 23 5 (some ad) n cap 0 0 Tryd.underlying23
  have hm : xs.length ≤ maxLen := by unfold maxLen; omega
  go_enter Tryd.func50, Tryd.ntmps50
  go_wp2_with (first | (refine L_lit (e := ?_) (cs := ?_) rfl rfl H ?_ ?_; rotate_left 2; (focus (intro _; first | (go_simp; done) | (go_simp; with_reducible rfl) | (go_simp; rfl))); all_goals skip; clear H; intro g w H; (try simp only [Act.put, List.setIfInBounds_toArray, List.set_cons_succ, List.set_cons_zero, List.getElem_toArray, List.getElem_cons_succ, List.getElem_cons_zero])) | (have H2 := H.toOwn 0 rfl 1 0 0 (Nat.le_refl _) (Nat.zero_le _) rfl [] rfl; simp only [List.set_cons_zero] at H2; refine L_append (encInt_len .u8) (encInt_one .u8) rfl rfl Tryd.underlying23 infoDu8 rfl (Nat.le_refl _) H2 0 rfl rfl rfl (hr.keep H.ext) (by omega) (by omega) ?_; clear H H2; intro v w H hnn))
  go_ret
  exact ⟨v, rfl, by simpa using H.retOwn 0 rfl (fun _ _ e => e), H.ext⟩

theorem St.rd {s : St} (h : s.Ok) {w : World} {g : Nat} {T : TypeId} {fr : Nat × Nat} (hg : w.heap[g]? = some (.cells s.cells.toArray T fr)) (n cap : Nat) (hn : n = 32) (hc : cap = 32) : RdS (encInt .u8) 1 w (.slice (some ⟨g, 0, none⟩) n cap) s.bytes := by
  subst hn hc
  refine ⟨_, 32, by rw [h.1], by rw [h.1]; exact Nat.le_refl _, .inr ⟨g, 0, _, T, fr, rfl, hg, fun j hj i hi => ?_⟩⟩
  obtain rfl : i = 0 := by omega
  simp only [Nat.zero_add, Nat.mul_one, Nat.add_zero, List.getElem?_toArray, St.cells, encInt]
  rw [List.getElem?_append_left (by simpa using hj)]
  simp [hj]

theorem read_off (p : Option Addr) (i : Int) (w : World) (hth : Calls Tryd.prog 64 #[.pointer p, .int .i64 i] w fun e w' => e = .returned (.bool false) ∧ w = w') :
    Calls Tryd.prog 53 #[.pointer p, .int .i64 i] w fun e w' => e = .returned (.tuple #[.slice none 0 0, .int .i64 1]) ∧ w = w' := by
  go_enter Tryd.func53, Tryd.ntmps53
  go_wp2_with (go_at_call 64; refine hth.mono ?_; rintro e w' ⟨rfl, rfl⟩)
  go_ret2
  exact ⟨rfl, rfl⟩

set_option maxRecDepth 100000 in
set_option maxHeartbeats 400000 in
theorem read_on (b bs bm : Nat) (d : DS) (i : Int) (w : World) (h : (DiskA b bs bm d).says w) (hall : ∀ s ∈ d.sure, s.Ok) (hp : ∀ p ∈ d.pend, p.2.Ok) (h0 : 0 ≤ i) (hi : i < d.sure.length) :
    Calls Tryd.prog 53 #[.pointer (some ⟨b, 0, none⟩), .int .i64 i] w fun e w' => ∃ v, e = .returned (.tuple #[v, .int .i64 0]) ∧ w'.ownsRow w.heap.size 5 1 v 32 (cellsOf (encInt .u8) (d.is i).bytes) ∧ Ext0 w w' := by
  have hth := there_any b bs bm d i w h
  have hd : decide (0 ≤ i ∧ i < d.sure.length) = true := by simp [h0, hi]
  rw [hd] at hth
  have his := is_any b bs bm d i w h hall hp h0 hi
  have hok := DS.is_ok hall hp h0 hi
  clear h hall hp hd h0 hi
  generalize d.is i = s at *
  have H : SH (fun _ => False) w w [] := SH.nil _ _
  have hsz := St.size_arr hok
  have hone := St.one_cells s
  have hl := hok.1
  go_enter Tryd.func53, Tryd.ntmps53
  go_wp2_with (first | (refine L_alloc rfl rfl H zero83 ?_; clear H; intro g w H; (try simp only [Act.put, List.setIfInBounds_toArray, List.set_cons_succ, List.set_cons_zero, List.getElem_toArray, List.getElem_cons_succ, List.getElem_cons_zero])) | (refine L_storerow rfl rfl H 0 rfl rfl rfl info83 ?hn ?ho ?h1 ?_; (case hn => first | rfl | assumption); (case ho => first | rfl | assumption); (case h1 => first | assumption | exact St.one_cells _ | rfl); clear H; intro w H; simp only [List.set_cons_zero, List.set_cons_succ, List.setIfInBounds_toArray, Act.eval, Array.getD_eq_getD_getElem?, List.getElem?_toArray, List.getElem?_cons_succ, List.getElem?_cons_zero, Option.getD_some] at H; (try simp only [Act.put, List.setIfInBounds_toArray, List.set_cons_succ, List.set_cons_zero, List.getElem_toArray, List.getElem_cons_succ, List.getElem_cons_zero])) | (go_at_call 64; refine hth.mono ?_; rintro e w' ⟨rfl, rfl⟩) | (go_at_call 65; refine his.mono ?_; rintro e w' ⟨rfl, hw⟩; replace H := H.calls hw; clear hw) | (go_at_call 50; refine (clone_bytes _ _ _ s.bytes _ (St.rd hok (H.at_ 0 rfl) _ _ rfl rfl) (by omega)).mono ?_; rintro e w' ⟨v, rfl, ho, hw⟩; replace H := H.addOwn hw ho; clear hw ho))
  go_ret2
  exact ⟨v, rfl, by simpa [hl] using H.retOwn 0 rfl (fun _ _ e => e), H.ext⟩

theorem build_state : ∀ (xs : List Int) (_ : xs.length = 32) (wr : Int) (w : World), (Instr.build 83 [(0, .agg (xs.map (Value.int .u8)).toArray), (1, .int .i64 wr)].toArray).run Tryd.prog w = .ok (St.val ⟨xs, wr⟩) w
  | [x0, x1, x2, x3, x4, x5, x6, x7, x8, x9, x10, x11, x12, x13, x14, x15, x16, x17, x18, x19, x20, x21, x22, x23, x24, x25, x26, x27, x28, x29, x30, x31], _, wr, w => by kernel_rfl

/-- The disk's three blocks, laid open. -/
theorem DiskA.open_ {b bs bm : Nat} {d : DS} {w : World} (h : (DiskA b bs bm d).says w) : ∃ ents clock, MapRel (Value.int .i64) St.val ents clock d.pend ∧
    SH (DiskA b bs bm d).fp w w [pt b (.cells #[.int .i64 d.fuse, .slice (some ⟨bs, 0, none⟩) d.sure.length d.sure.length, .map (some bm), .int .i64 d.writes] 58 (0, 0)), pt bs (.cells (flat d.sure).toArray 83 (0, 0)), pt bm (.map ents clock)] := by
  obtain ⟨a1, a2, a3, a4, a5, ents, clock, a6, a7⟩ := h
  refine ⟨ents, clock, a7, Ext.refl _ _, ?_, ?_, ?_, ?_⟩
  · intro A hA; simp only [List.mem_cons, List.not_mem_nil, or_false] at hA
    rcases hA with rfl | rfl | rfl
    · exact a4
    · exact a5
    · exact a6
  · intro A hA i hi; simp only [List.mem_cons, List.not_mem_nil, or_false] at hA
    rcases hA with rfl | rfl | rfl <;> (simp only [pt_fp] at hi; subst hi)
    · exact blk_lt' a4
    · exact blk_lt' a5
    · exact blk_lt' a6
  · intro A hA i hi; simp only [List.mem_cons, List.not_mem_nil, or_false] at hA
    rcases hA with rfl | rfl | rfl <;> (simp only [pt_fp] at hi; subst hi)
    · exact .inl (.inl rfl)
    · exact .inl (.inr (.inl rfl))
    · exact .inl (.inr (.inr rfl))
  · simp [List.pairwise_cons]; exact ⟨⟨a1, a2⟩, a3⟩
theorem DiskA.shut {b bs bm : Nat} {d : DS} {M : Nat → Prop} {w0 w : World} {L : List Asr} {ents : Array MapEntry} {clock : Nat} (hr : MapRel (Value.int .i64) St.val ents clock d.pend)
    (H : SH M w0 w (pt b (.cells #[.int .i64 d.fuse, .slice (some ⟨bs, 0, none⟩) d.sure.length d.sure.length, .map (some bm), .int .i64 d.writes] 58 (0, 0)) :: pt bs (.cells (flat d.sure).toArray 83 (0, 0)) :: pt bm (.map ents clock) :: L)) : (DiskA b bs bm d).says w := by
  have hp := H.apart
  simp only [List.pairwise_cons, List.mem_cons, pt_fp] at hp
  exact ⟨fun e => hp.1 _ (.inl rfl) b rfl e, fun e => hp.1 _ (.inr (.inl rfl)) b rfl e, fun e => hp.2.1 _ (.inl rfl) bs rfl e, H.at_ 0 rfl, H.at_ 1 rfl, ents, clock, H.at_ 2 rfl, hr⟩

theorem info81 : (Tryd.prog.info? 81).map (·.size) = some 32 := by kernel_rfl
theorem write_off (p : Option Addr) (i : Int) (v : Value) (w : World) (hth : Calls Tryd.prog 64 #[.pointer p, .int .i64 i] w fun e w' => e = .returned (.bool false) ∧ w = w') :
    Calls Tryd.prog 47 #[.pointer p, .int .i64 i, v] w fun e w' => e = .returned (.int .i64 1) ∧ w = w' := by
  go_enter Tryd.func47, Tryd.ntmps47
  go_wp2_with (go_at_call 64; refine hth.mono ?_; rintro e w' ⟨rfl, rfl⟩)
  go_ret
  exact ⟨rfl, rfl⟩
theorem write_len (p : Option Addr) (i : Int) (A : Option Addr) (n cap : Nat) (w : World) (hn : n ≠ 32) (hth : Calls Tryd.prog 64 #[.pointer p, .int .i64 i] w fun e w' => e = .returned (.bool true) ∧ w = w') :
    Calls Tryd.prog 47 #[.pointer p, .int .i64 i, .slice A n cap] w fun e w' => e = .returned (.int .i64 1) ∧ w = w' := by
  have h1 : ((n : Int) != 32) = true := by rw [bne_iff_ne]; omega
  go_enter Tryd.func47, Tryd.ntmps47
  go_wp2_with (go_at_call 64; refine hth.mono ?_; rintro e w' ⟨rfl, rfl⟩)
  go_ret
  exact ⟨rfl, rfl⟩
theorem write_down (b bs bm : Nat) (d : DS) (i : Int) (A : Option Addr) (cap : Nat) (w : World) (h : (DiskA b bs bm d).says w) (hf : d.fuse = 0) (hth : Calls Tryd.prog 64 #[.pointer (some ⟨b, 0, none⟩), .int .i64 i] w fun e w' => e = .returned (.bool true) ∧ w = w') :
    Calls Tryd.prog 47 #[.pointer (some ⟨b, 0, none⟩), .int .i64 i, .slice A 32 cap] w fun e w' => e = .returned (.int .i64 10) ∧ Ext (fun i => i = b) w w' ∧ (DiskA b bs bm d).says w' := by
  have hs := spend_any b bs bm d w h (by omega)
  have hd : d.spend = (d, false) := by simp [DS.spend, hf]
  rw [hd] at hs
  clear h hf
  go_enter Tryd.func47, Tryd.ntmps47
  go_wp2_with (first | (go_at_call 64; refine hth.mono ?_; rintro e w' ⟨rfl, rfl⟩) | (go_at_call 48; refine hs.mono ?_; rintro e w' ⟨rfl, hw, hs'⟩))
  go_ret
  exact ⟨rfl, hw, hs'⟩

/-- A sector written. -/
def DS.write (d : DS) (i : Int) (bytes : List Int) : DS := { d.spend.1 with pend := putE d.pend i ⟨bytes, d.writes + 1⟩, writes := d.writes + 1 }

set_option maxRecDepth 100000 in
set_option maxHeartbeats 1000000 in
theorem write_on (b bs bm : Nat) (d : DS) (i : Int) (v : Value) (xs : List Int) (w : World) (h : (DiskA b bs bm d).says w) (hf : -1 ≤ d.fuse ∧ d.fuse ≤ 9223372036854775807) (hf0 : d.fuse ≠ 0) (hw0 : 0 ≤ d.writes) (hw1 : d.writes < 9223372036854775807)
    (hr : RdS (encInt .u8) 1 w v xs) (hx : xs.length = 32) (hap : ∀ j, v.ownBlock = some j → ¬ (DiskA b bs bm d).fp j) (hth : Calls Tryd.prog 64 #[.pointer (some ⟨b, 0, none⟩), .int .i64 i] w fun e w' => e = .returned (.bool true) ∧ w = w') :
    Calls Tryd.prog 47 #[.pointer (some ⟨b, 0, none⟩), .int .i64 i, v] w fun e w' => e = .returned (.int .i64 0) ∧ Ext (DiskA b bs bm d).fp w w' ∧ (DiskA b bs bm (d.write i xs)).says w' := by
  have hs := spend_any b bs bm d w h hf
  have hd2 : d.spend.2 = true := by unfold DS.spend; split <;> simp_all
  have hds : d.spend.1.sure = d.sure ∧ d.spend.1.pend = d.pend ∧ d.spend.1.writes = d.writes := by unfold DS.spend; split <;> (try split) <;> simp
  rw [hd2] at hs
  obtain ⟨A, cap, rfl, hcap, hcs⟩ := hr
  rcases hcs with rfl | ⟨g, off, cs, T, fr, rfl, hg, hcs⟩
  · simp at hx
  rw [hx] at hcap ⊢
  have hcs' : ∀ j, j < 32 → cs[off + j]? = (xs.map (Value.int .u8))[j]? := fun j hj => by
    have h1 := hcs j (by omega) 0 (by omega)
    simp only [Nat.mul_one, Nat.add_zero, encInt, List.getElem?_cons_zero] at h1
    rw [h1]; simp [show j < xs.length by omega]
  clear hcs
  obtain ⟨hs1, hs2, hs3⟩ := hds
  unfold DS.write
  generalize hd' : d.spend.1 = d' at *
  have hgb : ¬ (DiskA b bs bm d).fp g := hap g rfl
  clear h hd' hd2 hap
  go_enter Tryd.func47, Tryd.ntmps47
  go_wp2_with (first | (go_at_call 64; refine hth.mono ?_; rintro e w' ⟨rfl, rfl⟩) | (go_at_call 48; refine hs.mono ?_; rintro e w' ⟨rfl, hw, hs'⟩; obtain ⟨ents, clock, hrel, H0⟩ := DiskA.open_ hs'; have H := SH.after (M := (DiskA b bs bm d).fp) H0 hw (fun j e => .inl e); clear H0 hs' hw) | (refine L_load1 rfl rfl H 0 rfl rfl rfl Tryd.isAgg3 ?_; (try simp only [Act.put, List.setIfInBounds_toArray, List.set_cons_succ, List.set_cons_zero, List.getElem_toArray, List.getElem_cons_succ, List.getElem_cons_zero])) | (refine L_store1 rfl rfl H 0 rfl rfl rfl rfl rfl (Nat.le_of_ble_eq_true rfl) Tryd.sizeOf3 ?_; clear H; intro w H; simp only [List.set_cons_zero, List.set_cons_succ, List.setIfInBounds_toArray, Act.eval, Array.getD_eq_getD_getElem?, List.getElem?_toArray, List.getElem?_cons_succ, List.getElem?_cons_zero, Option.getD_some] at H; (try simp only [Act.put, List.setIfInBounds_toArray, List.set_cons_succ, List.set_cons_zero, List.getElem_toArray, List.getElem_cons_succ, List.getElem_cons_zero])))
  obtain ⟨ents', clock', hrel', hrun⟩ := run_update_map (keyOk_int Tryd.underlying3) Tryd.underlying56 (H.drew.at_ 2 rfl) hrel i ⟨xs, d.writes + 1⟩
  have hup := H.drew.upd 2 rfl (Ext.putO _ bm (.map ents' clock')) (A' := pt bm (.map ents' clock')) (putO_same (by have := blk_lt' (H.drew.at_ 2 rfl); simpa using this) _) (fun j hj => ⟨.inl hj, by simp only [pt_fp] at hj; subst hj; rw [putO_size]; exact blk_lt' (H.drew.at_ 2 rfl)⟩)
  simp only [List.set_cons_zero, List.set_cons_succ] at hup
  have H2 := H.drop (L' := [_, _]) (List.Sublist.cons_cons _ (List.Sublist.cons_cons _ (List.nil_sublist _)))
  clear H
  refine D_start H2 (by kernel_rfl) (fun hS => ?_)
  try simp only [Act.put, List.setIfInBounds_toArray, List.set_cons_succ, List.set_cons_zero]
  refine D_take 0 (v := ?_) rfl (by kernel_rfl) (by kernel_rfl) (by kernel_rfl) (fun _ _ _ h => h) rfl (by rfl) (fun W hS => ?_) hS ?_
  rotate_left; (focus (first | (go_simp; done) | (go_simp; with_reducible rfl) | (go_simp; rfl))); all_goals skip; (try simp only [List.set_cons_succ, List.set_cons_zero])
  refine D_take 1 (v := ?_) rfl (by kernel_rfl) (by kernel_rfl) (by kernel_rfl) (fun _ _ _ h => h) rfl (by rfl) (fun W hS => ?_) hS ?_
  rotate_left; (focus (first | (go_simp; done) | (go_simp; with_reducible rfl) | (go_simp; rfl))); all_goals skip; (try simp only [List.set_cons_succ, List.set_cons_zero])
  refine D_take 2 (v := ?_) rfl (by kernel_rfl) (by kernel_rfl) (by kernel_rfl) (fun _ _ _ h => h) rfl (by rfl) (fun W hS => ?_) hS ?_
  rotate_left; (focus (first | (go_simp; done) | (go_simp; with_reducible rfl) | (go_simp; rfl))); all_goals skip; (try simp only [List.set_cons_succ, List.set_cons_zero])
  refine D_take 3 (v := ?_) rfl (by kernel_rfl) (by kernel_rfl) (by kernel_rfl) (fun _ _ _ h => h) rfl (by rfl) (fun W hS => ?_) hS ?_
  rotate_left; (focus (first | (refine R_load1 (ty := 56) (x := Operand.tmp 32) rfl hS 0 rfl rfl ?_ Tryd.isAgg56; rfl))); all_goals skip; (try simp only [List.set_cons_succ, List.set_cons_zero, List.getElem_toArray, List.getElem_cons_succ, List.getElem_cons_zero])
  refine D_take 4 (v := ?_) rfl (by kernel_rfl) (by kernel_rfl) (by kernel_rfl) (fun _ _ _ h => h) rfl (by rfl) (fun W hS => ?_) hS ?_
  rotate_left; (focus (first | (go_simp; done) | (go_simp; with_reducible rfl) | (go_simp; rfl))); all_goals skip; (try simp only [List.set_cons_succ, List.set_cons_zero])
  refine D_take 5 (v := ?_) rfl (by kernel_rfl) (by kernel_rfl) (by kernel_rfl) (fun _ _ _ h => h) rfl (by rfl) (fun W hS => ?_) hS ?_
  rotate_left; (focus (first | (go_simp; done) | (go_simp; with_reducible rfl) | (go_simp; rfl))); all_goals skip; (try simp only [List.set_cons_succ, List.set_cons_zero])
  refine D_take 6 (v := ?_) rfl (by kernel_rfl) (by kernel_rfl) (by kernel_rfl) (fun _ _ _ h => h) rfl (by rfl) (fun W hS => ?_) hS ?_
  rotate_left; (focus (first | (go_simp; done) | (go_simp; with_reducible rfl) | (go_simp; rfl))); all_goals skip; (try simp only [List.set_cons_succ, List.set_cons_zero])
  refine D_take 7 (v := .agg (xs.map (Value.int .u8)).toArray) rfl (by kernel_rfl) (by kernel_rfl) (by kernel_rfl) (fun _ _ _ h => h) rfl (by rfl) (fun W hS => R_loadmid (ty := 81) (x := .tmp 36) (b := g) (off := off) rfl rfl (hS.ext.keep hg hgb) Tryd.underlying81 rfl info81 (xs.map (Value.int .u8)) (by simp [hx]) hcs') hS ?_; (try simp only [List.set_cons_succ, List.set_cons_zero])
  refine D_take 8 (v := ?_) rfl (by kernel_rfl) (by kernel_rfl) (by kernel_rfl) (fun _ _ _ h => h) rfl (by rfl) (fun W hS => ?_) hS ?_
  rotate_left; (focus (first | (go_simp; done) | (go_simp; with_reducible rfl) | (go_simp; rfl))); all_goals skip; (try simp only [List.set_cons_succ, List.set_cons_zero])
  refine D_take 9 (v := ?_) rfl (by kernel_rfl) (by kernel_rfl) (by kernel_rfl) (fun _ _ _ h => h) rfl (by rfl) (fun W hS => ?_) hS ?_
  rotate_left; (focus (first | (go_simp; done) | (go_simp; with_reducible rfl) | (go_simp; rfl))); all_goals skip; (try simp only [List.set_cons_succ, List.set_cons_zero])
  refine D_take 10 (v := ?_) rfl (by kernel_rfl) (by kernel_rfl) (by kernel_rfl) (fun _ _ _ h => h) rfl (by rfl) (fun W hS => ?_) hS ?_
  rotate_left; (focus (first | (go_simp; done) | (go_simp; with_reducible rfl) | (go_simp; rfl))); all_goals skip; (try simp only [List.set_cons_succ, List.set_cons_zero])
  refine D_take 11 (v := ?_) rfl (by kernel_rfl) (by kernel_rfl) (by kernel_rfl) (fun _ _ _ h => h) rfl (by rfl) (fun W hS => ?_) hS ?_
  rotate_left; (focus (first | (refine R_load1 (ty := 3) (x := Operand.tmp 40) rfl hS 0 rfl rfl ?_ Tryd.isAgg3; rfl))); all_goals skip; (try simp only [List.set_cons_succ, List.set_cons_zero, List.getElem_toArray, List.getElem_cons_succ, List.getElem_cons_zero])
  refine D_take 12 (v := St.val ⟨xs, d.writes + 1⟩) rfl (by kernel_rfl) (by kernel_rfl) (by kernel_rfl) (fun _ _ _ h => h) rfl (by rfl) (fun W hS => R_build rfl rfl (build_state xs hx (d.writes + 1) W)) hS ?_; (try simp only [List.set_cons_succ, List.set_cons_zero])
  refine D_one 13 rfl (by kernel_rfl) (by rfl) ?_
  refine wp_of_skip (R_mapUpdate rfl rfl rfl rfl hrun) ⟨hup.drop (List.Sublist.cons_cons _ (List.Sublist.cons_cons _ (List.nil_sublist _))), ?_⟩
  try simp only [Act.put, List.getElem_toArray, List.getElem_cons_succ, List.getElem_cons_zero, List.setIfInBounds_toArray, List.set_cons_succ, List.set_cons_zero]
  refine wpAnyH_done (by kernel_rfl) ?_ _
  go_wp2_with fail
  go_ret
  exact ⟨rfl, hup.ext, by rw [← hs2]; exact DiskA.shut hrel' hup⟩
end Go.Proofs.YtgmeahogdjhejaaDoor
