/- The disk of the program: Flush. -/
import Derived.Test.YtgmeahogdjhejaaDoorWalDC
import Derived.Test.YtgmeahogdjhejaaDoorMap2
namespace Go.Proofs.YtgmeahogdjhejaaDoor
set_option linter.unusedVariables false
set_option linter.unusedSimpArgs false
open Go.RowKit
open Go.Sort (setMany size_setMany)

/-- Sectors, with some put in their places. -/
def applyAll (sure : List St) (es : List (Int × St)) : List St := es.foldl (fun l p => l.set p.1.toNat p.2) sure
theorem applyAll_length (es : List (Int × St)) : ∀ sure : List St, (applyAll sure es).length = sure.length := by
  induction es with
  | nil => intro sure; rfl
  | cons p es ih => intro sure; simp only [applyAll, List.foldl_cons] at ih ⊢; rw [ih]; simp
theorem applyAll_get (es : List (Int × St)) (hn : (es.map (·.1)).Nodup) (h0 : ∀ p ∈ es, 0 ≤ p.1) : ∀ (sure : List St) (j : Nat) (hj : j < sure.length), (applyAll sure es)[j]? = some ((getE es (j : Int)).getD sure[j]) := by
  induction es with
  | nil => intro sure j hj; simp [applyAll, getE_nil, hj]
  | cons p es ih =>
    intro sure j hj
    simp only [List.map_cons, List.nodup_cons] at hn
    have := ih hn.2 (fun q hq => h0 q (by simp [hq])) (sure.set p.1.toNat p.2) j (by simpa using hj)
    simp only [applyAll, List.foldl_cons] at this ⊢
    rw [this, getE_cons]
    have hp := h0 p (by simp)
    by_cases e : (j : Int) = p.1
    · have hnone : getE es (j : Int) = none := getE_none.2 (by rw [e]; exact hn.1)
      rw [if_pos e, hnone]
      have : p.1.toNat = j := by omega
      simp [this]
    · rw [if_neg e]
      have : p.1.toNat ≠ j := by omega
      congr 1; simp [this]
theorem getE_perm {V : Type} {es es' : List (Int × V)} (h : es.Perm es') (hn : (es.map (·.1)).Nodup) (k : Int) : getE es k = getE es' k := by
  have hn' : (es'.map (·.1)).Nodup := (h.map _).nodup_iff.1 hn
  cases hg : getE es k with
  | none =>
    have := getE_none.1 hg
    rw [eq_comm, getE_none]
    intro hm; exact this ((h.map _).symm.subset hm)
  | some v => exact (getE_of_mem hn' (h.subset (getE_mem hg))).symm
theorem applyAll_perm {sure : List St} {es es' : List (Int × St)} (h : es.Perm es') (hn : (es.map (·.1)).Nodup) (h0 : ∀ p ∈ es, 0 ≤ p.1) : applyAll sure es = applyAll sure es' := by
  apply List.ext_getElem?
  intro j
  by_cases hj : j < sure.length
  · rw [applyAll_get es hn h0 sure j hj, applyAll_get es' ((h.map _).nodup_iff.1 hn) (fun p hp => h0 p (h.symm.subset hp)) sure j hj, getE_perm h hn]
  · rw [List.getElem?_eq_none (by rw [applyAll_length]; omega), List.getElem?_eq_none (by rw [applyAll_length]; omega)]
theorem applyAll_snoc (sure : List St) (es : List (Int × St)) (p : Int × St) : applyAll sure (es ++ [p]) = (applyAll sure es).set p.1.toNat p.2 := by simp [applyAll]
theorem applyAll_ok {sure : List St} {es : List (Int × St)} (h1 : ∀ s ∈ sure, s.Ok) (h2 : ∀ p ∈ es, p.2.Ok) : ∀ s ∈ applyAll sure es, s.Ok := by
  induction es generalizing sure with
  | nil => exact h1
  | cons p es ih =>
    refine ih (sure := sure.set p.1.toNat p.2) (fun s hs => ?_) (fun q hq => h2 q (by simp [hq]))
    rcases List.mem_or_eq_of_mem_set hs with h | rfl
    · exact h1 s h
    · exact h2 p (by simp)

theorem length_flat {ss : List St} (h : ∀ s ∈ ss, s.Ok) : (flat ss).length = ss.length * 33 := by
  induction ss with
  | nil => rfl
  | cons s ss ih =>
    have := ih (fun x hx => h x (by simp [hx]))
    simp only [flat, List.flatMap_cons, List.length_append, List.length_cons] at this ⊢
    rw [this, St.size_cells (h s (by simp))]; omega
theorem flat_set {ss : List St} (h : ∀ s ∈ ss, s.Ok) (k : Nat) (hk : k < ss.length) (s : St) (hs : s.Ok) : setMany (flat ss).toArray (k * 33) s.cells = (flat (ss.set k s)).toArray := by
  have hok' : ∀ x ∈ ss.set k s, x.Ok := fun x hx => by
    rcases List.mem_or_eq_of_mem_set hx with h' | rfl
    · exact h x h'
    · exact hs
  have hl := length_flat h
  have hl' := length_flat hok'
  rw [List.length_set] at hl'
  have hkk : (k + 1) * 33 ≤ ss.length * 33 := Nat.mul_le_mul_right 33 hk
  have hsc := St.size_cells hs
  apply Array.ext_getElem?
  intro j
  by_cases hj : j < ss.length * 33
  · rw [get_setMany _ _ _ _ (by simp only [List.size_toArray]; omega)]
    have hq : j / 33 < ss.length := by omega
    have hm : j / 33 * 33 + j % 33 = j := by omega
    have e1 := flat_at ss h (j / 33) hq (j % 33) (by omega)
    have e2 := flat_at (ss.set k s) hok' (j / 33) (by simpa using hq) (j % 33) (by omega)
    rw [hm] at e1 e2
    simp only [List.getElem?_toArray]
    rw [e2, e1]
    by_cases hjk : j / 33 = k
    · rw [if_pos (by omega)]
      have : j - k * 33 = j % 33 := by omega
      simp [hjk, hk, this]
    · rw [if_neg (by omega)]
      simp [Ne.symm hjk]
  · rw [Array.getElem?_eq_none (by simp; omega), Array.getElem?_eq_none (by simp; omega)]

theorem flush_nil (w : World) : Calls Tryd.prog 31 #[.pointer none] w fun e w' => e = .returned (.int .i64 1) ∧ w = w' := by
  go_enter Tryd.func31, Tryd.ntmps31
  go_wp2_with fail
  go_ret
  exact ⟨rfl, rfl⟩
theorem flush_down (b bs bm : Nat) (d : DS) (w : World) (h : (DiskA b bs bm d).says w) (hf : d.fuse = 0) :
    Calls Tryd.prog 31 #[.pointer (some ⟨b, 0, none⟩)] w fun e w' => e = .returned (.int .i64 10) ∧ Ext (fun i => i = b) w w' ∧ (DiskA b bs bm d).says w' := by
  have hs := spend_any b bs bm d w h (by omega)
  have hd : d.spend = (d, false) := by simp [DS.spend, hf]
  rw [hd] at hs
  clear h hf
  go_enter Tryd.func31, Tryd.ntmps31
  go_wp2_with (go_at_call 48; refine hs.mono ?_; rintro e w' ⟨rfl, hw, hs'⟩)
  go_ret
  exact ⟨rfl, hw, hs'⟩

theorem DS.spend_eq (d : DS) (h : d.fuse ≠ 0) : ∃ f, d.spend = (⟨f, d.sure, d.pend, d.writes⟩, true) := by
  unfold DS.spend; split
  · exact ⟨_, rfl⟩
  · (try rw [if_neg h]); exact ⟨_, rfl⟩

def DS.flush (d : DS) : DS := { d.spend.1 with sure := applyAll d.sure d.pend, pend := [] }

/-- At the head of a round of Flush's. -/
def FlushRel (b bs bm : Nat) (f : Int) (d : DS) (w0 : World) (r : Nat) (ents : Array MapEntry) (clock : Nat) (dec : MapEntry → Int × St) (wr : World) : Prop :=
  ∃ seen dl rl, Iter ents seen dl rl ∧ SH (DiskA b bs bm d).fp w0 wr [pt r (.mapIter (some bm) clock seen clock), pt b (.cells #[.int .i64 f, .slice (some ⟨bs, 0, none⟩) d.sure.length d.sure.length, .map (some bm), .int .i64 d.writes] 58 (0, 0)), pt bs (.cells (flat (applyAll d.sure (dl.map dec))).toArray 83 (0, 0)), pt bm (.map ents clock)]

set_option maxRecDepth 100000 in
set_option maxHeartbeats 1000000 in
theorem flush_on (b bs bm : Nat) (d : DS) (w0 : World) (h : (DiskA b bs bm d).says w0) (hf : -1 ≤ d.fuse ∧ d.fuse ≤ 9223372036854775807) (hf0 : d.fuse ≠ 0) (hall : ∀ s ∈ d.sure, s.Ok) (hp : ∀ p ∈ d.pend, p.2.Ok ∧ 0 ≤ p.1 ∧ p.1 < d.sure.length) :
    Calls Tryd.prog 31 #[.pointer (some ⟨b, 0, none⟩)] w0 fun e w' => e = .returned (.int .i64 0) ∧ Ext (DiskA b bs bm d).fp w0 w' ∧ (DiskA b bs bm d.flush).says w' := by
  have hs := spend_any b bs bm d w0 h hf
  obtain ⟨f, hd⟩ := d.spend_eq hf0
  unfold DS.flush
  rw [hd] at hs ⊢
  clear h hd hf hf0
  go_enter Tryd.func31, Tryd.ntmps31
  go_wp2_with (first | (go_at_call 48; refine hs.mono ?_; rintro e w' ⟨rfl, hw, hs'⟩; obtain ⟨ents, clock, hrel, H0⟩ := DiskA.open_ hs'; have H := SH.after (M := (DiskA b bs bm d).fp) H0 hw (fun j e => .inl e); clear H0 hs' hw) | (refine L_load1 rfl rfl H 0 rfl rfl rfl Tryd.isAgg56 ?_; (try simp only [Act.put, List.setIfInBounds_toArray, List.set_cons_succ, List.set_cons_zero, List.getElem_toArray, List.getElem_cons_succ, List.getElem_cons_zero])) | (refine L_range rfl rfl H rfl Tryd.underlying56 (H.at_ 2 rfl) ?_; clear H; intro r w H; (try simp only [Act.put, List.setIfInBounds_toArray, List.set_cons_succ, List.set_cons_zero, List.getElem_toArray, List.getElem_cons_succ, List.getElem_cons_zero])))
  clear hs
  obtain ⟨dec, hdec, hkv⟩ := hrel.dec (0, St.zero)
  have H_1 := H
  clear H
  have HKV := Lib.hid hkv
  clear hkv
  have HDEC := Lib.hid hdec
  clear hdec
  have hold := hrel.clock
  have hnd : (ents.toList.map (·.born)).Nodup := hrel.born.imp (fun hlt => Nat.ne_of_lt hlt)
  go_loopw [3] (fun _ wr => FlushRel b bs bm f d w0 r ents clock dec wr) (fun _ wr => (leftOf ents (wr.iterSeen r)).size)
  case atStart => exact ⟨#[], [], _, Iter.start ents, H_1⟩
  case round =>
    obtain ⟨seen, dl, rl, hit, H⟩ := hrel
    clear H_1
    have HS0 := Lib.hid (show wr.iterSeen r = seen by simp [World.iterSeen, H.at_ 0 rfl])
    go_wp2_with (first | (refine L_next rfl rfl H 0 3 rfl rfl rfl hold (fun h0 => ?_) (fun e he w H1 => ?_); rotate_left; (clear H; have H := H1; clear H1; simp only [List.set_cons_zero] at H; obtain ⟨hk1, hk2⟩ := HKV.out e (mem_left he).1; have hmem : dec e ∈ d.pend := (by rw [← HDEC.out]; exact List.mem_map_of_mem (mem_left he).1); obtain ⟨hok, hz0, hz1⟩ := hp (dec e) hmem; have hsz := St.size_arr hok; have hone := St.one_cells (dec e).2; obtain ⟨n, hn⟩ := Int.eq_ofNat_of_zero_le hz0; rw [hn] at hk1 hz1; have HN := Lib.hid hn; clear hn; have hmem' := (mem_left he).1; (try simp only [Act.put, List.setIfInBounds_toArray, List.set_cons_succ, List.set_cons_zero, List.getElem_toArray, List.getElem_cons_succ, List.getElem_cons_zero])); rotate_right; (try simp only [Act.put, List.setIfInBounds_toArray, List.set_cons_succ, List.set_cons_zero, List.getElem_toArray, List.getElem_cons_succ, List.getElem_cons_zero])) | (refine L_entry rfl rfl H 0 3 rfl rfl rfl hmem' hnd ?_; (try simp only [Act.put, List.setIfInBounds_toArray, List.set_cons_succ, List.set_cons_zero, List.getElem_toArray, List.getElem_cons_succ, List.getElem_cons_zero])) | (refine L_alloc rfl rfl H zero83 ?_; clear H; intro g w H; (try simp only [Act.put, List.setIfInBounds_toArray, List.set_cons_succ, List.set_cons_zero, List.getElem_toArray, List.getElem_cons_succ, List.getElem_cons_zero])) | (refine L_storerow rfl rfl H 0 rfl rfl rfl info83 ?hn ?ho ?h1 ?_; (case hn => first | rfl | assumption); (case ho => first | rfl | assumption); (case h1 => first | assumption | exact St.one_cells _ | rfl); clear H; intro w H; simp only [List.set_cons_zero, List.set_cons_succ, List.setIfInBounds_toArray, Act.eval, Array.getD_eq_getD_getElem?, List.getElem?_toArray, List.getElem?_cons_succ, List.getElem?_cons_zero, Option.getD_some] at H; (try simp only [Act.put, List.setIfInBounds_toArray, List.set_cons_succ, List.set_cons_zero, List.getElem_toArray, List.getElem_cons_succ, List.getElem_cons_zero])) | (refine L_load1 rfl rfl H 0 rfl rfl rfl Tryd.isAgg56 ?_; (try simp only [Act.put, List.setIfInBounds_toArray, List.set_cons_succ, List.set_cons_zero, List.getElem_toArray, List.getElem_cons_succ, List.getElem_cons_zero])) | (refine L_load1 rfl rfl H 1 rfl rfl rfl Tryd.isAgg56 ?_; (try simp only [Act.put, List.setIfInBounds_toArray, List.set_cons_succ, List.set_cons_zero, List.getElem_toArray, List.getElem_cons_succ, List.getElem_cons_zero])) | (refine L_clear rfl rfl H 3 rfl rfl Tryd.underlying56 ?_; clear H; intro w H; simp only [List.set_cons_zero, List.set_cons_succ] at H; (try simp only [Act.put, List.setIfInBounds_toArray, List.set_cons_succ, List.set_cons_zero, List.getElem_toArray, List.getElem_cons_succ, List.getElem_cons_zero])))
    · go_ret
      have hdp : (dl.map dec).Perm d.pend := by rw [← HDEC.out]; exact (hit.done hnd h0).map dec
      have hkn : ((dl.map dec).map (·.1)).Nodup := (hdp.map _).nodup_iff.2 hrel.keys
      have hap := applyAll_perm (sure := d.sure) hdp hkn (fun p hp' => (hp p (hdp.subset hp')).2.1)
      rw [hap] at H
      have hln : d.sure.length = (applyAll d.sure d.pend).length := (applyAll_length _ _).symm
      refine ⟨rfl, H.ext, ?_⟩
      refine DiskA.shut (M := (DiskA b bs bm d).fp) (w0 := w0) (d := { fuse := f, sure := applyAll d.sure d.pend, pend := [], writes := d.writes }) (MapRel.empty _ _ clock) (L := []) ?_
      rw [← hln]
      exact H.drop (List.sublist_cons_self _ _)
    · have hall' : ∀ s ∈ applyAll d.sure (dl.map dec), s.Ok := applyAll_ok hall (fun q hq => by
        obtain ⟨y, hy, rfl⟩ := List.mem_map.1 hq
        exact (hp _ (by rw [← HDEC.out]; exact List.mem_map_of_mem (hit.1.subset (List.mem_append_left _ hy)))).1)
      have hnl : n < (applyAll d.sure (dl.map dec)).length := by rw [applyAll_length]; omega
      have hln := length_flat hall'
      have hsp : n * 33 + 33 ≤ (flat (applyAll d.sure (dl.map dec))).toArray.size := by simp only [List.size_toArray, hln]; omega
      have hup := H.drew.setMid 3 rfl (n * 33) (dec e).2.cells
      rw [flat_set hall' n hnl _ hok] at hup
      simp only [List.set_cons_zero, List.set_cons_succ] at hup
      have hst := fun (a : Act) (o : Oper) ho hx hy => R_storemid (P := Tryd.prog) (a := a) (o := o) (ty := 83) (x := .tmp 30) (y := .tmp 29) ho H.drew 3 (off := n * 33) (vs := (dec e).2.cells.toArray) hx hy rfl info83 hsz hsp hone
      have H2 := H.drop (L' := [_, _, _]) (List.Sublist.cons_cons _ (List.Sublist.cons_cons _ (List.Sublist.cons_cons _ (List.nil_sublist _))))
      have HH := Lib.hid (And.intro hup hst)
      clear hup hst hln hsp hall hp hall' H
      have hb0 : n < d.sure.length := by omega
      refine D_start H2 (by kernel_rfl) (fun hS => ?_)
      try simp only [Act.put, List.setIfInBounds_toArray, List.set_cons_succ, List.set_cons_zero]
      refine D_take 0 (v := ?_) rfl (by kernel_rfl) (by kernel_rfl) (by kernel_rfl) (fun _ _ _ h => h) rfl (by rfl) (fun W hS => ?_) hS ?_
      rotate_left; (focus (first | (go_simp; done) | (go_simp; with_reducible rfl) | (go_simp; rfl))); all_goals skip; (try simp only [List.set_cons_succ, List.set_cons_zero])
      refine D_take 1 (v := ?_) rfl (by kernel_rfl) (by kernel_rfl) (by kernel_rfl) (fun _ _ _ h => h) rfl (by rfl) (fun W hS => ?_) hS ?_
      rotate_left; (focus (first | (go_simp; done) | (go_simp; with_reducible rfl) | (go_simp; rfl))); all_goals skip; (try simp only [List.set_cons_succ, List.set_cons_zero])
      refine D_take 2 (v := ?_) rfl (by kernel_rfl) (by kernel_rfl) (by kernel_rfl) (fun _ _ _ h => h) rfl (by rfl) (fun W hS => ?_) hS ?_
      rotate_left; (focus (first | (go_simp; done) | (go_simp; with_reducible rfl) | (go_simp; rfl))); all_goals skip; (try simp only [List.set_cons_succ, List.set_cons_zero])
      refine D_take 3 (v := ?_) rfl (by kernel_rfl) (by kernel_rfl) (by kernel_rfl) (fun _ _ _ h => h) rfl (by rfl) (fun W hS => ?_) hS ?_
      rotate_left; (focus (first | (refine R_load1 (ty := 55) (x := Operand.tmp 26) rfl hS 2 rfl rfl ?_ Tryd.isAgg55; rfl))); all_goals skip; (try simp only [List.set_cons_succ, List.set_cons_zero, List.getElem_toArray, List.getElem_cons_succ, List.getElem_cons_zero])
      refine D_take 4 (v := ?_) rfl (by kernel_rfl) (by kernel_rfl) (by kernel_rfl) (fun _ _ _ h => h) rfl (by rfl) (fun W hS => ?_) hS ?_
      rotate_left; (focus (first | (go_simp; done) | (go_simp; with_reducible rfl) | (go_simp; rfl))); all_goals skip; (try simp only [List.set_cons_succ, List.set_cons_zero])
      refine D_take 5 (v := (dec e).2.val) rfl (by kernel_rfl) (by kernel_rfl) (by kernel_rfl) (fun _ _ _ h => h) rfl (by rfl) (fun W hS => R_loadrow (ty := 83) (x := .tmp 4) rfl hS 0 rfl rfl Tryd.underlying83 rfl info83 hsz) hS ?_; (try simp only [List.set_cons_succ, List.set_cons_zero])
      refine D_take 6 (v := ?_) rfl (by kernel_rfl) (by kernel_rfl) (by kernel_rfl) (fun _ _ _ h => h) rfl (by rfl) (fun W hS => ?_) hS ?_
      rotate_left; (focus (first | (go_simp; done) | (go_simp; with_reducible rfl) | (go_simp; rfl))); all_goals skip; (try simp only [List.set_cons_succ, List.set_cons_zero])
      refine D_one 7 rfl (by kernel_rfl) (by rfl) ?_
      refine wp_of_skip (HH.out.2 _ _ rfl rfl rfl) ⟨HH.out.1.drop (List.Sublist.cons_cons _ (List.Sublist.cons_cons _ (List.Sublist.cons_cons _ (List.nil_sublist _)))), ?_⟩
      try simp only [Act.put, List.getElem_toArray, List.getElem_cons_succ, List.getElem_cons_zero, List.setIfInBounds_toArray, List.set_cons_succ, List.set_cons_zero]
      refine wpAnyH_done (by kernel_rfl) ?_ _
      go_wp2_with fail
      obtain ⟨rl', hit', _⟩ := hit.next he
      go_roundw
      case rel =>
        refine ⟨seen.push e.born, dl ++ [e], rl', hit', ?_⟩
        have hsn : applyAll d.sure ((dl ++ [e]).map dec) = (applyAll d.sure (dl.map dec)).set n (dec e).2 := by
          rw [List.map_append, List.map_cons, List.map_nil, applyAll_snoc, HN.out]; rfl
        rw [hsn]
        exact HH.out.1.drop (List.sublist_cons_self _ _)
      case measure =>
        have h1 := HH.out.1.at_ 1 rfl
        have h2 : World.iterSeen (w.drew.setCells bs (n * 33) (dec e).2.cells) r = seen.push e.born := by simp only [World.iterSeen, h1]
        show (leftOf ents (World.iterSeen (w.drew.setCells bs (n * 33) (dec e).2.cells) r)).size < _
        rw [h2, HS0.out]
        exact left_shrinks ents seen e he
end Go.Proofs.YtgmeahogdjhejaaDoor
