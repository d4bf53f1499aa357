/- Names of files: the plain law. No program is named. -/
import Derived.Lib.SplitLaws
import Derived.Shelf.GgClosure.StringsIndexFunc
import Derived.Lib.DecodeN
namespace Go.Proofs.YtmfcccflohpjiaaGreatDoor.Pth
set_option linter.unusedVariables false
set_option linter.unusedSimpArgs false

/-- A byte that may not stand in a part. -/
def badB (c : UInt8) : Bool := decide (c.toNat ≤ 32) || decide (126 < c.toNat) || c == 92 || c == 58 || c == 42 || c == 63
/-- A part that may be. -/
def okP (p : List UInt8) : Bool := !(p.isEmpty || p == [46] || p == [46, 46] || p.any badB)
/-- Cut at each '/'. -/
def cut : List UInt8 → List (List UInt8)
  | [] => [[]]
  | c :: l => if c = 47 then [] :: cut l else match cut l with | p :: ps => (c :: p) :: ps | [] => [[c]]
/-- The parts of a path; none: it may not be. -/
def partsL (s : List UInt8) : List (List UInt8) := if 32 < s.length || (cut s).any (fun p => !okP p) then [] else cut s
def goodL (s : List UInt8) : Bool := !(partsL s).isEmpty
def underL (s top : List UInt8) : Bool := goodL s && goodL top && (top ++ [47]).isPrefixOf s

theorem cut_ne : ∀ s, cut s ≠ []
  | [] => by simp [cut]
  | c :: l => by
    unfold cut
    split
    · simp
    · split <;> simp

/-- The library's cut. -/
theorem split_cut : ∀ s : List UInt8, Lib.split s [47] = cut s
  | [] => by rw [Lib.split, Lib.count_one]; rfl
  | c :: l => by
    have ih := split_cut l
    rw [Lib.split, Lib.count_one] at ih ⊢
    by_cases hc : c = 47
    · subst hc
      rw [List.count_cons_self, Lib.splitK]
      have hix : Lib.index (47 :: l) [47] = 0 := by simp [Lib.index, List.isPrefixOf]
      rw [hix]
      simp [cut]
      exact ih
    · have hp : ([47] : List UInt8).isPrefixOf (c :: l) = false := by simp [List.isPrefixOf, Ne.symm hc]
      have hix : Lib.index (c :: l) [47] = if Lib.index l [47] == -1 then -1 else Lib.index l [47] + 1 := by rw [Lib.index, hp]; simp
      rw [List.count_cons_of_ne (by simpa using hc)]
      rw [cut, if_neg hc, ← ih]
      cases hk : l.count 47 with
      | zero => simp [Lib.splitK]
      | succ k =>
        rw [Lib.splitK, Lib.splitK, hix]
        have hge := Lib.index_ge l [47]
        by_cases hm : Lib.index l [47] = -1
        · simp [hm]
        · have h1 : ¬ (Lib.index l [47] == -1) = true := by simpa using hm
          obtain ⟨j, hj⟩ : ∃ j : Nat, Lib.index l [47] = j := ⟨(Lib.index l [47]).toNat, by omega⟩
          have h2 : ((if (Lib.index l [47] == -1) = true then (-1 : Int) else Lib.index l [47] + 1)) = ((j + 1 : Nat) : Int) := by rw [if_neg h1, hj]; omega
          rw [h2, hj]
          have h3 : ¬ (((j + 1 : Nat) : Int) == -1) = true := by simp; omega
          have h4 : ¬ (((j : Nat) : Int) == -1) = true := by simp
          rw [if_neg h3, if_neg h4]
          simp [Nat.add_right_comm]

/-- Byte by byte: cur: the part so far. -/
def refGo : List UInt8 → List UInt8 → Option (List (List UInt8))
  | cur, [] => if cur.isEmpty || cur == [46] || cur == [46, 46] then none else some [cur]
  | cur, c :: l => if c = 47 then (if cur.isEmpty || cur == [46] || cur == [46, 46] then none else (refGo [] l).map (cur :: ·)) else if badB c then none else refGo (cur ++ [c]) l

theorem refGo_cut : ∀ (l cur : List UInt8), cur.any badB = false → refGo cur l = (match cut l with | p :: ps => if (okP (cur ++ p) && ps.all okP) then some ((cur ++ p) :: ps) else none | [] => none)
  | [], cur, hc => by
    rw [refGo, cut]
    simp only [List.append_nil, List.all_nil, Bool.and_true, okP, hc, Bool.or_false]
    cases h : (cur.isEmpty || cur == [46] || cur == [46, 46]) <;> simp_all
  | c :: l, cur, hc => by
    rw [refGo, cut]
    by_cases h47 : c = 47
    · rw [if_pos h47, if_pos h47]
      have ih := refGo_cut l [] rfl
      rw [ih]
      cases hcl : cut l with
      | nil => exact absurd hcl (cut_ne l)
      | cons p ps =>
        simp only [List.append_nil, List.nil_append, List.all_cons]
        have hk : okP cur = !(cur.isEmpty || cur == [46] || cur == [46, 46]) := by simp only [okP, hc, Bool.or_false]
        rw [hk]
        cases (cur.isEmpty || cur == [46] || cur == [46, 46]) <;> cases h1 : okP p <;> cases h2 : ps.all okP <;> simp
    · rw [if_neg h47, if_neg h47]
      cases hcl : cut l with
      | nil => exact absurd hcl (cut_ne l)
      | cons p ps =>
        by_cases hb : badB c = true
        · rw [if_pos hb]
          simp [okP, hb]
        · have ih := refGo_cut l (cur ++ [c]) (by simp [hc, hb])
          rw [if_neg hb, ih, hcl]
          simp

/-- What the document's answer comes to. -/
theorem parts_ref (s : List UInt8) : partsL s = if 32 < s.length then [] else (refGo [] s).getD [] := by
  rw [refGo_cut s [] rfl]
  unfold partsL
  cases hcl : cut s with
  | nil => exact absurd hcl (cut_ne s)
  | cons p ps =>
    have h : ((p :: ps).any fun p => !okP p) = !(okP p && ps.all okP) := by
      simp only [List.any_cons, Bool.not_and, List.all_eq_not_any_not, Bool.not_not]
    rw [h]
    simp only [List.nil_append]
    by_cases hl : 32 < s.length
    · simp [hl]
    · cases okP p && ps.all okP <;> simp [hl]

/-! The parts joined. -/
def joinL : List (List UInt8) → List UInt8
  | [] => []
  | [p] => p
  | p :: q :: r => p ++ 47 :: joinL (q :: r)
theorem join_cut : ∀ s, joinL (cut s) = s
  | [] => rfl
  | c :: l => by
    have ih := join_cut l
    unfold cut
    cases hcl : cut l with
    | nil => exact absurd hcl (cut_ne l)
    | cons p ps =>
      rw [hcl] at ih
      split
      · rename_i h; subst h
        simp [joinL, ih]
      · cases ps with
        | nil => simpa [joinL] using ih
        | cons q r => simpa [joinL] using ih
theorem cut_no47 : ∀ s p, p ∈ cut s → (47 : UInt8) ∉ p
  | [], p, h => by simp [cut] at h; subst h; simp
  | c :: l, p, h => by
    unfold cut at h
    split at h
    · rcases List.mem_cons.1 h with rfl | h
      · simp
      · exact cut_no47 l p h
    · rename_i hc
      cases hcl : cut l with
      | nil => exact absurd hcl (cut_ne l)
      | cons q r =>
        rw [hcl] at h
        rcases List.mem_cons.1 h with rfl | h
        · have := cut_no47 l q (by rw [hcl]; simp)
          simp [this, Ne.symm hc]
        · exact cut_no47 l p (by rw [hcl]; exact List.mem_cons_of_mem _ h)
theorem cut_one : ∀ p : List UInt8, (47 : UInt8) ∉ p → cut p = [p]
  | [], _ => rfl
  | c :: l, h => by
    simp only [List.mem_cons, not_or] at h
    rw [cut, if_neg (Ne.symm h.1), cut_one l h.2]
theorem cut_len : ∀ s p, p ∈ cut s → p.length ≤ s.length
  | [], p, h => by simp [cut] at h; subst h; simp
  | c :: l, p, h => by
    unfold cut at h
    split at h
    · rcases List.mem_cons.1 h with rfl | h
      · simp
      · have := cut_len l p h; simp; omega
    · cases hcl : cut l with
      | nil => exact absurd hcl (cut_ne l)
      | cons q r =>
        rw [hcl] at h
        rcases List.mem_cons.1 h with rfl | h
        · have := cut_len l q (by rw [hcl]; simp)
          simp; omega
        · have := cut_len l p (by rw [hcl]; exact List.mem_cons_of_mem _ h)
          simp; omega
/-- Each part is a path of one part. -/
theorem parts_part {s p : List UInt8} (h : p ∈ partsL s) : partsL p = [p] := by
  unfold partsL at h
  split at h
  · simp at h
  · rename_i hn
    simp only [Bool.or_eq_true, decide_eq_true_eq, not_or, List.any_eq_true, not_exists, not_and, Bool.not_eq_true] at hn
    unfold partsL
    rw [cut_one p (cut_no47 s p h)]
    have h1 := cut_len s p h
    have h2 := hn.2 p h
    rw [if_neg]
    simp only [List.any_cons, List.any_nil, Bool.or_false, h2, Bool.or_eq_true, decide_eq_true_eq]
    omega
theorem parts_good (s : List UInt8) : goodL s = decide (0 < (partsL s).length) := by
  unfold goodL
  cases partsL s <;> simp
theorem good_join {s : List UInt8} (h : goodL s = true) : joinL (partsL s) = s := by
  unfold goodL partsL at *
  split at h
  · simp at h
  · rename_i hn; rw [if_neg hn]; exact join_cut s
theorem good_len {s : List UInt8} (h : goodL s = true) : s.length ≤ 32 := by
  unfold goodL partsL at h
  split at h
  · simp at h
  · rename_i hn
    simp only [Bool.or_eq_true, decide_eq_true_eq, not_or] at hn
    omega

/-! What lies below. -/
theorem under_iff (s t : List UInt8) : underL s t = true ↔ goodL s = true ∧ goodL t = true ∧ ∃ r, s = t ++ 47 :: r := by
  simp only [underL, Bool.and_eq_true, List.isPrefixOf_iff_prefix, and_assoc]
  refine and_congr_right fun _ => and_congr_right fun _ => ⟨fun ⟨r, hr⟩ => ⟨r, by rw [← hr]; simp⟩, fun ⟨r, hr⟩ => ⟨r, by rw [hr]; simp⟩⟩
theorem under_self (s : List UInt8) : underL s s = false := by
  rw [Bool.eq_false_iff]
  intro h
  obtain ⟨_, _, r, hr⟩ := (under_iff s s).1 h
  have := congrArg List.length hr
  simp at this
theorem under_trans {s t u : List UInt8} (h : underL s t = true) (k : underL t u = true) : underL s u = true := by
  obtain ⟨h1, h2, r, hr⟩ := (under_iff s t).1 h
  obtain ⟨_, k2, r', hr'⟩ := (under_iff t u).1 k
  exact (under_iff s u).2 ⟨h1, k2, r' ++ 47 :: r, by rw [hr, hr']; simp⟩
theorem under_anti (s t : List UInt8) : (underL s t && underL t s) = false := by
  rw [Bool.eq_false_iff]
  intro h
  simp only [Bool.and_eq_true] at h
  obtain ⟨_, _, r, hr⟩ := (under_iff s t).1 h.1
  obtain ⟨_, _, r', hr'⟩ := (under_iff t s).1 h.2
  have h1 := congrArg List.length hr
  have h2 := congrArg List.length hr'
  simp at h1 h2
  omega
/-- Byte by byte. -/
theorem under_ref (s t : List UInt8) : underL s t = (goodL s && goodL t && decide (t.length < s.length) && (s.take t.length == t) && (s[t.length]? == some 47)) := by
  rw [Bool.eq_iff_iff, under_iff]
  simp only [Bool.and_eq_true, decide_eq_true_eq, beq_iff_eq, and_assoc]
  refine and_congr_right fun _ => and_congr_right fun _ => ⟨fun ⟨r, hr⟩ => ?_, fun ⟨h1, h2, h3⟩ => ?_⟩
  · subst hr; simp
  · refine ⟨s.drop (t.length + 1), ?_⟩
    have h4 := List.take_append_drop t.length s
    rw [h2] at h4
    rw [← h4]
    congr 1
    rw [List.drop_eq_getElem_cons h1]
    have : s[t.length] = 47 := by rw [List.getElem?_eq_getElem h1] at h3; exact Option.some.inj h3
    simp [this]

/-! Runes. -/
def badR (r : Nat) : Bool := decide (r ≤ 32) || decide (126 < r) || r == 92 || r == 58 || r == 42 || r == 63
theorem badR_byte (c : UInt8) : badR c.toNat = badB c := by
  have h : ∀ k : UInt8, (c.toNat == k.toNat) = (c == k) := fun k => by
    rw [Bool.eq_iff_iff, beq_iff_eq, beq_iff_eq]; exact ⟨fun e => UInt8.toNat_inj.1 e, fun e => by rw [e]⟩
  unfold badR badB
  rw [← h 92, ← h 58, ← h 42, ← h 63]
  rfl
theorem decode_high (n b0 b1 b2 b3 : Nat) (h : 128 ≤ b0) : 126 < (Lib.decodeN n b0 b1 b2 b3).1 := by
  unfold Lib.decodeN
  rw [if_neg (by omega)]
  repeat' split
  all_goals (show 126 < _; omega)
theorem badR_high {r : Nat} (h : 126 < r) : badR r = true := by simp [badR, h]
theorem idx_bad (s : ByteArray) : ∀ (f pos : Nat), s.size - pos ≤ f → decide (0 ≤ Lib.idxFuncFrom badR true s f pos) = (s.data.toList.drop pos).any badB
  | 0, pos, h => by
    have : s.data.toList.length ≤ pos := by rw [Array.length_toList]; have : s.data.size = s.size := rfl; omega
    rw [List.drop_eq_nil_of_le this]
    rfl
  | f + 1, pos, h => by
    have hz : s.data.toList.length = s.size := Array.length_toList
    unfold Lib.idxFuncFrom
    by_cases hp : pos < s.size
    · rw [if_pos hp, List.drop_eq_getElem_cons (by omega : pos < s.data.toList.length), List.any_cons]
      have hget : s.get! pos = s.data.toList[pos]'(by omega) := by
        show s.data[pos]! = _
        rw [getElem!_pos s.data pos (by have : s.data.size = s.size := rfl; omega)]
        simp
      have hd := Lib.decode_at s pos
      rw [hget] at hd
      generalize s.data.toList[pos]'(by omega) = c at hd ⊢
      by_cases hc : c.toNat < 128
      · have hd2 : Utf8.decode s pos = (c.toNat, 1) := by rw [hd, Lib.decodeN, if_pos hc]
        rw [hd2]
        show decide (0 ≤ if badR c.toNat = true then (pos : Int) else Lib.idxFuncFrom badR true s f (pos + 1)) = _
        rw [badR_byte]
        cases hb : badB c with
        | true => simp
        | false => simpa using idx_bad s f (pos + 1) (by omega)
      · have h1 : badR (Utf8.decode s pos).1 = true := badR_high (by rw [hd]; exact decode_high _ _ _ _ _ (by omega))
        have h2 : badB c = true := by rw [← badR_byte]; exact badR_high (by omega)
        rw [if_pos h1, h2]
        simp
    · rw [if_neg hp, List.drop_eq_nil_of_le (by omega)]
      rfl
end Go.Proofs.YtmfcccflohpjiaaGreatDoor.Pth
