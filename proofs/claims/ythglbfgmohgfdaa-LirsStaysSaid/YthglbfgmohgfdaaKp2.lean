/- Low inter-reference recency, plainly: to cool, to forget, to shrink. Conditions: none. -/
import Derived.Test.YthglbfgmohgfdaaKi6
set_option linter.unusedVariables false
set_option linter.unusedSimpArgs false
namespace Go.Al
section
variable {k j : Int} {S A B : List (Int × Int)}
theorem setKd_at (A B : List (Int × Int)) (x : Int × Int) (kd : Int) : setKd (A ++ x :: B) A.length kd = A ++ (x.1, kd) :: B := by
  unfold setKd
  rw [List.getD_eq_getElem?_getD, List.getElem?_append_right (Nat.le_refl _), Nat.sub_self, List.set_append_right _ _ (Nat.le_refl _), Nat.sub_self]
  rfl
theorem setKd_len (S : List (Int × Int)) (i : Nat) (kd : Int) : (setKd S i kd).length = S.length := List.length_set ..
theorem many_pruned (S : List (Int × Int)) : many 2 (pruned S) = many 2 S := by
  unfold pruned
  rcases upTo_spec (k := 2) S with ⟨h1, h2⟩ | ⟨A, x, B, h1, h2, h3, h4⟩
  · rw [h1, List.take_zero, many_zero.2 h2]; rfl
  · rw [h2]
    have e : S.take (A.length + 1) = A ++ [x] := by
      rw [h1, show A ++ x :: B = (A ++ [x]) ++ B by simp, List.take_left' (by simp)]
    rw [e]
    conv => rhs; rw [h1, show A ++ x :: B = (A ++ [x]) ++ B by simp, many_append, many_zero.2 h4]
    rfl
theorem pruned_len (S : List (Int × Int)) : (pruned S).length ≤ S.length := by unfold pruned; rw [List.length_take]; omega
/-- The last item of a kind, taken apart. -/
theorem last_of (h : 0 < many k S) : ∃ A x B, S = A ++ x :: B ∧ upTo k S = A.length + 1 ∧ x.2 = k ∧ ∀ y ∈ B, y.2 ≠ k := by
  rcases upTo_spec (k := k) S with ⟨_, h2⟩ | h2
  · rw [many_zero.2 h2] at h; omega
  · exact h2
end
def coolS (s : LS) : LS := ⟨s.C, pruned (setKd s.S (upTo 2 s.S - 1) 1), lastQ s.Q (s.S.getD (upTo 2 s.S - 1) (0, 0)).1⟩
theorem coolS_many {s : LS} (h : 0 < many 2 s.S) : many 2 (coolS s).S + 1 = many 2 s.S := by
  obtain ⟨A, x, B, h1, h2, h3, h4⟩ := last_of h
  show many 2 (pruned (setKd s.S (upTo 2 s.S - 1) 1)) + 1 = _
  rw [many_pruned, h2, Nat.add_sub_cancel, h1, setKd_at, many_append, many_append, many_cons, many_cons, if_neg (fun h : (1 : Int) = 2 => absurd h (by decide)), if_pos h3]
  omega
theorem coolS_len (s : LS) : (coolS s).S.length ≤ s.S.length ∧ (coolS s).Q.length ≤ s.Q.length + 1 := by
  refine ⟨?_, ?_⟩
  · have h1 := pruned_len (setKd s.S (upTo 2 s.S - 1) 1)
    rw [setKd_len] at h1
    exact h1
  · show (lastQ _ _).length ≤ _
    unfold lastQ
    rw [List.length_append, List.length_singleton]
    have := without_len s.Q (s.S.getD (upTo 2 s.S - 1) (0, 0)).1
    omega
def cooled : Nat → LS → LS
  | 0, s => s
  | m + 1, s => if (many 2 s.S : Int) > roomOf s.C then cooled m (coolS s) else s
def coolL (s : LS) : LS := cooled (many 2 s.S) s
theorem cooled_stop {m : Nat} {s : LS} (h : ¬ (many 2 s.S : Int) > roomOf s.C) : cooled m s = s := by
  cases m with
  | zero => rfl
  | succ m => exact if_neg h
theorem roomOf_le {C : Int} (h0 : 1 ≤ C) : 0 ≤ roomOf C ∧ roomOf C ≤ C - 1 := by
  have ht : 0 ≤ C.tdiv 100 ∧ C.tdiv 100 ≤ C := ⟨Int.tdiv_nonneg (by omega) (by omega), Int.tdiv_le_self _ (by omega)⟩
  unfold roomOf
  split <;> omega
def forgot : Nat → LS → LS
  | 0, s => s
  | m + 1, s => if (many 0 s.S : Int) > s.C then forgot m ⟨s.C, takeP s.S ((upTo 0 s.S : Int) - 1), s.Q⟩ else s
def forgetL (s : LS) : LS := forgot (many 0 s.S) s
theorem forgot_stop {m : Nat} {s : LS} (h : ¬ (many 0 s.S : Int) > s.C) : forgot m s = s := by
  cases m with
  | zero => rfl
  | succ m => exact if_neg h
theorem take_last {k : Int} {S : List (Int × Int)} (h : 0 < many k S) : many k (takeP S ((upTo k S : Int) - 1)) + 1 = many k S ∧ ∃ A x B, S = A ++ x :: B ∧ takeP S ((upTo k S : Int) - 1) = A ++ B ∧ x.2 = k := by
  obtain ⟨A, x, B, h1, h2, h3, h4⟩ := last_of h
  have e : takeP S ((upTo k S : Int) - 1) = A ++ B := by
    unfold takeP
    rw [h2, if_neg (by omega), show (((A.length + 1 : Nat) : Int) - 1).toNat = A.length by omega]
    conv => lhs; rw [h1]
    rw [List.eraseIdx_append_of_length_le (Nat.le_refl _), Nat.sub_self]
    rfl
  refine ⟨?_, A, x, B, h1, e, h3⟩
  rw [e]
  conv => rhs; rw [h1]
  rw [many_append, many_append, many_cons, if_pos h3]
  omega
def shrS (s : LS) : LS := ⟨s.C, if idxK s.S (s.Q.headD 0) ≥ 0 then setKd s.S (idxK s.S (s.Q.headD 0)).toNat 0 else s.S, s.Q.tail⟩
def shrunk (z : Int) : Nat → LS → List Int → LS × List Int
  | 0, s, out => (s, out)
  | m + 1, s, out => if (many 2 s.S : Int) + s.Q.length > z then shrunk z m (shrS s) (out ++ [s.Q.headD 0]) else (s, out)
def shrinkL (z : Int) (s : LS) : LS × List Int := shrunk z s.Q.length s []
theorem shrunk_stop {z : Int} {m : Nat} {s : LS} {out : List Int} (h : ¬ (many 2 s.S : Int) + s.Q.length > z) : shrunk z m s out = (s, out) := by
  cases m with
  | zero => rfl
  | succ m => exact if_neg h
theorem many_set0 (S : List (Int × Int)) (i : Nat) : many 2 (setKd S i 0) ≤ many 2 S := by
  rcases Nat.lt_or_ge i S.length with h | h
  · have hS : S = S.take i ++ S[i] :: S.drop (i + 1) := by rw [List.getElem_cons_drop, List.take_append_drop]
    have e : setKd S i 0 = S.take i ++ (S[i].1, 0) :: S.drop (i + 1) := by
      have := setKd_at (S.take i) (S.drop (i + 1)) S[i] 0
      rw [← hS, List.length_take, Nat.min_eq_left (by omega)] at this
      exact this
    rw [e]
    conv => rhs; rw [hS]
    rw [many_append, many_append, many_cons, many_cons, if_neg (fun h : (0 : Int) = 2 => absurd h (by decide))]
    omega
  · unfold setKd
    rw [List.set_eq_of_length_le h]
    exact Nat.le_refl _
theorem shrS_many (s : LS) : many 2 (shrS s).S ≤ many 2 s.S := by
  show many 2 (if _ then _ else _) ≤ _
  split
  · exact many_set0 _ _
  · exact Nat.le_refl _
theorem shrS_len (s : LS) : (shrS s).S.length = s.S.length := by
  show (if _ then _ else _ : List (Int × Int)).length = _
  split
  · exact setKd_len _ _ _
  · rfl
end Go.Al
