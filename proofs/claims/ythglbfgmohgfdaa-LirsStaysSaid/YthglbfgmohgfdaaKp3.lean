/- Low inter-reference recency, plainly: the acts; how long the rows are. Conditions: none. -/
import Derived.Test.YthglbfgmohgfdaaKi9
set_option linter.unusedVariables false
set_option linter.unusedSimpArgs false
namespace Go.Al
def stkL (s : LS) (k kd : Int) : LS := ⟨s.C, (k, kd) :: remK s.S k, s.Q⟩
def pruneL (s : LS) : LS := ⟨s.C, pruned s.S, s.Q⟩
def behindL (s : LS) (k : Int) : LS := ⟨s.C, s.S, lastQ s.Q k⟩
/-- A key's item is hot. -/
def hotAt (s : LS) (k : Int) : Prop := idxK s.S k ≥ 0 ∧ (s.S.getD (idxK s.S k).toNat (0, 0)).2 = 2
instance (s : LS) (k : Int) : Decidable (hotAt s k) := inferInstanceAs (Decidable (_ ∧ _))
def liTouch (s : LS) (k : Int) : LS :=
  if hotAt s k then pruneL (stkL s k 2) else if k ∉ s.Q then s else if idxK s.S k ≥ 0 then pruneL (coolL ⟨s.C, (k, 2) :: remK s.S k, without s.Q k⟩) else pruneL (behindL (stkL s k 1) k)
/-- Behind an eviction: the key comes. -/
def liCome (s : LS) (k : Int) : LS :=
  if (many 2 s.S : Int) < roomOf s.C ∨ idxK s.S k ≥ 0 then coolL (stkL s k 2) else behindL (stkL s k 1) k
def liAdmit (s : LS) (k : Int) : LS × List Int :=
  if k ∈ liKeys s then (s, []) else (forgetL (pruneL (liCome (shrinkL (s.C - 1) s).1 k)), (shrinkL (s.C - 1) s).2)
def liDrop (s : LS) (k : Int) : LS := pruneL ⟨s.C, remK s.S k, without s.Q k⟩
def liResize (s : LS) (c : Int) : LS × List Int :=
  (forgetL (pruneL (shrinkL (capOf c) (coolL ⟨capOf c, s.S, s.Q⟩)).1), (shrinkL (capOf c) (coolL ⟨capOf c, s.S, s.Q⟩)).2)
theorem cooled_facts : ∀ (m : Nat) (s : LS), 1 ≤ s.C → many 2 s.S ≤ m → (cooled m s).C = s.C ∧ (cooled m s).S.length ≤ s.S.length ∧ (cooled m s).Q.length ≤ s.Q.length + m ∧ (many 2 (cooled m s).S : Int) ≤ roomOf s.C
  | 0, s, h, hm => ⟨rfl, Nat.le_refl _, by show s.Q.length ≤ _; omega, by have := (roomOf_le h).1; show (many 2 s.S : Int) ≤ _; omega⟩
  | m + 1, s, h, hm => by
    unfold cooled
    split
    · rename_i hc
      have hr := (roomOf_le h).1
      obtain ⟨n1, n2⟩ := coolS_len s
      have n3 := coolS_many (s := s) (by omega)
      obtain ⟨a1, a2, a3, a4⟩ := cooled_facts m (coolS s) h (by omega)
      exact ⟨a1, by omega, by omega, a4⟩
    · exact ⟨rfl, Nat.le_refl _, by omega, by omega⟩
theorem coolL_facts (s : LS) (c0 : 1 ≤ s.C) : (coolL s).C = s.C ∧ (coolL s).S.length ≤ s.S.length ∧ (coolL s).Q.length ≤ s.Q.length + s.S.length ∧ (many 2 (coolL s).S : Int) ≤ roomOf s.C := by
  obtain ⟨a1, a2, a3, a4⟩ := cooled_facts (many 2 s.S) s c0 (Nat.le_refl _)
  have := many_le 2 s.S
  exact ⟨a1, a2, by unfold coolL; omega, a4⟩
theorem shrunk_facts (z : Int) : ∀ (m : Nat) (s : LS) (out : List Int), (shrunk z m s out).1.C = s.C ∧ (shrunk z m s out).1.S.length = s.S.length ∧ (shrunk z m s out).1.Q.length ≤ s.Q.length ∧ many 2 (shrunk z m s out).1.S ≤ many 2 s.S ∧ (shrunk z m s out).2.length ≤ out.length + m
  | 0, s, out => ⟨rfl, rfl, Nat.le_refl _, Nat.le_refl _, Nat.le_refl _⟩
  | m + 1, s, out => by
    unfold shrunk
    split
    · obtain ⟨a1, a2, a3, a4, a5⟩ := shrunk_facts z m (shrS s) (out ++ [s.Q.headD 0])
      have h1 := shrS_many s
      have h2 := shrS_len s
      have h3 : (shrS s).Q.length ≤ s.Q.length := by show s.Q.tail.length ≤ _; rw [List.length_tail]; omega
      rw [List.length_append, List.length_singleton] at a5
      exact ⟨a1, by omega, by omega, by omega, by omega⟩
    · exact ⟨rfl, rfl, Nat.le_refl _, Nat.le_refl _, by simp⟩
theorem forgot_facts : ∀ (m : Nat) (s : LS), (forgot m s).C = s.C ∧ (forgot m s).S.length ≤ s.S.length ∧ (forgot m s).Q = s.Q
  | 0, s => ⟨rfl, Nat.le_refl _, rfl⟩
  | m + 1, s => by
    unfold forgot
    split
    · obtain ⟨a1, a2, a3⟩ := forgot_facts m ⟨s.C, takeP s.S ((upTo 0 s.S : Int) - 1), s.Q⟩
      have := takeP_len s.S ((upTo 0 s.S : Int) - 1)
      exact ⟨a1, by simp only at a2; omega, a3⟩
    · exact ⟨rfl, Nat.le_refl _, rfl⟩
theorem lastQ_len (Q : List Int) (k : Int) : (lastQ Q k).length ≤ Q.length + 1 := by
  unfold lastQ
  have := without_len Q k
  rw [List.length_append, List.length_singleton]; omega
theorem remK_len (S : List (Int × Int)) (k : Int) : (remK S k).length ≤ S.length := takeP_len _ _
theorem liCome_facts (s : LS) (k : Int) (c0 : 1 ≤ s.C) : (liCome s k).C = s.C ∧ (liCome s k).S.length ≤ s.S.length + 1 ∧ (liCome s k).Q.length ≤ s.Q.length + s.S.length + 1 := by
  have h1 := remK_len s.S k
  have h2 := lastQ_len s.Q k
  have h3 := coolL_facts (stkL s k 2) c0
  have h4 : (stkL s k 2).S.length ≤ s.S.length + 1 := by show (_ :: remK s.S k).length ≤ _; rw [List.length_cons]; omega
  have h5 : (stkL s k 2).Q = s.Q := rfl
  have h6 : (stkL s k 2).C = s.C := rfl
  unfold liCome
  split
  · rw [h5, h6] at h3
    exact ⟨h3.1, by omega, by omega⟩
  · refine ⟨rfl, ?_, ?_⟩
    · show (_ :: remK s.S k).length ≤ _; rw [List.length_cons]; omega
    · show (lastQ s.Q k).length ≤ _; omega
end Go.Al
