/- Adaptive replacement, of rows of keys alone: what acts make, and what stays so. Conditions: none. -/
import Derived.Test.YtbdcmgcphhbpiaaCc1
import Derived.Test.YtbdcmgcphhbpiaaEv1
set_option linter.unusedVariables false
set_option linter.unusedSimpArgs false
namespace Go.Al
structure ARC where
  C : Int
  P : Int
  A : List Int
  B : List Int
  D : List Int
  E : List Int
def arcDem (s : ARC) (f : Bool) : ARC × Int :=
  if f then (⟨s.C, s.P, s.A.take (s.A.length - 1), s.B, lastD s.A :: without s.D (lastD s.A), s.E⟩, lastD s.A) else (⟨s.C, s.P, s.A, s.B.take (s.B.length - 1), s.D, lastD s.B :: without s.E (lastD s.B)⟩, lastD s.B)
def arcFrom (s : ARC) (again : Bool) : Bool := decide ((0 < s.A.length ∧ ((s.A.length : Int) > s.P ∨ ((s.A.length : Int) = s.P ∧ again = true))) ∨ s.B = [])
def arcReplace (s : ARC) (again : Bool) : ARC × List Int :=
  if (s.A.length : Int) + s.B.length < s.C then (s, []) else ((arcDem s (arcFrom s again)).1, [(arcDem s (arcFrom s again)).2])
def arcTouch (s : ARC) (k : Int) : ARC := if k ∈ s.A ++ s.B then ⟨s.C, s.P, without s.A k, k :: without s.B k, s.D, s.E⟩ else s
def arcFresh (s : ARC) : ARC × List Int :=
  if (s.A.length : Int) + s.D.length < s.C then
    (if (s.A.length : Int) + s.B.length + s.D.length + s.E.length < s.C then (s, [])
     else if (s.A.length : Int) + s.B.length + s.D.length + s.E.length ≥ 2 * s.C then arcReplace ⟨s.C, s.P, s.A, s.B, s.D, s.E.take (s.E.length - 1)⟩ false
     else arcReplace s false)
  else if (s.A.length : Int) < s.C then arcReplace ⟨s.C, s.P, s.A, s.B, s.D.take (s.D.length - 1), s.E⟩ false
  else (⟨s.C, s.P, s.A.take (s.A.length - 1), s.B, s.D, s.E⟩, [lastD s.A])
def mx1 (x : Int) : Int := if 1 > x then 1 else x
def arcUp (s : ARC) : Int := if s.C < s.P + mx1 ((s.E.length : Int).tdiv s.D.length) then s.C else s.P + mx1 ((s.E.length : Int).tdiv s.D.length)
def arcDown (s : ARC) : Int := if 0 > s.P - mx1 ((s.D.length : Int).tdiv s.E.length) then 0 else s.P - mx1 ((s.D.length : Int).tdiv s.E.length)
def arcAdmit (s : ARC) (k : Int) : ARC × List Int :=
  if k ∈ s.A ++ s.B then (s, [])
  else if k ∈ s.D then (⟨(arcReplace ⟨s.C, arcUp s, s.A, s.B, without s.D k, s.E⟩ false).1.C, (arcReplace ⟨s.C, arcUp s, s.A, s.B, without s.D k, s.E⟩ false).1.P, (arcReplace ⟨s.C, arcUp s, s.A, s.B, without s.D k, s.E⟩ false).1.A, k :: without (arcReplace ⟨s.C, arcUp s, s.A, s.B, without s.D k, s.E⟩ false).1.B k, (arcReplace ⟨s.C, arcUp s, s.A, s.B, without s.D k, s.E⟩ false).1.D, (arcReplace ⟨s.C, arcUp s, s.A, s.B, without s.D k, s.E⟩ false).1.E⟩, (arcReplace ⟨s.C, arcUp s, s.A, s.B, without s.D k, s.E⟩ false).2)
  else if k ∈ s.E then (⟨(arcReplace ⟨s.C, arcDown s, s.A, s.B, s.D, without s.E k⟩ true).1.C, (arcReplace ⟨s.C, arcDown s, s.A, s.B, s.D, without s.E k⟩ true).1.P, (arcReplace ⟨s.C, arcDown s, s.A, s.B, s.D, without s.E k⟩ true).1.A, k :: without (arcReplace ⟨s.C, arcDown s, s.A, s.B, s.D, without s.E k⟩ true).1.B k, (arcReplace ⟨s.C, arcDown s, s.A, s.B, s.D, without s.E k⟩ true).1.D, (arcReplace ⟨s.C, arcDown s, s.A, s.B, s.D, without s.E k⟩ true).1.E⟩, (arcReplace ⟨s.C, arcDown s, s.A, s.B, s.D, without s.E k⟩ true).2)
  else (⟨(arcFresh s).1.C, (arcFresh s).1.P, k :: without (arcFresh s).1.A k, (arcFresh s).1.B, (arcFresh s).1.D, (arcFresh s).1.E⟩, (arcFresh s).2)
def arcDrop (s : ARC) (k : Int) : ARC := ⟨s.C, s.P, without s.A k, without s.B k, without s.D k, without s.E k⟩
def arcShrink : Nat → ARC → List Int → ARC × List Int
  | 0, s, g => (s, g)
  | f + 1, s, g => if (s.A.length : Int) + s.B.length ≤ s.C then (s, g) else arcShrink f (arcDem s (decide ((s.A.length : Int) > s.P ∨ s.B = []))).1 (g ++ [(arcDem s (decide ((s.A.length : Int) > s.P ∨ s.B = []))).2])
def arcCut (s : ARC) : ARC := ⟨s.C, s.P, s.A, s.B, cutTo s.D (s.C - s.A.length), cutTo s.E (s.C - (cutTo s.D (s.C - s.A.length)).length)⟩
def arcResize (s : ARC) (c : Int) : ARC × List Int :=
  (arcCut (arcShrink (s.A.length + s.B.length) ⟨capOf c, (if capOf c < s.P then capOf c else s.P), s.A, s.B, s.D, s.E⟩ []).1, (arcShrink (s.A.length + s.B.length) ⟨capOf c, (if capOf c < s.P then capOf c else s.P), s.A, s.B, s.D, s.E⟩ []).2)
def arcDo (s : ARC) (a : Deed) : ARC × List Int :=
  if kindOf a (decide (a.key ∈ s.A ++ s.B)) = 1 then (arcTouch s a.key, [])
  else if kindOf a (decide (a.key ∈ s.A ++ s.B)) = 2 then arcAdmit s a.key
  else if kindOf a (decide (a.key ∈ s.A ++ s.B)) = 3 then (arcDrop s a.key, [])
  else arcResize s (sizeOf' a)
/-! ### What stays so -/
/-- No key is in two rows, or twice in one. -/
def Sep4 (s : ARC) : Prop := ∀ x, s.A.count x + s.B.count x + s.D.count x + s.E.count x ≤ 1
theorem count_without (l : List Int) (k x : Int) : (without l k).count x = if x = k then 0 else l.count x := by
  unfold without
  by_cases h : x = k
  · subst h
    rw [if_pos rfl, List.count_eq_zero]
    simp
  · rw [if_neg h, List.count_filter (by simpa using h)]
theorem count_last {l : List Int} (h : l ≠ []) (x : Int) : l.count x = (l.take (l.length - 1)).count x + if lastD l = x then 1 else 0 := by
  have h0 := List.length_pos_iff.2 h
  have h1 := lastD_get h
  have h2 := List.take_add_one (l := l) (i := l.length - 1)
  rw [h1, Nat.sub_add_cancel h0, List.take_length] at h2
  conv => lhs; rw [h2]
  simp [List.count_append, List.count_singleton]
theorem count_take_le (l : List Int) (n : Nat) (x : Int) : (l.take n).count x ≤ l.count x := (List.take_sublist n l).count_le x
theorem count_cutTo_le (l : List Int) (z x : Int) : (cutTo l z).count x ≤ l.count x := count_take_le _ _ _
theorem count_front (l : List Int) (k x : Int) : (k :: without l k).count x = if x = k then 1 else l.count x := by
  rw [List.count_cons, count_without]
  by_cases h : x = k
  · subst h; simp
  · have : ¬ k = x := fun e => h e.symm
    simp [h, this]
theorem mem_count {l : List Int} {x : Int} : x ∈ l ↔ 0 < l.count x := List.count_pos_iff.symm
theorem len_without {l : List Int} {k : Int} (h : l.count k ≤ 1) : (without l k).length + l.count k = l.length := by
  unfold without
  have h1 := List.length_eq_countP_add_countP (fun x => decide (x ≠ k)) (l := l)
  rw [List.countP_eq_length_filter] at h1
  have h2 : l.countP (fun a => decide ¬ (decide (a ≠ k)) = true) = l.count k := by
    unfold List.count
    congr 1
    funext a
    by_cases e : a = k <;> simp [e]
  omega
/-- What an act leaves, and what it evicted: of those that were there. -/
structure Went4 (s r : ARC) (out : List Int) (new old : Option Int) : Prop where
  cnt : ∀ x, r.A.count x + r.B.count x + out.count x = (if old = some x then 0 else s.A.count x + s.B.count x) + if new = some x then 1 else 0
  sep : Sep4 r
  one : ∀ x, out.count x ≤ s.A.count x + s.B.count x
structure ArcOk (s : ARC) : Prop where
  c0 : 1 ≤ s.C
  c1 : s.C ≤ 14
  p0 : 0 ≤ s.P
  p1 : s.P ≤ s.C
  ab : (s.A.length : Int) + s.B.length ≤ s.C
  ad : (s.A.length : Int) + s.D.length ≤ s.C
  de : (s.D.length : Int) + s.E.length ≤ s.C
  sep : Sep4 s
theorem take_len {l : List Int} : (l.take (l.length - 1)).length = l.length - 1 := by rw [List.length_take]; omega
theorem ne_len {l : List Int} : l ≠ [] ↔ 0 < l.length := List.length_pos_iff.symm
theorem count_one (a x : Int) : List.count x [a] = if a = x then 1 else 0 := by
  rw [List.count_singleton]
  by_cases h : a = x <;> simp [h]
/-- What demoting comes to. -/
theorem dem_facts {s : ARC} (f : Bool) (hs : Sep4 s) (hne : if f then s.A ≠ [] else s.B ≠ []) :
    (arcDem s f).1.C = s.C ∧ (arcDem s f).1.P = s.P ∧ Sep4 (arcDem s f).1 ∧ (arcDem s f).1.A.length + (arcDem s f).1.B.length + 1 = s.A.length + s.B.length ∧ (arcDem s f).1.D.length + (arcDem s f).1.E.length = s.D.length + s.E.length + 1 ∧
    (arcDem s f).1.A.length + (arcDem s f).1.D.length = s.A.length + s.D.length ∧ (∀ x, (arcDem s f).1.A.count x + (arcDem s f).1.B.count x + (if (arcDem s f).2 = x then 1 else 0) = s.A.count x + s.B.count x) ∧ (∀ x, (arcDem s f).1.D.count x + (arcDem s f).1.E.count x = s.D.count x + s.E.count x + (if (arcDem s f).2 = x then 1 else 0)) := by
  cases f with
  | true =>
    have hne : s.A ≠ [] := hne
    have hc := fun x => count_last hne x
    have hl := ne_len.1 hne
    have h1 := hs (lastD s.A)
    have h2 := hc (lastD s.A)
    simp only [if_true] at h2
    have hd : s.D.count (lastD s.A) = 0 := by omega
    have hw := len_without (l := s.D) (k := lastD s.A) (by omega)
    unfold arcDem
    rw [if_pos rfl]
    refine ⟨rfl, rfl, ?_, ?_, ?_, ?_, ?_, ?_⟩
    · intro x
      have := hs x
      have := hc x
      simp only [count_front]
      split
      · rename_i e; subst e; simp only [if_true] at *; omega
      · rename_i e
        have : ¬ lastD s.A = x := fun h => e h.symm
        simp only [if_neg this] at *; omega
    · simp only [take_len]; omega
    · simp only [List.length_cons]; omega
    · simp only [take_len, List.length_cons]; omega
    · intro x
      have := hc x
      simp only
      omega
    · intro x
      simp only [count_front]
      by_cases e : x = lastD s.A
      · subst e; rw [if_pos rfl, if_pos rfl]; omega
      · have e' : ¬ lastD s.A = x := fun h => e h.symm
        simp [e, e']
  | false =>
    have hne : s.B ≠ [] := hne
    have hc := fun x => count_last hne x
    have hl := ne_len.1 hne
    have h1 := hs (lastD s.B)
    have h2 := hc (lastD s.B)
    simp only [if_true] at h2
    have hd : s.E.count (lastD s.B) = 0 := by omega
    have hw := len_without (l := s.E) (k := lastD s.B) (by omega)
    unfold arcDem
    rw [if_neg (by simp)]
    refine ⟨rfl, rfl, ?_, ?_, ?_, rfl, ?_, ?_⟩
    · intro x
      have := hs x
      have := hc x
      simp only [count_front]
      split
      · rename_i e; subst e; simp only [if_true] at *; omega
      · rename_i e
        have : ¬ lastD s.B = x := fun h => e h.symm
        simp only [if_neg this] at *; omega
    · simp only [take_len]; omega
    · simp only [List.length_cons]; omega
    · intro x
      have := hc x
      simp only
      omega
    · intro x
      simp only [count_front]
      by_cases e : x = lastD s.B
      · subst e; rw [if_pos rfl, if_pos rfl]; omega
      · have e' : ¬ lastD s.B = x := fun h => e h.symm
        simp [e, e']
theorem from_ne {s : ARC} {again : Bool} (h : 0 < s.A.length + s.B.length) : if arcFrom s again then s.A ≠ [] else s.B ≠ [] := by
  unfold arcFrom
  split <;> rename_i hb
  · simp only [decide_eq_true_eq] at hb
    rcases hb with ⟨hb, _⟩ | hb
    · exact ne_len.2 hb
    · rw [hb] at h; exact ne_len.2 (by simpa using h)
  · simp only [decide_eq_true_eq] at hb
    exact fun h => hb (.inr h)
/-- What replacing comes to. -/
theorem replace_facts {s : ARC} (again : Bool) (c0 : 1 ≤ s.C) (hs : Sep4 s) (hab : (s.A.length : Int) + s.B.length ≤ s.C) :
    (arcReplace s again).1.C = s.C ∧ (arcReplace s again).1.P = s.P ∧ Sep4 (arcReplace s again).1 ∧ (arcReplace s again).1.A.length + (arcReplace s again).1.B.length + (arcReplace s again).2.length = s.A.length + s.B.length ∧ ((arcReplace s again).1.A.length : Int) + (arcReplace s again).1.B.length < s.C ∧
    (arcReplace s again).1.D.length + (arcReplace s again).1.E.length = s.D.length + s.E.length + (arcReplace s again).2.length ∧ (arcReplace s again).1.A.length + (arcReplace s again).1.D.length = s.A.length + s.D.length ∧
    (∀ x, (arcReplace s again).1.A.count x + (arcReplace s again).1.B.count x + (arcReplace s again).2.count x = s.A.count x + s.B.count x) ∧ (∀ x, (arcReplace s again).1.D.count x + (arcReplace s again).1.E.count x = s.D.count x + s.E.count x + (arcReplace s again).2.count x) ∧ (0 < (arcReplace s again).2.length → (s.A.length : Int) + s.B.length = s.C) ∧ (arcReplace s again).2.length ≤ 1 := by
  unfold arcReplace
  by_cases h : (s.A.length : Int) + s.B.length < s.C
  · rw [if_pos h]
    exact ⟨rfl, rfl, hs, by simp, by omega, by simp, rfl, by simp, by simp, by simp, by simp⟩
  · rw [if_neg h]
    obtain ⟨d1, d2, d3, d4, d5, d6, d7, d8⟩ := dem_facts (arcFrom s again) hs (from_ne (by omega))
    generalize arcDem s (arcFrom s again) = r at *
    refine ⟨d1, d2, d3, by simp only [List.length_singleton]; omega, by simp only; omega, by simp only [List.length_singleton]; omega, d6, ?_, ?_, by omega, by simp⟩
    · intro x; rw [count_one]; exact d7 x
    · intro x; rw [count_one]; exact d8 x
theorem mx1_le (x : Int) : 1 ≤ mx1 x := by unfold mx1; split <;> omega
theorem arcUp_ok {s : ARC} (p0 : 0 ≤ s.P) (p1 : s.P ≤ s.C) : s.P ≤ arcUp s ∧ arcUp s ≤ s.C := by
  unfold arcUp
  have := mx1_le ((s.E.length : Int).tdiv s.D.length)
  split <;> omega
theorem arcDown_ok {s : ARC} (p0 : 0 ≤ s.P) : 0 ≤ arcDown s ∧ arcDown s ≤ s.P := by
  unfold arcDown
  have := mx1_le ((s.D.length : Int).tdiv s.E.length)
  split <;> omega
end Go.Al
