/- Adaptive replacement: the program's small functions, and the reference's. Conditions: the rows are short. Adaptive replacement, of rows of keys alone: what acts make, and what stays so. Conditions: none. Adaptive replacement: what is demoted, and replaced, by the program. Conditions: the rows are short. Adaptive replacement, of rows of keys alone: acts keep the bounds, and what they evict. Conditions: none. Adaptive replacement: replace, by the program and by the reference. Conditions: the rows are short. Adaptive replacement: how room is made for a key that isn't remembered. Conditions: the rows are short. Adaptive replacement: a touch, an admission, a drop, by the program. Conditions: the rows are short. Adaptive replacement: another capacity, by the program. Conditions: the rows are short. -/
import Derived.Test.YtkoimgeckkodhaaRqC
import Derived.Test.YtkoimgeckkodhaaRqB
section
set_option linter.unusedVariables false
set_option linter.unusedSimpArgs false
set_option maxRecDepth 20000
set_option maxHeartbeats 1600000
-- axs, axw, aresL, afill, Value.oneCell', Nat.reduceLT, Nat.reduceLeDiff, Nat.reduceEqDiff, Nat.reduceAdd, Nat.reduceMul, Nat.reduceSub, Nat.reduceBEq, Int.reduceLE, Int.reduceLT, Int.reduceToNat, Int.reduceNeg, Int.reduceEq, axt, ftK, ft3, AAll, ftQ, S6, tys: S6
namespace Go.Al
open Go.Proofs
/-- A capacity, a target, and four rows of keys: T1, T2, B1, B2. -/
def S6 (C P : Int) (A B D E : List Int) : AV := .agg [.sc (.int .i64 C), .sc (.int .i64 P), .lst 1 (U A), .lst 1 (U B), .lst 1 (U D), .lst 1 (U E)]
theorem see9c6b0 {p : Prop} (h : p := by repeat' (first | exact True.intro | exact Sees.sc | exact Sees.none | ((with_reducible refine Sees.same ?_) <;> simp [noIds, noIdsL, noIdsE, noIdsE_U, noIdsE_UU] <;> fail) | (refine Live.sees ?_ ?_ <;> first | assumption | (simp [noIdsE_U, noIdsE_UU] <;> fail)) | (refine Sees.obj ?_ ?_ ?_ <;> first | exact ⟨_, _, by assumption, rfl⟩ | (simp [U_len, UU_len] <;> fail) | (simp [noIdsE_U, noIdsE_UU] <;> fail) | (simp [U, UU, upd] <;> fail) | (simp [U, UU, upd, neS, *] <;> fail)) | (refine Sees.of_seen 3 ?_ <;> simp [seen, upd, noIdsE, noIdsL, noIds, U, UU, Nat.add_assoc] <;> fail) | refine Sees.agg ?_ | refine And.intro ?_ ?_ | simp only [SeesL])) : p := h
theorem see9c6b1 {p : Prop} (h : p := by repeat' (first | exact True.intro | exact Sees.sc | exact Sees.none | ((with_reducible refine Sees.same ?_) <;> simp [noIds, noIdsL, noIdsE, noIdsE_U, noIdsE_UU] <;> fail) | (refine Live.sees ?_ ?_ <;> first | assumption | (simp [noIdsE_U, noIdsE_UU] <;> fail)) | (refine Sees.obj ?_ ?_ ?_ <;> first | exact ⟨_, _, by assumption, rfl⟩ | (simp [U_len, UU_len] <;> fail) | (simp [noIdsE_U, noIdsE_UU] <;> fail) | (simp [U, UU, upd, neS] <;> fail) | (simp [U, UU, upd, neS, *] <;> fail)) | refine Sees.agg ?_ | refine Sees.tup ?_ | refine And.intro ?_ ?_ | simp only [SeesL])) : p := h
theorem rANew (c : Int) : PCalls Try.prog 29 [.sc (.int .i64 c)] (S6 (capOf c) 0 [] [] [] []) := by
  refine PCalls.intro2 Try.func29 rfl rfl Try.ntmps29 Try.results29 (by simp) fun n => ?_; simp (maxSteps := 400000) (dsimp := false) only [axs, axw, aresL, afill, Value.oneCell', Nat.reduceLT, Nat.reduceLeDiff, Nat.reduceEqDiff, Nat.reduceAdd, Nat.reduceMul, Nat.reduceSub, Nat.reduceBEq, Int.reduceLE, Int.reduceLT, Int.reduceToNat, Int.reduceNeg, Int.reduceEq, axt, ftK, ft3, AAll, ftQ, S6, tys]
  refine ACallK.strict rfl (rCap c) (by simp only [SeesL, axs, axt, AS.ev, AS.put, upd, inHeap, Nat.reduceLT, Nat.reduceEqDiff, Nat.reduceAdd, Nat.reduceBEq, S6]; exact see9c6b0) ?_; simp (maxSteps := 400000) (dsimp := false) only [axs, axw, aresL, afill, Value.oneCell', Nat.reduceLT, Nat.reduceLeDiff, Nat.reduceEqDiff, Nat.reduceAdd, Nat.reduceMul, Nat.reduceSub, Nat.reduceBEq, Int.reduceLE, Int.reduceLT, Int.reduceToNat, Int.reduceNeg, Int.reduceEq, axt, ftK, ft3, AAll, ftQ, S6, tys]
  refine ⟨_, rfl, ?_⟩; simp (maxSteps := 400000) (dsimp := false) only [SeesL, axs, axw, aresL, afill, Value.oneCell', Nat.reduceLT, Nat.reduceLeDiff, Nat.reduceEqDiff, Nat.reduceAdd, Nat.reduceMul, Nat.reduceSub, Nat.reduceBEq, Int.reduceLE, Int.reduceLT, Int.reduceToNat, Int.reduceNeg, Int.reduceEq, axt, ftK, ft3, AAll, ftQ, S6, tys] <;> exact see9c6b1
end Go.Al
end
section
set_option linter.unusedVariables false
set_option linter.unusedSimpArgs false
namespace Go.Al
structure ARC where
  C : Int
  P : Int
  A : List Int
  B : List Int
  D : List Int
  E : List Int
def arcDem (s : ARC) (f : Bool) : ARC × Int :=
  if f then (⟨s.C, s.P, s.A.take (s.A.length - 1), s.B, lastD s.A :: without s.D (lastD s.A), s.E⟩, lastD s.A) else (⟨s.C, s.P, s.A, s.B.take (s.B.length - 1), s.D, lastD s.B :: without s.E (lastD s.B)⟩, lastD s.B)
def arcFrom (s : ARC) (again : Bool) : Bool := decide ((0 < s.A.length ∧ ((s.A.length : Int) > s.P ∨ ((s.A.length : Int) = s.P ∧ again = true))) ∨ s.B = [])
def arcReplace (s : ARC) (again : Bool) : ARC × List Int :=
  if (s.A.length : Int) + s.B.length < s.C then (s, []) else ((arcDem s (arcFrom s again)).1, [(arcDem s (arcFrom s again)).2])
def arcTouch (s : ARC) (k : Int) : ARC := if k ∈ s.A ++ s.B then ⟨s.C, s.P, without s.A k, k :: without s.B k, s.D, s.E⟩ else s
def arcFresh (s : ARC) : ARC × List Int :=
  if (s.A.length : Int) + s.D.length < s.C then
    (if (s.A.length : Int) + s.B.length + s.D.length + s.E.length < s.C then (s, [])
     else if (s.A.length : Int) + s.B.length + s.D.length + s.E.length ≥ 2 * s.C then arcReplace ⟨s.C, s.P, s.A, s.B, s.D, s.E.take (s.E.length - 1)⟩ false
     else arcReplace s false)
  else if (s.A.length : Int) < s.C then arcReplace ⟨s.C, s.P, s.A, s.B, s.D.take (s.D.length - 1), s.E⟩ false
  else (⟨s.C, s.P, s.A.take (s.A.length - 1), s.B, s.D, s.E⟩, [lastD s.A])
def mx1 (x : Int) : Int := if 1 > x then 1 else x
def arcUp (s : ARC) : Int := if s.C < s.P + mx1 ((s.E.length : Int).tdiv s.D.length) then s.C else s.P + mx1 ((s.E.length : Int).tdiv s.D.length)
def arcDown (s : ARC) : Int := if 0 > s.P - mx1 ((s.D.length : Int).tdiv s.E.length) then 0 else s.P - mx1 ((s.D.length : Int).tdiv s.E.length)
def arcAdmit (s : ARC) (k : Int) : ARC × List Int :=
  if k ∈ s.A ++ s.B then (s, [])
  else if k ∈ s.D then (⟨(arcReplace ⟨s.C, arcUp s, s.A, s.B, without s.D k, s.E⟩ false).1.C, (arcReplace ⟨s.C, arcUp s, s.A, s.B, without s.D k, s.E⟩ false).1.P, (arcReplace ⟨s.C, arcUp s, s.A, s.B, without s.D k, s.E⟩ false).1.A, k :: without (arcReplace ⟨s.C, arcUp s, s.A, s.B, without s.D k, s.E⟩ false).1.B k, (arcReplace ⟨s.C, arcUp s, s.A, s.B, without s.D k, s.E⟩ false).1.D, (arcReplace ⟨s.C, arcUp s, s.A, s.B, without s.D k, s.E⟩ false).1.E⟩, (arcReplace ⟨s.C, arcUp s, s.A, s.B, without s.D k, s.E⟩ false).2)
  else if k ∈ s.E then (⟨(arcReplace ⟨s.C, arcDown s, s.A, s.B, s.D, without s.E k⟩ true).1.C, (arcReplace ⟨s.C, arcDown s, s.A, s.B, s.D, without s.E k⟩ true).1.P, (arcReplace ⟨s.C, arcDown s, s.A, s.B, s.D, without s.E k⟩ true).1.A, k :: without (arcReplace ⟨s.C, arcDown s, s.A, s.B, s.D, without s.E k⟩ true).1.B k, (arcReplace ⟨s.C, arcDown s, s.A, s.B, s.D, without s.E k⟩ true).1.D, (arcReplace ⟨s.C, arcDown s, s.A, s.B, s.D, without s.E k⟩ true).1.E⟩, (arcReplace ⟨s.C, arcDown s, s.A, s.B, s.D, without s.E k⟩ true).2)
  else (⟨(arcFresh s).1.C, (arcFresh s).1.P, k :: without (arcFresh s).1.A k, (arcFresh s).1.B, (arcFresh s).1.D, (arcFresh s).1.E⟩, (arcFresh s).2)
def arcDrop (s : ARC) (k : Int) : ARC := ⟨s.C, s.P, without s.A k, without s.B k, without s.D k, without s.E k⟩
def arcShrink : Nat → ARC → List Int → ARC × List Int
  | 0, s, g => (s, g)
  | f + 1, s, g => if (s.A.length : Int) + s.B.length ≤ s.C then (s, g) else arcShrink f (arcDem s (decide ((s.A.length : Int) > s.P ∨ s.B = []))).1 (g ++ [(arcDem s (decide ((s.A.length : Int) > s.P ∨ s.B = []))).2])
def arcCut (s : ARC) : ARC := ⟨s.C, s.P, s.A, s.B, cutTo s.D (s.C - s.A.length), cutTo s.E (s.C - (cutTo s.D (s.C - s.A.length)).length)⟩
def arcResize (s : ARC) (c : Int) : ARC × List Int :=
  (arcCut (arcShrink (s.A.length + s.B.length) ⟨capOf c, (if capOf c < s.P then capOf c else s.P), s.A, s.B, s.D, s.E⟩ []).1, (arcShrink (s.A.length + s.B.length) ⟨capOf c, (if capOf c < s.P then capOf c else s.P), s.A, s.B, s.D, s.E⟩ []).2)
def arcDo (s : ARC) (a : Deed) : ARC × List Int :=
  if kindOf a (decide (a.key ∈ s.A ++ s.B)) = 1 then (arcTouch s a.key, [])
  else if kindOf a (decide (a.key ∈ s.A ++ s.B)) = 2 then arcAdmit s a.key
  else if kindOf a (decide (a.key ∈ s.A ++ s.B)) = 3 then (arcDrop s a.key, [])
  else arcResize s (sizeOf' a)
/-! ### What stays so -/
/-- No key is in two rows, or twice in one. -/
def Sep4 (s : ARC) : Prop := ∀ x, s.A.count x + s.B.count x + s.D.count x + s.E.count x ≤ 1
theorem count_without (l : List Int) (k x : Int) : (without l k).count x = if x = k then 0 else l.count x := by
  unfold without
  by_cases h : x = k
  · subst h
    rw [if_pos rfl, List.count_eq_zero]
    simp
  · rw [if_neg h, List.count_filter (by simpa using h)]
theorem count_last {l : List Int} (h : l ≠ []) (x : Int) : l.count x = (l.take (l.length - 1)).count x + if lastD l = x then 1 else 0 := by
  have h0 := List.length_pos_iff.2 h
  have h1 := lastD_get h
  have h2 := List.take_add_one (l := l) (i := l.length - 1)
  rw [h1, Nat.sub_add_cancel h0, List.take_length] at h2
  conv => lhs; rw [h2]
  simp [List.count_append, List.count_singleton]
theorem count_take_le (l : List Int) (n : Nat) (x : Int) : (l.take n).count x ≤ l.count x := (List.take_sublist n l).count_le x
theorem count_cutTo_le (l : List Int) (z x : Int) : (cutTo l z).count x ≤ l.count x := count_take_le _ _ _
theorem count_front (l : List Int) (k x : Int) : (k :: without l k).count x = if x = k then 1 else l.count x := by
  rw [List.count_cons, count_without]
  by_cases h : x = k
  · subst h; simp
  · have : ¬ k = x := fun e => h e.symm
    simp [h, this]
theorem mem_count {l : List Int} {x : Int} : x ∈ l ↔ 0 < l.count x := List.count_pos_iff.symm
theorem len_without {l : List Int} {k : Int} (h : l.count k ≤ 1) : (without l k).length + l.count k = l.length := by
  unfold without
  have h1 := List.length_eq_countP_add_countP (fun x => decide (x ≠ k)) (l := l)
  rw [List.countP_eq_length_filter] at h1
  have h2 : l.countP (fun a => decide ¬ (decide (a ≠ k)) = true) = l.count k := by
    unfold List.count
    congr 1
    funext a
    by_cases e : a = k <;> simp [e]
  omega
/-- What an act leaves, and what it evicted: of those that were there. -/
structure Went4 (s r : ARC) (out : List Int) (new old : Option Int) : Prop where
  cnt : ∀ x, r.A.count x + r.B.count x + out.count x = (if old = some x then 0 else s.A.count x + s.B.count x) + if new = some x then 1 else 0
  sep : Sep4 r
  one : ∀ x, out.count x ≤ s.A.count x + s.B.count x
structure ArcOk (s : ARC) : Prop where
  c0 : 1 ≤ s.C
  c1 : s.C ≤ 14
  p0 : 0 ≤ s.P
  p1 : s.P ≤ s.C
  ab : (s.A.length : Int) + s.B.length ≤ s.C
  ad : (s.A.length : Int) + s.D.length ≤ s.C
  de : (s.D.length : Int) + s.E.length ≤ s.C
  sep : Sep4 s
theorem take_len {l : List Int} : (l.take (l.length - 1)).length = l.length - 1 := by rw [List.length_take]; omega
theorem ne_len {l : List Int} : l ≠ [] ↔ 0 < l.length := List.length_pos_iff.symm
theorem count_one (a x : Int) : List.count x [a] = if a = x then 1 else 0 := by
  rw [List.count_singleton]
  by_cases h : a = x <;> simp [h]
/-- What demoting comes to. -/
theorem dem_facts {s : ARC} (f : Bool) (hs : Sep4 s) (hne : if f then s.A ≠ [] else s.B ≠ []) :
    (arcDem s f).1.C = s.C ∧ (arcDem s f).1.P = s.P ∧ Sep4 (arcDem s f).1 ∧ (arcDem s f).1.A.length + (arcDem s f).1.B.length + 1 = s.A.length + s.B.length ∧ (arcDem s f).1.D.length + (arcDem s f).1.E.length = s.D.length + s.E.length + 1 ∧
    (arcDem s f).1.A.length + (arcDem s f).1.D.length = s.A.length + s.D.length ∧ (∀ x, (arcDem s f).1.A.count x + (arcDem s f).1.B.count x + (if (arcDem s f).2 = x then 1 else 0) = s.A.count x + s.B.count x) ∧ (∀ x, (arcDem s f).1.D.count x + (arcDem s f).1.E.count x = s.D.count x + s.E.count x + (if (arcDem s f).2 = x then 1 else 0)) := by
  cases f with
  | true =>
    have hne : s.A ≠ [] := hne
    have hc := fun x => count_last hne x
    have hl := ne_len.1 hne
    have h1 := hs (lastD s.A)
    have h2 := hc (lastD s.A)
    simp only [if_true] at h2
    have hd : s.D.count (lastD s.A) = 0 := by omega
    have hw := len_without (l := s.D) (k := lastD s.A) (by omega)
    unfold arcDem
    rw [if_pos rfl]
    refine ⟨rfl, rfl, ?_, ?_, ?_, ?_, ?_, ?_⟩
    · intro x
      have := hs x
      have := hc x
      simp only [count_front]
      split
      · rename_i e; subst e; simp only [if_true] at *; omega
      · rename_i e
        have : ¬ lastD s.A = x := fun h => e h.symm
        simp only [if_neg this] at *; omega
    · simp only [take_len]; omega
    · simp only [List.length_cons]; omega
    · simp only [take_len, List.length_cons]; omega
    · intro x
      have := hc x
      simp only
      omega
    · intro x
      simp only [count_front]
      by_cases e : x = lastD s.A
      · subst e; rw [if_pos rfl, if_pos rfl]; omega
      · have e' : ¬ lastD s.A = x := fun h => e h.symm
        simp [e, e']
  | false =>
    have hne : s.B ≠ [] := hne
    have hc := fun x => count_last hne x
    have hl := ne_len.1 hne
    have h1 := hs (lastD s.B)
    have h2 := hc (lastD s.B)
    simp only [if_true] at h2
    have hd : s.E.count (lastD s.B) = 0 := by omega
    have hw := len_without (l := s.E) (k := lastD s.B) (by omega)
    unfold arcDem
    rw [if_neg (by simp)]
    refine ⟨rfl, rfl, ?_, ?_, ?_, rfl, ?_, ?_⟩
    · intro x
      have := hs x
      have := hc x
      simp only [count_front]
      split
      · rename_i e; subst e; simp only [if_true] at *; omega
      · rename_i e
        have : ¬ lastD s.B = x := fun h => e h.symm
        simp only [if_neg this] at *; omega
    · simp only [take_len]; omega
    · simp only [List.length_cons]; omega
    · intro x
      have := hc x
      simp only
      omega
    · intro x
      simp only [count_front]
      by_cases e : x = lastD s.B
      · subst e; rw [if_pos rfl, if_pos rfl]; omega
      · have e' : ¬ lastD s.B = x := fun h => e h.symm
        simp [e, e']
theorem from_ne {s : ARC} {again : Bool} (h : 0 < s.A.length + s.B.length) : if arcFrom s again then s.A ≠ [] else s.B ≠ [] := by
  unfold arcFrom
  split <;> rename_i hb
  · simp only [decide_eq_true_eq] at hb
    rcases hb with ⟨hb, _⟩ | hb
    · exact ne_len.2 hb
    · rw [hb] at h; exact ne_len.2 (by simpa using h)
  · simp only [decide_eq_true_eq] at hb
    exact fun h => hb (.inr h)
/-- What replacing comes to. -/
theorem replace_facts {s : ARC} (again : Bool) (c0 : 1 ≤ s.C) (hs : Sep4 s) (hab : (s.A.length : Int) + s.B.length ≤ s.C) :
    (arcReplace s again).1.C = s.C ∧ (arcReplace s again).1.P = s.P ∧ Sep4 (arcReplace s again).1 ∧ (arcReplace s again).1.A.length + (arcReplace s again).1.B.length + (arcReplace s again).2.length = s.A.length + s.B.length ∧ ((arcReplace s again).1.A.length : Int) + (arcReplace s again).1.B.length < s.C ∧
    (arcReplace s again).1.D.length + (arcReplace s again).1.E.length = s.D.length + s.E.length + (arcReplace s again).2.length ∧ (arcReplace s again).1.A.length + (arcReplace s again).1.D.length = s.A.length + s.D.length ∧
    (∀ x, (arcReplace s again).1.A.count x + (arcReplace s again).1.B.count x + (arcReplace s again).2.count x = s.A.count x + s.B.count x) ∧ (∀ x, (arcReplace s again).1.D.count x + (arcReplace s again).1.E.count x = s.D.count x + s.E.count x + (arcReplace s again).2.count x) ∧ (0 < (arcReplace s again).2.length → (s.A.length : Int) + s.B.length = s.C) ∧ (arcReplace s again).2.length ≤ 1 := by
  unfold arcReplace
  by_cases h : (s.A.length : Int) + s.B.length < s.C
  · rw [if_pos h]
    exact ⟨rfl, rfl, hs, by simp, by omega, by simp, rfl, by simp, by simp, by simp, by simp⟩
  · rw [if_neg h]
    obtain ⟨d1, d2, d3, d4, d5, d6, d7, d8⟩ := dem_facts (arcFrom s again) hs (from_ne (by omega))
    generalize arcDem s (arcFrom s again) = r at *
    refine ⟨d1, d2, d3, by simp only [List.length_singleton]; omega, by simp only; omega, by simp only [List.length_singleton]; omega, d6, ?_, ?_, by omega, by simp⟩
    · intro x; rw [count_one]; exact d7 x
    · intro x; rw [count_one]; exact d8 x
theorem mx1_le (x : Int) : 1 ≤ mx1 x := by unfold mx1; split <;> omega
theorem arcUp_ok {s : ARC} (p0 : 0 ≤ s.P) (p1 : s.P ≤ s.C) : s.P ≤ arcUp s ∧ arcUp s ≤ s.C := by
  unfold arcUp
  have := mx1_le ((s.E.length : Int).tdiv s.D.length)
  split <;> omega
theorem arcDown_ok {s : ARC} (p0 : 0 ≤ s.P) : 0 ≤ arcDown s ∧ arcDown s ≤ s.P := by
  unfold arcDown
  have := mx1_le ((s.D.length : Int).tdiv s.E.length)
  split <;> omega
end Go.Al
end
section
set_option linter.unusedVariables false
set_option linter.unusedSimpArgs false
set_option maxRecDepth 20000
set_option maxHeartbeats 1600000
-- axs, axw, aresL, afill, Value.oneCell', Nat.reduceLT, Nat.reduceLeDiff, Nat.reduceEqDiff, Nat.reduceAdd, Nat.reduceMul, Nat.reduceSub, Nat.reduceBEq, Int.reduceLE, Int.reduceLT, Int.reduceToNat, Int.reduceNeg, Int.reduceEq, axt, ftK, ft3, AAll, ftQ, S6, tys: S6
namespace Go.Al
open Go.Proofs
def arcDemote1 (A D : List Int) : List Int × List Int × Int := (A.take (A.length - 1), lastD A :: without D (lastD A), lastD A)
end Go.Al
end
section
set_option linter.unusedVariables false
set_option linter.unusedSimpArgs false
namespace Go.Al
theorem evOk_of {was is out : List Int} {kind : Int} {there : Bool} {key size : Int} (new old : Option Int)
    (hc : ∀ x, is.count x + out.count x = (if old = some x then 0 else was.count x) + if new = some x then 1 else 0) (hw : ∀ x, was.count x ≤ 1) (ho : ∀ x, out.count x ≤ was.count x)
    (hn : ∀ x, new = some x → was.count x = 0) (hk : ∀ x, old = some x → kind = 3 ∧ x = key)
    (len : (is.length : Int) = was.length - out.length + (if kind = 2 ∧ there = false then 1 else 0) - (if kind = 3 ∧ there = true then 1 else 0)) (sz : kind = 4 → (out.length : Int) = max ((was.length : Int) - size) 0) : EvOk was is out kind there key size := by
  refine ⟨?_, ?_, ?_, len, sz⟩
  · intro x hx
    have h1 := mem_count.1 hx
    have h2 := ho x
    have h3 := hw x
    have h4 := hc x
    refine ⟨mem_count.2 (by omega), fun hi => ?_⟩
    have h5 := mem_count.1 hi
    have h6 : ¬ new = some x := fun h => by have := hn x h; omega
    rw [if_neg h6] at h4
    split at h4 <;> omega
  · intro x hx
    have h1 := mem_count.1 hx
    have h4 := hc x
    by_cases h : old = some x
    · exact .inr (.inr (hk x h))
    · rw [if_neg h] at h4
      rcases Nat.eq_zero_or_pos (out.count x) with h5 | h5
      · exact .inr (.inl (mem_count.2 (by omega)))
      · exact .inl (mem_count.2 h5)
  · rw [apart_iff, List.nodup_iff_count]
    intro x
    have := hw x
    have := ho x
    omega
theorem not_count {l : List Int} {x : Int} (h : x ∉ l) : l.count x = 0 := List.count_eq_zero.2 h
theorem fresh_facts {s : ARC} (h : ArcOk s) :
    (arcFresh s).1.C = s.C ∧ (arcFresh s).1.P = s.P ∧ Sep4 (arcFresh s).1 ∧ (arcFresh s).1.A.length + (arcFresh s).1.B.length + (arcFresh s).2.length = s.A.length + s.B.length ∧ ((arcFresh s).1.A.length : Int) + (arcFresh s).1.B.length < s.C ∧
    ((arcFresh s).1.D.length : Int) + (arcFresh s).1.E.length ≤ s.C ∧ ((arcFresh s).1.A.length : Int) + (arcFresh s).1.D.length < s.C ∧
    (∀ x, (arcFresh s).1.A.count x + (arcFresh s).1.B.count x + (arcFresh s).2.count x = s.A.count x + s.B.count x) ∧ (∀ x, (arcFresh s).1.D.count x + (arcFresh s).1.E.count x ≤ s.D.count x + s.E.count x + (arcFresh s).2.count x) := by
  obtain ⟨c0, c1, p0, p1, ab, ad, de, sep⟩ := h
  unfold arcFresh
  by_cases h1 : (s.A.length : Int) + s.D.length < s.C
  · rw [if_pos h1]
    by_cases h2 : (s.A.length : Int) + s.B.length + s.D.length + s.E.length < s.C
    · rw [if_pos h2]
      exact ⟨rfl, rfl, sep, by simp, by simp only; omega, de, h1, by simp, by simp⟩
    · rw [if_neg h2]
      by_cases h3 : (s.A.length : Int) + s.B.length + s.D.length + s.E.length ≥ 2 * s.C
      · rw [if_pos h3]
        have hE : s.E ≠ [] := ne_len.2 (by omega)
        have hs : Sep4 ⟨s.C, s.P, s.A, s.B, s.D, s.E.take (s.E.length - 1)⟩ := fun x => by have := sep x; have := count_take_le s.E (s.E.length - 1) x; simp only; omega
        obtain ⟨r1, r2, r3, r4, r5, r6, r7, r8, r9, r10, r11⟩ := replace_facts false (s := ⟨s.C, s.P, s.A, s.B, s.D, s.E.take (s.E.length - 1)⟩) c0 hs ab
        simp only [take_len] at r6
        simp only at r1 r2 r4 r5 r7 r8 r9 r10
        refine ⟨r1, r2, r3, r4, r5, by omega, by omega, r8, ?_⟩
        intro x
        have := r9 x
        have := count_take_le s.E (s.E.length - 1) x
        omega
      · rw [if_neg h3]
        obtain ⟨r1, r2, r3, r4, r5, r6, r7, r8, r9, r10, r11⟩ := replace_facts false (s := s) c0 sep ab
        refine ⟨r1, r2, r3, r4, r5, by omega, by omega, r8, ?_⟩
        intro x
        have := r9 x
        omega
  · rw [if_neg h1]
    by_cases h2 : (s.A.length : Int) < s.C
    · rw [if_pos h2]
      have hs : Sep4 ⟨s.C, s.P, s.A, s.B, s.D.take (s.D.length - 1), s.E⟩ := fun x => by have := sep x; have := count_take_le s.D (s.D.length - 1) x; simp only; omega
      obtain ⟨r1, r2, r3, r4, r5, r6, r7, r8, r9, r10, r11⟩ := replace_facts false (s := ⟨s.C, s.P, s.A, s.B, s.D.take (s.D.length - 1), s.E⟩) c0 hs ab
      simp only [take_len] at r6 r7
      simp only at r1 r2 r4 r5 r8 r9 r10
      refine ⟨r1, r2, r3, r4, r5, by omega, by omega, r8, ?_⟩
      intro x
      have := r9 x
      have := count_take_le s.D (s.D.length - 1) x
      omega
    · rw [if_neg h2]
      have hA : s.A ≠ [] := ne_len.2 (by omega)
      have hc := fun x => count_last hA x
      refine ⟨rfl, rfl, ?_, ?_, ?_, de, ?_, ?_, ?_⟩
      · intro x
        have := sep x
        have := hc x
        simp only; omega
      · simp only [take_len, List.length_singleton]; omega
      · simp only [take_len]; omega
      · simp only [take_len]; omega
      · intro x
        have := hc x
        simp only [count_one]; omega
      · intro x
        simp only; omega
theorem ArcOk.touch {s : ARC} (h : ArcOk s) {k : Int} (hk : k ∈ s.A ++ s.B) : ArcOk ⟨s.C, s.P, without s.A k, k :: without s.B k, s.D, s.E⟩ ∧ (without s.A k).length + (without s.B k).length + 1 = s.A.length + s.B.length ∧ ∀ x, (without s.A k).count x + (k :: without s.B k).count x = s.A.count x + s.B.count x := by
  obtain ⟨c0, c1, p0, p1, ab, ad, de, sep⟩ := h
  have h1 := sep k
  have h2 : 0 < (s.A ++ s.B).count k := mem_count.1 hk
  rw [List.count_append] at h2
  have l1 := len_without (l := s.A) (k := k) (by omega)
  have l2 := len_without (l := s.B) (k := k) (by omega)
  have hc : ∀ x, (without s.A k).count x + (k :: without s.B k).count x = s.A.count x + s.B.count x := fun x => by
    rw [count_without, count_front]
    split
    · rename_i e; subst e; omega
    · omega
  refine ⟨⟨c0, c1, p0, p1, ?_, ?_, de, ?_⟩, by omega, hc⟩
  · simp only [List.length_cons]; omega
  · simp only; omega
  · intro x
    have := sep x
    have := hc x
    simp only at *; omega
theorem known_ok {s r : ARC} {k : Int} {out : List Int} (h : ArcOk s) (hA : s.A.count k = 0) (hB : s.B.count k = 0) (c : r.C = s.C) (p0 : 0 ≤ r.P) (p1 : r.P ≤ s.C) (sep : Sep4 r) (ab : (r.A.length : Int) + r.B.length < s.C) (ad : (r.A.length : Int) + r.D.length ≤ s.C) (de : (r.D.length : Int) + r.E.length ≤ s.C)
    (hc : ∀ x, r.A.count x + r.B.count x + out.count x = s.A.count x + s.B.count x) (hg : r.D.count k = 0 ∧ r.E.count k = 0) : ArcOk ⟨r.C, r.P, r.A, k :: without r.B k, r.D, r.E⟩ ∧ (without r.B k).length = r.B.length ∧ ∀ x, r.A.count x + (k :: without r.B k).count x + out.count x = s.A.count x + s.B.count x + if k = x then 1 else 0 := by
  have hk := hc k
  have l2 := len_without (l := r.B) (k := k) (by omega)
  have hx : ∀ x, (k :: without r.B k).count x = r.B.count x + if k = x then 1 else 0 := fun x => by
    rw [count_front]
    by_cases e : x = k
    · subst e; simp; omega
    · have : ¬ k = x := fun h => e h.symm
      simp [e, this]
  refine ⟨⟨by rw [c]; exact h.c0, by rw [c]; exact h.c1, p0, by rw [c]; exact p1, ?_, by rw [c]; exact ad, by rw [c]; exact de, ?_⟩, by omega, ?_⟩
  · simp only [List.length_cons, c]; omega
  · intro x
    have h1 := sep x
    have h2 := hc x
    simp only [hx]
    by_cases e : k = x
    · subst e; simp; omega
    · simp only [if_neg e]; omega
  · intro x
    rw [hx]
    have := hc x
    omega
theorem shrink4_facts : ∀ (f : Nat) (s : ARC) (g : List Int), s.A.length + s.B.length = f → Sep4 s → 1 ≤ s.C → 0 ≤ s.P → ∃ e, (arcShrink f s g).2 = g ++ e ∧ (arcShrink f s g).1.C = s.C ∧ (arcShrink f s g).1.P = s.P ∧ Sep4 (arcShrink f s g).1 ∧ (arcShrink f s g).1.A.length + (arcShrink f s g).1.B.length + e.length = f ∧ ((((arcShrink f s g).1.A.length + (arcShrink f s g).1.B.length : Nat) : Int) = min (f : Int) s.C) ∧
    (arcShrink f s g).1.D.length + (arcShrink f s g).1.E.length = s.D.length + s.E.length + e.length ∧ (∀ x, (arcShrink f s g).1.A.count x + (arcShrink f s g).1.B.count x + e.count x = s.A.count x + s.B.count x)
  | 0, s, g, h, hs, c0, p0 => ⟨[], by simp [arcShrink], rfl, rfl, hs, by simp [arcShrink, h], by simp only [arcShrink, h]; omega, by simp [arcShrink], by simp [arcShrink]⟩
  | f + 1, s, g, h, hs, c0, p0 => by
    unfold arcShrink
    by_cases hc : (s.A.length : Int) + s.B.length ≤ s.C
    · rw [if_pos hc]
      exact ⟨[], by simp, rfl, rfl, hs, by simp [h], by simp only; omega, by simp, by simp⟩
    · rw [if_neg hc]
      have hne : if decide ((s.A.length : Int) > s.P ∨ s.B = []) then s.A ≠ [] else s.B ≠ [] := by
        split <;> rename_i hb
        · simp only [decide_eq_true_eq] at hb
          by_cases h0 : s.A = []
          · rcases hb with hb | hb
            · rw [h0] at hb; simp at hb; omega
            · rw [h0, hb] at h; simp at h
          · exact h0
        · simp only [decide_eq_true_eq] at hb
          exact fun h => hb (.inr h)
      obtain ⟨d1, d2, d3, d4, d5, d6, d7, d8⟩ := dem_facts (decide ((s.A.length : Int) > s.P ∨ s.B = [])) hs hne
      obtain ⟨e, m1, m2, m3, m4, m5, m6, m7, m8⟩ := shrink4_facts f (arcDem s (decide ((s.A.length : Int) > s.P ∨ s.B = []))).1 (g ++ [(arcDem s (decide ((s.A.length : Int) > s.P ∨ s.B = []))).2]) (by omega) d3 (by omega) (by omega)
      generalize arcDem s (decide ((s.A.length : Int) > s.P ∨ s.B = [])) = r at *
      refine ⟨r.2 :: e, by rw [m1]; simp, by rw [m2, d1], by rw [m3, d2], m4, by simp only [List.length_cons]; omega, by rw [m6, d1]; omega, by simp only [List.length_cons]; omega, ?_⟩
      intro x
      have := m8 x
      have := d7 x
      rw [List.count_cons]
      have e1 : (if (r.2 == x) = true then 1 else 0 : Nat) = if r.2 = x then 1 else 0 := by by_cases h : r.2 = x <;> simp [h]
      rw [e1]
      omega
theorem cutTo_le' (l : List Int) (z : Int) : (cutTo l z).length ≤ l.length := cutTo_le l z
theorem ArcOk.act {s : ARC} (h : ArcOk s) {a : Deed} (ha : a.Fits) : ArcOk (arcDo s a).1 ∧ EvOk (s.A ++ s.B) ((arcDo s a).1.A ++ (arcDo s a).1.B) (arcDo s a).2 (kindOf a (decide (a.key ∈ s.A ++ s.B))) (decide (a.key ∈ s.A ++ s.B)) a.key (sizeOf' a) := by
  have hs := sizeOf_le ha
  have hcs : capOf (sizeOf' a) = sizeOf' a := capOf_same (by omega) (by omega)
  have h0 := h
  obtain ⟨c0, c1, p0, p1, ab, ad, de, sep⟩ := h
  have hw : ∀ x, (s.A ++ s.B).count x ≤ 1 := fun x => by rw [List.count_append]; have := sep x; omega
  rcases kindOf_cases a (decide (a.key ∈ s.A ++ s.B)) with e | e | e | e
  · have : arcDo s a = (arcTouch s a.key, []) := by unfold arcDo; rw [if_pos e]
    rw [this, e]
    unfold arcTouch
    by_cases hk : a.key ∈ s.A ++ s.B
    · rw [if_pos hk]
      obtain ⟨t1, t2, t3⟩ := h0.touch hk
      refine ⟨t1, evOk_of none none ?_ hw (by simp) (by simp) (by simp) ?_ (by simp)⟩
      · intro x; have := t3 x; simp only [List.count_append, List.count_nil, reduceCtorEq, if_false]; omega
      · simp only [List.length_append, List.length_cons]; simp; omega
    · rw [if_neg hk]
      exact ⟨h0, evOk_of none none (by simp) hw (by simp) (by simp) (by simp) (by simp) (by simp)⟩
  · have : arcDo s a = arcAdmit s a.key := by unfold arcDo; rw [if_neg (by omega), if_pos e]
    rw [this, e]
    unfold arcAdmit
    by_cases hk : a.key ∈ s.A ++ s.B
    · rw [if_pos hk]
      exact ⟨h0, evOk_of none none (by simp) hw (by simp) (by simp) (by simp) (by simp [hk]) (by simp)⟩
    · rw [if_neg hk]
      have hkc := not_count hk
      rw [List.count_append] at hkc
      have hsk := sep a.key
      have fin : ∀ (r : ARC) (out : List Int), (∀ x, r.A.count x + r.B.count x + out.count x = s.A.count x + s.B.count x + if a.key = x then 1 else 0) → (∀ x, out.count x ≤ s.A.count x + s.B.count x) → r.A.length + r.B.length + out.length = s.A.length + s.B.length + 1 →
          EvOk (s.A ++ s.B) (r.A ++ r.B) out 2 (decide (a.key ∈ s.A ++ s.B)) a.key (sizeOf' a) := by
        intro r out k1 k2 k3
        refine evOk_of (some a.key) none ?_ hw ?_ ?_ (by simp) ?_ (by simp)
        · intro x
          have := k1 x
          simp only [List.count_append, Option.some.injEq, reduceCtorEq, if_false]
          omega
        · intro x; rw [List.count_append]; exact k2 x
        · intro x hx
          have : a.key = x := by simpa using hx
          subst this
          rw [List.count_append]; omega
        · simp only [List.length_append, hk]; simp; omega
      by_cases hD : a.key ∈ s.D
      · rw [if_pos hD]
        have hDc := mem_count.1 hD
        have hl := len_without (l := s.D) (k := a.key) (by omega)
        obtain ⟨u1, u2⟩ := arcUp_ok p0 p1
        have hs' : Sep4 ⟨s.C, arcUp s, s.A, s.B, without s.D a.key, s.E⟩ := fun x => by have := sep x; simp only [count_without]; split <;> omega
        obtain ⟨r1, r2, r3, r4, r5, r6, r7, r8, r9, r10, r11⟩ := replace_facts false (s := ⟨s.C, arcUp s, s.A, s.B, without s.D a.key, s.E⟩) c0 hs' ab
        simp only at r1 r2 r4 r5 r6 r7 r8 r9 r10
        generalize arcReplace ⟨s.C, arcUp s, s.A, s.B, without s.D a.key, s.E⟩ false = R at *
        have hg := r9 a.key
        have ho := r8 a.key
        rw [count_without, if_pos rfl] at hg
        obtain ⟨q1, q2, q3⟩ := known_ok (r := R.1) (k := a.key) (out := R.2) h0 (by omega) (by omega) r1 (by omega) (by omega) r3 (by omega) (by omega) (by omega) r8 ⟨by omega, by omega⟩
        exact ⟨q1, fin ⟨R.1.C, R.1.P, R.1.A, a.key :: without R.1.B a.key, R.1.D, R.1.E⟩ R.2 q3 (fun x => by have := r8 x; omega) (by simp only [List.length_cons]; omega)⟩
      · rw [if_neg hD]
        by_cases hE : a.key ∈ s.E
        · rw [if_pos hE]
          have hEc := mem_count.1 hE
          have hl := len_without (l := s.E) (k := a.key) (by omega)
          obtain ⟨u1, u2⟩ := arcDown_ok p0
          have hs' : Sep4 ⟨s.C, arcDown s, s.A, s.B, s.D, without s.E a.key⟩ := fun x => by have := sep x; simp only [count_without]; split <;> omega
          obtain ⟨r1, r2, r3, r4, r5, r6, r7, r8, r9, r10, r11⟩ := replace_facts true (s := ⟨s.C, arcDown s, s.A, s.B, s.D, without s.E a.key⟩) c0 hs' ab
          simp only at r1 r2 r4 r5 r6 r7 r8 r9 r10
          generalize arcReplace ⟨s.C, arcDown s, s.A, s.B, s.D, without s.E a.key⟩ true = R at *
          have hg := r9 a.key
          have ho := r8 a.key
          rw [count_without, if_pos rfl] at hg
          obtain ⟨q1, q2, q3⟩ := known_ok (r := R.1) (k := a.key) (out := R.2) h0 (by omega) (by omega) r1 (by omega) (by omega) r3 (by omega) (by omega) (by omega) r8 ⟨by omega, by omega⟩
          exact ⟨q1, fin ⟨R.1.C, R.1.P, R.1.A, a.key :: without R.1.B a.key, R.1.D, R.1.E⟩ R.2 q3 (fun x => by have := r8 x; omega) (by simp only [List.length_cons]; omega)⟩
        · rw [if_neg hE]
          have hDc := not_count hD
          have hEc := not_count hE
          obtain ⟨r1, r2, r3, r4, r5, r6, r7, r8, r9⟩ := fresh_facts h0
          generalize arcFresh s = R at *
          have ho := r8 a.key
          have hg := r9 a.key
          have l2 := len_without (l := R.1.A) (k := a.key) (by omega)
          have hx : ∀ x, (a.key :: without R.1.A a.key).count x = R.1.A.count x + if a.key = x then 1 else 0 := fun x => by
            rw [count_front]
            by_cases e : x = a.key
            · subst e; simp; omega
            · have : ¬ a.key = x := fun h => e h.symm
              simp [e, this]
          refine ⟨⟨by rw [r1]; exact c0, by rw [r1]; exact c1, by rw [r2]; exact p0, by rw [r1, r2]; exact p1, ?_, ?_, by rw [r1]; exact r6, ?_⟩, fin ⟨R.1.C, R.1.P, a.key :: without R.1.A a.key, R.1.B, R.1.D, R.1.E⟩ R.2 ?_ (fun x => by have := r8 x; omega) (by simp only [List.length_cons]; omega)⟩
          · simp only [List.length_cons]; omega
          · simp only [List.length_cons]; omega
          · intro x
            have := r3 x
            simp only [hx]
            by_cases e : a.key = x
            · rw [if_pos e]; subst e; omega
            · rw [if_neg e]; omega
          · intro x
            have := r8 x
            simp only [hx]; omega
  · have : arcDo s a = (arcDrop s a.key, []) := by unfold arcDo; rw [if_neg (by omega), if_neg (by omega), if_pos e]
    rw [this, e]
    unfold arcDrop
    have hsk := sep a.key
    have l1 := len_without (l := s.A) (k := a.key) (by omega)
    have l2 := len_without (l := s.B) (k := a.key) (by omega)
    have l3 := len_without (l := s.D) (k := a.key) (by omega)
    have l4 := len_without (l := s.E) (k := a.key) (by omega)
    refine ⟨⟨c0, c1, p0, p1, by simp only; omega, by simp only; omega, by simp only; omega, ?_⟩, evOk_of none (some a.key) ?_ hw (by simp) (by simp) (by simp) ?_ (by simp)⟩
    · intro x
      have := sep x
      simp only [count_without]
      split <;> omega
    · intro x
      simp only [List.count_append, count_without, List.count_nil, Option.some.injEq, reduceCtorEq, if_false]
      by_cases e : x = a.key
      · subst e; simp
      · have : ¬ a.key = x := fun h => e h.symm
        simp [e, this]
    · simp only [List.length_append, List.length_nil]
      by_cases hk : a.key ∈ s.A ++ s.B
      · have := mem_count.1 hk
        rw [List.count_append] at this
        simp [hk]; omega
      · have := not_count hk
        rw [List.count_append] at this
        simp [hk]; omega
  · have : arcDo s a = arcResize s (sizeOf' a) := by unfold arcDo; rw [if_neg (by omega), if_neg (by omega), if_neg (by omega)]
    rw [this, e]
    unfold arcResize
    rw [hcs]
    have hp : 0 ≤ (if sizeOf' a < s.P then sizeOf' a else s.P) ∧ (if sizeOf' a < s.P then sizeOf' a else s.P) ≤ sizeOf' a := by split <;> omega
    generalize (if sizeOf' a < s.P then sizeOf' a else s.P) = P at *
    obtain ⟨ev, m1, m2, m3, m4, m5, m6, m7, m8⟩ := shrink4_facts (s.A.length + s.B.length) ⟨sizeOf' a, P, s.A, s.B, s.D, s.E⟩ [] rfl sep hs.1 hp.1
    generalize arcShrink (s.A.length + s.B.length) ⟨sizeOf' a, P, s.A, s.B, s.D, s.E⟩ [] = R at *
    simp only [List.nil_append] at m1 m2 m3 m6 m7 m8
    unfold arcCut
    have l1 := cutTo_len R.1.D (R.1.C - R.1.A.length) (by omega)
    have l2 := cutTo_len R.1.E (R.1.C - (cutTo R.1.D (R.1.C - R.1.A.length)).length) (by omega)
    refine ⟨⟨by simp only [m2]; omega, by simp only [m2]; omega, by simp only [m3]; omega, by simp only [m2, m3]; omega, by simp only [m2]; omega, by simp only; omega, by simp only; omega, ?_⟩, evOk_of none none ?_ hw ?_ (by simp) (by simp) ?_ ?_⟩
    · intro x
      have := m4 x
      have := count_cutTo_le R.1.D (R.1.C - R.1.A.length) x
      have := count_cutTo_le R.1.E (R.1.C - (cutTo R.1.D (R.1.C - R.1.A.length)).length) x
      simp only; omega
    · intro x
      have := m8 x
      simp only [List.count_append, m1, reduceCtorEq, if_false]; omega
    · intro x
      have := m8 x
      simp only [List.count_append, m1]; omega
    · simp only [List.length_append, m1]; simp; omega
    · intro _
      simp only [List.length_append, m1]; omega
def arcStep (s : ARC) (a : Deed) : ARC := (arcDo s a).1
def arcRun (c : Int) (l : List Deed) : ARC := l.foldl arcStep ⟨1 + c.tmod 12, 0, [], [], [], []⟩
theorem arcRun_snoc (c : Int) (l : List Deed) (a : Deed) : arcRun c (l ++ [a]) = (arcDo (arcRun c l) a).1 := by simp [arcRun, arcStep]
theorem arcRun_ok {c : Int} (k1 : 1 ≤ 1 + c.tmod 12) (k2 : 1 + c.tmod 12 ≤ 12) : ∀ (l : List Deed), (∀ a ∈ l, a.Fits) → ArcOk (arcRun c l) := by
  have gen : ∀ (l : List Deed) (s : ARC), (∀ a ∈ l, a.Fits) → ArcOk s → ArcOk (l.foldl arcStep s) := by
    intro l
    induction l with
    | nil => intro s _ h; exact h
    | cons a l ih =>
      intro s hf h
      exact ih (arcStep s a) (fun b hb => hf b (by simp [hb])) (h.act (hf a (by simp))).1
  intro l hf
  exact gen l _ hf ⟨k1, by show 1 + c.tmod 12 ≤ 14; omega, by show (0 : Int) ≤ 0; omega, by show (0 : Int) ≤ 1 + c.tmod 12; omega, by show ((0 : Nat) : Int) + (0 : Nat) ≤ 1 + c.tmod 12; omega, by show ((0 : Nat) : Int) + (0 : Nat) ≤ 1 + c.tmod 12; omega, by show ((0 : Nat) : Int) + (0 : Nat) ≤ 1 + c.tmod 12; omega, fun x => by simp⟩
/-- Where a key goes. -/
theorem learns {s : ARC} (h : ArcOk s) (k : Int) :
    (k ∈ s.A ++ s.B → (∃ r, (arcTouch s k).B = k :: r) ∧ k ∉ (arcTouch s k).A ∧ ((arcTouch s k).A ++ (arcTouch s k).B).length = (s.A ++ s.B).length ∧ (arcTouch s k).P = s.P) ∧
    (k ∉ s.A ++ s.B → k ∈ s.D → (∃ r, (arcAdmit s k).1.B = k :: r) ∧ k ∉ (arcAdmit s k).1.D ∧ s.P ≤ (arcAdmit s k).1.P) ∧
    (k ∉ s.A ++ s.B → k ∉ s.D → k ∈ s.E → (∃ r, (arcAdmit s k).1.B = k :: r) ∧ k ∉ (arcAdmit s k).1.E ∧ (arcAdmit s k).1.P ≤ s.P) ∧
    (k ∉ s.A ++ s.B → k ∉ s.D → k ∉ s.E → (∃ r, (arcAdmit s k).1.A = k :: r) ∧ (arcAdmit s k).1.P = s.P) := by
  have h0 := h
  obtain ⟨c0, c1, p0, p1, ab, ad, de, sep⟩ := h
  have hsk := sep k
  refine ⟨?_, ?_, ?_, ?_⟩
  · intro hk
    obtain ⟨t1, t2, t3⟩ := h0.touch hk
    unfold arcTouch
    rw [if_pos hk]
    exact ⟨⟨_, rfl⟩, by simp [without], by simp only [List.length_append, List.length_cons]; omega, rfl⟩
  · intro hk hD
    have hkc := not_count hk
    rw [List.count_append] at hkc
    unfold arcAdmit
    rw [if_neg hk, if_pos hD]
    obtain ⟨u1, u2⟩ := arcUp_ok p0 p1
    have hs' : Sep4 ⟨s.C, arcUp s, s.A, s.B, without s.D k, s.E⟩ := fun x => by have := sep x; simp only [count_without]; split <;> omega
    obtain ⟨r1, r2, r3, r4, r5, r6, r7, r8, r9, r10, r11⟩ := replace_facts false (s := ⟨s.C, arcUp s, s.A, s.B, without s.D k, s.E⟩) c0 hs' ab
    generalize arcReplace ⟨s.C, arcUp s, s.A, s.B, without s.D k, s.E⟩ false = R at *
    refine ⟨⟨_, rfl⟩, ?_, by simp only at r2 ⊢; omega⟩
    have hg := r9 k
    have ho := r8 k
    have hDc := mem_count.1 hD
    simp only [count_without, if_true] at hg ho
    intro hm
    have := mem_count.1 hm
    simp only at this
    omega
  · intro hk hD hE
    have hkc := not_count hk
    rw [List.count_append] at hkc
    unfold arcAdmit
    rw [if_neg hk, if_neg hD, if_pos hE]
    obtain ⟨u1, u2⟩ := arcDown_ok p0
    have hs' : Sep4 ⟨s.C, arcDown s, s.A, s.B, s.D, without s.E k⟩ := fun x => by have := sep x; simp only [count_without]; split <;> omega
    obtain ⟨r1, r2, r3, r4, r5, r6, r7, r8, r9, r10, r11⟩ := replace_facts true (s := ⟨s.C, arcDown s, s.A, s.B, s.D, without s.E k⟩) c0 hs' ab
    generalize arcReplace ⟨s.C, arcDown s, s.A, s.B, s.D, without s.E k⟩ true = R at *
    refine ⟨⟨_, rfl⟩, ?_, by simp only at r2 ⊢; omega⟩
    have hg := r9 k
    have ho := r8 k
    have hEc := mem_count.1 hE
    simp only [count_without, if_true] at hg ho
    intro hm
    have := mem_count.1 hm
    simp only at this
    omega
  · intro hk hD hE
    unfold arcAdmit
    rw [if_neg hk, if_neg hD, if_neg hE]
    obtain ⟨r1, r2, _⟩ := fresh_facts h0
    exact ⟨⟨_, rfl⟩, r2⟩
end Go.Al
end
section
set_option linter.unusedVariables false
set_option linter.unusedSimpArgs false
set_option maxRecDepth 20000
set_option maxHeartbeats 1600000
-- axs, axw, aresL, afill, Value.oneCell', Nat.reduceLT, Nat.reduceLeDiff, Nat.reduceEqDiff, Nat.reduceAdd, Nat.reduceMul, Nat.reduceSub, Nat.reduceBEq, Int.reduceLE, Int.reduceLT, Int.reduceToNat, Int.reduceNeg, Int.reduceEq, axt, ftK, ft3, AAll, ftQ, S6, tys: S6
namespace Go.Al
open Go.Proofs
def SA (s : ARC) : AV := S6 s.C s.P s.A s.B s.D s.E
theorem seeea4f0 {p : Prop} (h : p := by repeat' (first | exact True.intro | exact Sees.sc | exact Sees.none | ((with_reducible refine Sees.same ?_) <;> simp [noIds, noIdsL, noIdsE, noIdsE_U, noIdsE_UU] <;> fail) | (refine Live.sees ?_ ?_ <;> first | assumption | (simp [noIdsE_U, noIdsE_UU] <;> fail)) | (refine Sees.obj ?_ ?_ ?_ <;> first | exact ⟨_, _, by assumption, rfl⟩ | (simp [U_len, UU_len] <;> fail) | (simp [noIdsE_U, noIdsE_UU] <;> fail) | (simp [U, UU, upd] <;> fail) | (simp [U, UU, upd, neS, *] <;> fail)) | (refine Sees.of_seen 3 ?_ <;> simp [seen, upd, noIdsE, noIdsL, noIds, U, UU, Nat.add_assoc] <;> fail) | refine Sees.agg ?_ | refine And.intro ?_ ?_ | simp only [SeesL])) : p := h
theorem seeea4f1 {p : Prop} (h : p := by repeat' (first | exact True.intro | exact Sees.sc | exact Sees.none | ((with_reducible refine Sees.same ?_) <;> simp [noIds, noIdsL, noIdsE, noIdsE_U, noIdsE_UU] <;> fail) | (refine Live.sees ?_ ?_ <;> first | assumption | (simp [noIdsE_U, noIdsE_UU] <;> fail)) | (refine Sees.obj ?_ ?_ ?_ <;> first | exact ⟨_, _, by assumption, rfl⟩ | (simp [U_len, UU_len] <;> fail) | (simp [noIdsE_U, noIdsE_UU] <;> fail) | (simp [U, UU, upd, neS] <;> fail) | (simp [U, UU, upd, neS, *] <;> fail)) | refine Sees.agg ?_ | refine Sees.tup ?_ | refine And.intro ?_ ?_ | simp only [SeesL])) : p := h
theorem rAEvict (s : ARC) (f : Bool) (h1 : s.A.length ≤ 400000) (h2 : s.B.length ≤ 400000) (h3 : s.D.length ≤ 400000) (h4 : s.E.length ≤ 400000) (hne : if f then s.A ≠ [] else s.B ≠ []) :
    PCalls Try.prog 94 [SA s, .sc (.bool f)] (.tup [SA (arcDem s f).1, .lst 1 (U [(arcDem s f).2])]) := by
  obtain ⟨C, P, A, B, D, E⟩ := s
  simp only at h1 h2 h3 h4 hne
  cases f with
  | true =>
    have hne : A ≠ [] := hne
    have hl := List.length_pos_iff.2 hne
    have w1 : IntKind.i64.wrap ((A.length : Int) - 1) = ((A.length - 1 : Nat) : Int) := by rw [wrap_in (by omega) (by omega)]; omega
    have w2 : (0 : Int) ≤ ((A.length - 1 : Nat) : Int) := by omega
    have w3 : ((A.length - 1 : Nat) : Int) ≤ A.length := by omega
    unfold arcDem
    refine PCalls.intro2 Try.func94 rfl rfl Try.ntmps94 Try.results94 (by simp) fun n => ?_; simp (maxSteps := 400000) (dsimp := false) only [SA, axs, axw, aresL, afill, Value.oneCell', Nat.reduceLT, Nat.reduceLeDiff, Nat.reduceEqDiff, Nat.reduceAdd, Nat.reduceMul, Nat.reduceSub, Nat.reduceBEq, Int.reduceLE, Int.reduceLT, Int.reduceToNat, Int.reduceNeg, Int.reduceEq, axt, ftK, ft3, AAll, ftQ, S6, tys]
    refine ACallK.strict rfl (rBack A (lastD A) (by omega) (lastD_get hne)) (by simp only [SeesL, U_len, w1, w2, w3, U_take, axs, axt, AS.ev, AS.put, upd, inHeap, Nat.reduceLT, Nat.reduceEqDiff, Nat.reduceAdd, Nat.reduceBEq, S6]; exact seeea4f0) ?_; simp (maxSteps := 400000) (dsimp := false) only [U_len, w1, w2, w3, U_take, axs, axw, aresL, afill, Value.oneCell', Nat.reduceLT, Nat.reduceLeDiff, Nat.reduceEqDiff, Nat.reduceAdd, Nat.reduceMul, Nat.reduceSub, Nat.reduceBEq, Int.reduceLE, Int.reduceLT, Int.reduceToNat, Int.reduceNeg, Int.reduceEq, axt, ftK, ft3, AAll, ftQ, S6, tys]
    refine ACallK.strict rfl (rFront D (lastD A) (by omega)) (by simp only [SeesL, axs, axt, AS.ev, AS.put, upd, inHeap, Nat.reduceLT, Nat.reduceEqDiff, Nat.reduceAdd, Nat.reduceBEq, S6]; exact seeea4f0) ?_; simp (maxSteps := 400000) (dsimp := false) only [axs, axw, aresL, afill, Value.oneCell', Nat.reduceLT, Nat.reduceLeDiff, Nat.reduceEqDiff, Nat.reduceAdd, Nat.reduceMul, Nat.reduceSub, Nat.reduceBEq, Int.reduceLE, Int.reduceLT, Int.reduceToNat, Int.reduceNeg, Int.reduceEq, axt, ftK, ft3, AAll, ftQ, S6, tys]
    refine ⟨_, rfl, ?_⟩; simp (maxSteps := 400000) (dsimp := false) only [SeesL, U_take, axs, axw, aresL, afill, Value.oneCell', Nat.reduceLT, Nat.reduceLeDiff, Nat.reduceEqDiff, Nat.reduceAdd, Nat.reduceMul, Nat.reduceSub, Nat.reduceBEq, Int.reduceLE, Int.reduceLT, Int.reduceToNat, Int.reduceNeg, Int.reduceEq, axt, ftK, ft3, AAll, ftQ, S6, tys] <;> exact seeea4f1
  | false =>
    have hne : B ≠ [] := hne
    have hl := List.length_pos_iff.2 hne
    have w1 : IntKind.i64.wrap ((B.length : Int) - 1) = ((B.length - 1 : Nat) : Int) := by rw [wrap_in (by omega) (by omega)]; omega
    have w2 : (0 : Int) ≤ ((B.length - 1 : Nat) : Int) := by omega
    have w3 : ((B.length - 1 : Nat) : Int) ≤ B.length := by omega
    unfold arcDem
    refine PCalls.intro2 Try.func94 rfl rfl Try.ntmps94 Try.results94 (by simp) fun n => ?_; simp (maxSteps := 400000) (dsimp := false) only [SA, axs, axw, aresL, afill, Value.oneCell', Nat.reduceLT, Nat.reduceLeDiff, Nat.reduceEqDiff, Nat.reduceAdd, Nat.reduceMul, Nat.reduceSub, Nat.reduceBEq, Int.reduceLE, Int.reduceLT, Int.reduceToNat, Int.reduceNeg, Int.reduceEq, axt, ftK, ft3, AAll, ftQ, S6, tys]
    refine ACallK.strict rfl (rBack B (lastD B) (by omega) (lastD_get hne)) (by simp only [SeesL, U_len, w1, w2, w3, U_take, axs, axt, AS.ev, AS.put, upd, inHeap, Nat.reduceLT, Nat.reduceEqDiff, Nat.reduceAdd, Nat.reduceBEq, S6]; exact seeea4f0) ?_; simp (maxSteps := 400000) (dsimp := false) only [U_len, w1, w2, w3, U_take, axs, axw, aresL, afill, Value.oneCell', Nat.reduceLT, Nat.reduceLeDiff, Nat.reduceEqDiff, Nat.reduceAdd, Nat.reduceMul, Nat.reduceSub, Nat.reduceBEq, Int.reduceLE, Int.reduceLT, Int.reduceToNat, Int.reduceNeg, Int.reduceEq, axt, ftK, ft3, AAll, ftQ, S6, tys]
    refine ACallK.strict rfl (rFront E (lastD B) (by omega)) (by simp only [SeesL, axs, axt, AS.ev, AS.put, upd, inHeap, Nat.reduceLT, Nat.reduceEqDiff, Nat.reduceAdd, Nat.reduceBEq, S6]; exact seeea4f0) ?_; simp (maxSteps := 400000) (dsimp := false) only [axs, axw, aresL, afill, Value.oneCell', Nat.reduceLT, Nat.reduceLeDiff, Nat.reduceEqDiff, Nat.reduceAdd, Nat.reduceMul, Nat.reduceSub, Nat.reduceBEq, Int.reduceLE, Int.reduceLT, Int.reduceToNat, Int.reduceNeg, Int.reduceEq, axt, ftK, ft3, AAll, ftQ, S6, tys]
    refine ⟨_, rfl, ?_⟩; simp (maxSteps := 400000) (dsimp := false) only [SeesL, U_take, axs, axw, aresL, afill, Value.oneCell', Nat.reduceLT, Nat.reduceLeDiff, Nat.reduceEqDiff, Nat.reduceAdd, Nat.reduceMul, Nat.reduceSub, Nat.reduceBEq, Int.reduceLE, Int.reduceLT, Int.reduceToNat, Int.reduceNeg, Int.reduceEq, axt, ftK, ft3, AAll, ftQ, S6, tys] <;> exact seeea4f1
end Go.Al
end
section
set_option linter.unusedVariables false
set_option linter.unusedSimpArgs false
set_option maxRecDepth 20000
set_option maxHeartbeats 1600000
-- axs, axw, aresL, afill, Value.oneCell', Nat.reduceLT, Nat.reduceLeDiff, Nat.reduceEqDiff, Nat.reduceAdd, Nat.reduceMul, Nat.reduceSub, Nat.reduceBEq, Int.reduceLE, Int.reduceLT, Int.reduceToNat, Int.reduceNeg, Int.reduceEq, axt, ftK, ft3, AAll, ftQ, S6, tys: S6
namespace Go.Al
open Go.Proofs
end Go.Al
end
section
set_option linter.unusedVariables false
set_option linter.unusedSimpArgs false
set_option maxRecDepth 20000
set_option maxHeartbeats 1600000
-- axs, axw, aresL, afill, Value.oneCell', Nat.reduceLT, Nat.reduceLeDiff, Nat.reduceEqDiff, Nat.reduceAdd, Nat.reduceMul, Nat.reduceSub, Nat.reduceBEq, Int.reduceLE, Int.reduceLT, Int.reduceToNat, Int.reduceNeg, Int.reduceEq, axt, ftK, ft3, AAll, ftQ, S6, tys: S6
namespace Go.Al
open Go.Proofs
theorem arcDem_len (s : ARC) (b : Bool) : (arcDem s b).1.A.length ≤ s.A.length ∧ (arcDem s b).1.B.length ≤ s.B.length ∧ (arcDem s b).1.D.length ≤ s.D.length + 1 ∧ (arcDem s b).1.E.length ≤ s.E.length + 1 := by
  have h1 := without_len s.D (lastD s.A)
  have h2 := without_len s.E (lastD s.B)
  unfold arcDem
  split <;> simp only [take_len, List.length_cons] <;> omega
theorem arcReplace_len (s : ARC) (b : Bool) : (arcReplace s b).1.A.length ≤ s.A.length ∧ (arcReplace s b).1.B.length ≤ s.B.length ∧ (arcReplace s b).1.D.length ≤ s.D.length + 1 ∧ (arcReplace s b).1.E.length ≤ s.E.length + 1 := by
  have := arcDem_len s (arcFrom s b)
  unfold arcReplace
  split
  · simp only; omega
  · exact this
theorem arcFresh_len (s : ARC) : (arcFresh s).1.A.length ≤ s.A.length ∧ (arcFresh s).1.B.length ≤ s.B.length ∧ (arcFresh s).1.D.length ≤ s.D.length + 1 ∧ (arcFresh s).1.E.length ≤ s.E.length + 1 := by
  have r1 := arcReplace_len s false
  have r2 := arcReplace_len ⟨s.C, s.P, s.A, s.B, s.D, s.E.take (s.E.length - 1)⟩ false
  have r3 := arcReplace_len ⟨s.C, s.P, s.A, s.B, s.D.take (s.D.length - 1), s.E⟩ false
  simp only [take_len] at r2 r3
  unfold arcFresh
  split
  · split
    · simp only; omega
    · split <;> omega
  · split
    · omega
    · simp only [take_len]; omega
theorem tdiv_le {a b : Nat} (hb : 0 < b) : 0 ≤ (a : Int).tdiv b ∧ (a : Int).tdiv b ≤ a := by
  rw [Int.tdiv_eq_ediv_of_nonneg (by omega)]
  exact ⟨Int.ediv_nonneg (by omega) (by omega), Int.ediv_le_self _ (by omega)⟩
end Go.Al
end
section
set_option linter.unusedVariables false
set_option linter.unusedSimpArgs false
set_option maxRecDepth 20000
set_option maxHeartbeats 3200000
-- axs, axw, aresL, afill, Value.oneCell', Nat.reduceLT, Nat.reduceLeDiff, Nat.reduceEqDiff, Nat.reduceAdd, Nat.reduceMul, Nat.reduceSub, Nat.reduceBEq, Int.reduceLE, Int.reduceLT, Int.reduceToNat, Int.reduceNeg, Int.reduceEq, axt, ftK, ft3, AAll, ftQ, S6, tys: S6
namespace Go.Al
open Go.Proofs
theorem Live.upd {te z i : Nat} {H : AH} {es : List (List AV)} {v : AV} {o : Option AO} (h : Live te z H es v) (hi : ∀ es', H i ≠ some (.obj te z es' false)) : Live te z (Al.upd H i o) es v := by
  rcases h with ⟨h1, h2⟩ | ⟨id, h1, h2⟩
  · exact .inl ⟨h1, h2⟩
  · refine .inr ⟨id, h1, ?_⟩
    rw [upd_ne]
    · exact h2
    · rintro rfl
      exact hi _ h2
theorem Live.new {te z : Nat} {s : AS} {es : List (List AV)} {v : AV} {o : Option AO} {k : Nat} (h : Live te z s.H es v) (hb : Al.Below s) (hk : s.n ≤ k) : Live te z (Al.upd s.H k o) es v :=
  h.upd fun es' h => by have := hb _ _ h; omega
theorem cutTo_step {l : List Int} {z : Int} (h0 : 0 ≤ z) (h : (l.length : Int) > z) : cutTo (l.take (l.length - 1)) z = cutTo l z := by
  unfold cutTo
  rw [List.take_take]
  congr 1
  omega
theorem cutTo_id {l : List Int} {z : Int} (h : (l.length : Int) ≤ z) : cutTo l z = l := by
  unfold cutTo
  exact List.take_of_length_le (by omega)
theorem shr_ne {s : ARC} (c0 : 1 ≤ s.C) (p0 : 0 ≤ s.P) (h : (s.A.length : Int) + s.B.length > s.C) : if decide ((s.A.length : Int) > s.P ∨ s.B = []) then s.A ≠ [] else s.B ≠ [] := by
  split <;> rename_i hb
  · simp only [decide_eq_true_eq] at hb
    by_cases h0 : s.A = []
    · rcases hb with hb | hb
      · rw [h0] at hb; simp at hb; omega
      · rw [h0, hb] at h; simp at h; omega
    · exact h0
  · simp only [decide_eq_true_eq] at hb
    exact fun h => hb (.inr h)
theorem arcDem_len2 {s : ARC} (f : Bool) (hne : if f then s.A ≠ [] else s.B ≠ []) : (arcDem s f).1.A.length + (arcDem s f).1.B.length + 1 = s.A.length + s.B.length ∧ (arcDem s f).1.C = s.C ∧ (arcDem s f).1.P = s.P := by
  cases f with
  | true =>
    have := ne_len.1 (show s.A ≠ [] from hne)
    unfold arcDem
    simp only [if_true, take_len]
    exact ⟨by omega, trivial, trivial⟩
  | false =>
    have := ne_len.1 (show s.B ≠ [] from hne)
    unfold arcDem
    simp only [Bool.false_eq_true, if_false, take_len]
    exact ⟨by omega, trivial, trivial⟩
end Go.Al
end
