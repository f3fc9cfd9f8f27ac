/- What the library's searches over rows of numbers come to. Conditions: none. What the library's copies and deletions come to. Conditions: none. What the library's deletion by a test comes to. Conditions: none. What seq.Without comes to. Conditions: the row has a million elements at most. seq.Without with its row told exactly; slices.Insert at the front of nothing. Conditions: the row has a million elements at most. slices.Insert at the front of a row. Conditions: the row has a million elements at most. seq.Front, seq.Without, seq.Has as pure calls. Conditions: the row has a million elements at most. What the reference's lists come to. Conditions: the rows are short of a billion elements. What the reference's lists come to, and the program's. Conditions: the rows are short of a billion elements. What the program's lists come to: the back, what falls. Conditions: the rows are short. Whether no key is twice: the reference's, and the program's. Conditions: the rows are short. -/
import Derived.Test.YtkoimgeckkodhaaTy
section
set_option linter.unusedVariables false
set_option linter.unusedSimpArgs false
namespace Go.Al
open Go.Proofs
def idxF (l : List Int) (v : Int) : Int := match l.findIdx? (· == v) with | some i => i | none => -1
theorem idxF_hit {l : List Int} {p : Nat} {v : Int} (h : l[p]? = some v) (hq : ∀ q, q < p → l[q]? ≠ some v) : idxF l v = p := by
  have hp := (List.getElem?_eq_some_iff.1 h).1
  have : l.findIdx? (· == v) = some p := by
    rw [List.findIdx?_eq_some_iff_getElem]
    refine ⟨hp, by simpa using (List.getElem?_eq_some_iff.1 h).2, fun j hj => ?_⟩
    have := hq j hj
    rw [List.getElem?_eq_getElem (by omega)] at this
    simpa using this
  simp [idxF, this]
theorem idxF_miss {l : List Int} {v : Int} (hq : ∀ q, q < l.length → l[q]? ≠ some v) : idxF l v = -1 := by
  have : l.findIdx? (· == v) = none := by
    rw [List.findIdx?_eq_none_iff]
    intro x hx
    obtain ⟨q, h1, h2⟩ := List.mem_iff_getElem.1 hx
    have := hq q h1
    rw [List.getElem?_eq_getElem h1, h2] at this
    simpa using this
  simp [idxF, this]
theorem idxF_nonneg {l : List Int} {v : Int} : decide (idxF l v ≥ 0) = decide (v ∈ l) := by
  by_cases h : v ∈ l
  · have : ∃ i, l.findIdx? (· == v) = some i := by
      cases e : l.findIdx? (· == v) with
      | some i => exact ⟨i, rfl⟩
      | none =>
        rw [List.findIdx?_eq_none_iff] at e
        have := e v h
        simp at this
    obtain ⟨i, e⟩ := this
    simp only [idxF, e, h, decide_true, ge_iff_le, decide_eq_true_eq]
    omega
  · have e : l.findIdx? (· == v) = none := by
      rw [List.findIdx?_eq_none_iff]
      intro x hx
      have : x ≠ v := by rintro rfl; exact h hx
      simpa using this
    simp [idxF, e, h]
end Go.Al
end
section
set_option linter.unusedVariables false
set_option linter.unusedSimpArgs false
namespace Go.Al
open Go.Proofs
def CloneR (l : List Int) (H : AH) (n : Nat) (r : AV) (H' : AH) (n' : Nat) : Prop :=
  (l = [] ∧ r = .sc (.slice none 0 0) ∧ H' = H ∧ n' = n) ∨
  (r = .sl (n + 1) 1 0 l.length ∧ H' = upd (upd (upd H n (some (.obj 54 1 [] false))) n none) (n + 1) (some (.obj 54 1 (U l) false)) ∧ n' = n + 1 + 1)
theorem elems_lst (H : AH) (l : List Int) : elems H 1 (.lst 1 (U l)) = some (U l) := rfl
end Go.Al
end
section
set_option linter.unusedVariables false
set_option linter.unusedSimpArgs false
namespace Go.Al
open Go.Proofs
def without (l : List Int) (v : Int) : List Int := l.filter fun x => decide (x ≠ v)
theorem U_set (c : List Int) (i : Nat) (x : Int) : (U c).set i [.sc (.int .u64 x)] = U (c.set i x) := by simp [U, List.map_set]
theorem without_miss {l : List Int} {v : Int} (h : idxF l v = -1) : without l v = l := by
  unfold without
  rw [List.filter_eq_self]
  intro x hx
  have := idxF_nonneg (l := l) (v := v)
  rw [h] at this
  have : v ∉ l := by simpa using this
  simp only [decide_eq_true_eq]
  rintro rfl; exact this hx
theorem idxF_hit' {l : List Int} {v : Int} (h : idxF l v ≠ -1) : ∃ p : Nat, idxF l v = p ∧ l[p]? = some v ∧ (∀ q, q < p → l[q]? ≠ some v) ∧ without (l.take (p + 1)) v = l.take p := by
  unfold idxF at h ⊢
  cases e : l.findIdx? (· == v) with
  | none => rw [e] at h; exact absurd rfl h
  | some p =>
    rw [List.findIdx?_eq_some_iff_getElem] at e
    obtain ⟨hp, h1, h2⟩ := e
    have hv : l[p] = v := by simpa using h1
    refine ⟨p, rfl, by rw [List.getElem?_eq_getElem hp, hv], ?_, ?_⟩
    · intro q hq
      rw [List.getElem?_eq_getElem (by omega)]
      have := h2 q hq
      simpa using this
    · rw [List.take_add_one, List.getElem?_eq_getElem hp, hv]
      unfold without
      rw [List.filter_append]
      have : (l.take p).filter (fun x => decide (x ≠ v)) = l.take p := by
        rw [List.filter_eq_self]
        intro x hx
        obtain ⟨q, hq, rfl⟩ := List.mem_iff_getElem.1 hx
        have hq' : q < p := by simp at hq; omega
        have := h2 q hq'
        simpa using this
      rw [this]
      simp
end Go.Al
end
section
set_option linter.unusedVariables false
set_option linter.unusedSimpArgs false
namespace Go.Al
open Go.Proofs
def WithoutR (l : List Int) (v : Int) (n : Nat) (r : AV) (H' : AH) (n' : Nat) : Prop :=
  (without l v = [] ∧ r = .sc (.slice none 0 0)) ∨ ∃ id es, n ≤ id ∧ id < n' ∧ r = .sl id 1 0 (without l v).length ∧ H' id = some (.obj 54 1 (U (without l v) ++ es) false)
theorem seen_sl {H : AH} {id te : Nat} {l : List Int} {es : List (List AV)} (h : H id = some (.obj te 1 (U l ++ es) false)) : seen H true 1 (.sl id 1 0 l.length) = some (.lst 1 (U l)) := by
  have e : ((U l ++ es).drop 0).take l.length = U l := by
    rw [List.drop_zero, ← U_len l, List.take_left]
  simp only [seen, h, e, noIdsE_U]
  simp [U_len]
end Go.Al
end
section
set_option linter.unusedVariables false
set_option linter.unusedSimpArgs false
namespace Go.Al
open Go.Proofs
def WithoutX (l : List Int) (v : Int) (n : Nat) (r : AV) (H' : AH) (n' : Nat) : Prop :=
  (without l v = [] ∧ r = .sc (.slice none 0 0)) ∨ ∃ id, n ≤ id ∧ id < n' ∧ r = .sl id 1 0 (without l v).length ∧ H' id = some (.obj 54 1 (U (without l v)) false)
end Go.Al
end
section
set_option linter.unusedVariables false
set_option linter.unusedSimpArgs false
namespace Go.Al
open Go.Proofs
end Go.Al
end
section
set_option linter.unusedVariables false
set_option linter.unusedSimpArgs false
namespace Go.Al
open Go.Proofs
theorem without_len (l : List Int) (v : Int) : (without l v).length ≤ l.length := List.length_filter_le _ _
theorem seen_row {H : AH} {id te : Nat} {l : List Int} (h : H id = some (.obj te 1 (U l) false)) : seen H true 1 (.sl id 1 0 l.length) = some (.lst 1 (U l)) :=
  seen_sl (es := []) (by rw [List.append_nil]; exact h)
end Go.Al
end
section
set_option linter.unusedVariables false
set_option linter.unusedSimpArgs false
namespace Go.Al
open Go.Proofs
theorem rHas (l : List Int) (v : Int) (hl : l.length ≤ 1000000000) : PCalls Try.prog 31 [.lst 1 (U l), .sc (.int .u64 v)] (.sc (.bool (decide (v ∈ l)))) := by
  refine PCalls.intro2 Try.func31 rfl rfl Try.ntmps31 Try.results31 (by simp) fun n => ?_; simp (maxSteps := 400000) (dsimp := false) only [axs, axw, aresL, afill, Value.oneCell', Nat.reduceLT, Nat.reduceLeDiff, Nat.reduceEqDiff, Nat.reduceAdd, Nat.reduceMul, Nat.reduceSub, Nat.reduceBEq, Int.reduceLE, Int.reduceLT, Int.reduceToNat, Int.reduceNeg, Int.reduceEq, axt, ftK, ft3, AAll, ftQ, tys]
  refine ALoop.upto l.length (fun p s => s.t 0 = .lst 1 (U l) ∧ s.t 1 = .sc (.int .u64 v) ∧ s.t 5 = .sc (.int .i64 p) ∧ v ∉ l.take p) ⟨rfl, rfl, rfl, by simp⟩ ?_
  rintro p s hp hb ⟨h0, h1, h5, hv⟩
  rcases Nat.lt_or_ge p l.length with hlt | hge
  · obtain ⟨x, hx, hp0, hpl, hw, hT, hD⟩ := idx hlt (by omega)
    have hg := U_get hx
    by_cases e : x = v
    · subst e
      have hm : x ∈ l := List.mem_of_getElem? hx
      simp (maxSteps := 400000) (dsimp := false) only [h0, h1, h5, hg, hp0, hpl, hw, U_len, hm, axs, axw, aresL, afill, Value.oneCell', Nat.reduceLT, Nat.reduceLeDiff, Nat.reduceEqDiff, Nat.reduceAdd, Nat.reduceMul, Nat.reduceSub, Nat.reduceBEq, Int.reduceLE, Int.reduceLT, Int.reduceToNat, Int.reduceNeg, Int.reduceEq, axt, ftK, ft3, AAll, ftQ, tys]
      exact ⟨_, rfl, Sees.sc⟩
    · simp (maxSteps := 400000) (dsimp := false) only [h0, h1, h5, hg, hp0, hpl, hw, U_len, e, axs, axw, aresL, afill, Value.oneCell', Nat.reduceLT, Nat.reduceLeDiff, Nat.reduceEqDiff, Nat.reduceAdd, Nat.reduceMul, Nat.reduceSub, Nat.reduceBEq, Int.reduceLE, Int.reduceLT, Int.reduceToNat, Int.reduceNeg, Int.reduceEq, axt, ftK, ft3, AAll, ftQ, tys]
      exact ⟨hlt, by rw [hT]; simp [hv]; exact fun h => e h.symm⟩
  · have hpl : ¬ (p : Int) < l.length := by omega
    rw [List.take_of_length_le hge] at hv
    simp (maxSteps := 400000) (dsimp := false) only [h0, h1, h5, hpl, U_len, hv, axs, axw, aresL, afill, Value.oneCell', Nat.reduceLT, Nat.reduceLeDiff, Nat.reduceEqDiff, Nat.reduceAdd, Nat.reduceMul, Nat.reduceSub, Nat.reduceBEq, Int.reduceLE, Int.reduceLT, Int.reduceToNat, Int.reduceNeg, Int.reduceEq, axt, ftK, ft3, AAll, ftQ, tys]
    exact ⟨_, rfl, Sees.sc⟩
theorem rWithout (l : List Int) (v : Int) (hl : l.length ≤ 1000000000) : PCalls Try.prog 76 [.lst 1 (U l), .sc (.int .u64 v)] (.lst 1 (U (without l v))) := by
  refine PCalls.intro2 Try.func76 rfl rfl Try.ntmps76 Try.results76 (by simp) fun n => ?_; simp (maxSteps := 400000) (dsimp := false) only [axs, axw, aresL, afill, Value.oneCell', Nat.reduceLT, Nat.reduceLeDiff, Nat.reduceEqDiff, Nat.reduceAdd, Nat.reduceMul, Nat.reduceSub, Nat.reduceBEq, Int.reduceLE, Int.reduceLT, Int.reduceToNat, Int.reduceNeg, Int.reduceEq, axt, ftK, ft3, AAll, ftQ, tys]
  refine ALoop.upto l.length (fun p s => s.t 0 = .lst 1 (U l) ∧ s.t 1 = .sc (.int .u64 v) ∧ s.t 6 = .sc (.int .i64 p) ∧ Live 54 1 s.H (U (without (l.take p) v)) (s.t 5)) ⟨rfl, rfl, rfl, Live.nil⟩ ?_
  rintro p s hp hb ⟨h0, h1, h6, hv⟩
  have hwl : (without (l.take p) v).length ≤ 1000000000 := Nat.le_trans (without_len _ _) (by rw [List.length_take]; omega)
  rcases Nat.lt_or_ge p l.length with hlt | hge
  · obtain ⟨x, hx, hp0, hpl, hw, hT, hD⟩ := idx hlt (by omega)
    have hg := U_get hx
    by_cases e : x = v
    · simp (maxSteps := 400000) (dsimp := false) only [h0, h1, h6, hg, hp0, hpl, hw, U_len, e, axs, axw, aresL, afill, Value.oneCell', Nat.reduceLT, Nat.reduceLeDiff, Nat.reduceEqDiff, Nat.reduceAdd, Nat.reduceMul, Nat.reduceSub, Nat.reduceBEq, Int.reduceLE, Int.reduceLT, Int.reduceToNat, Int.reduceNeg, Int.reduceEq, axt, ftK, ft3, AAll, ftQ, tys]
      exact ⟨hlt, by rw [hT, e]; simpa [without] using hv⟩
    · have hs : without (l.take (p + 1)) v = without (l.take p) v ++ [x] := by rw [hT]; simp [without, e]
      rw [hs, U_snoc]
      generalize without (l.take p) v = q at *
      rcases hv.cases hb with ⟨h7, h8⟩ | ⟨id, hlt2, hne, h7, h8⟩
      · have : q = [] := by simpa [U] using h7
        subst this
        simp (maxSteps := 400000) (dsimp := false) only [h0, h1, h6, hg, hp0, hpl, hw, U_len, e, h8, axs, axw, aresL, afill, Value.oneCell', Nat.reduceLT, Nat.reduceLeDiff, Nat.reduceEqDiff, Nat.reduceAdd, Nat.reduceMul, Nat.reduceSub, Nat.reduceBEq, Int.reduceLE, Int.reduceLT, Int.reduceToNat, Int.reduceNeg, Int.reduceEq, axt, ftK, ft3, AAll, ftQ, tys]
        exact ⟨hlt, Live.mk (if_pos rfl) rfl⟩
      · have b1 : (q.length + 1) * 8 ≤ 140737488355328 := by omega
        have b2 : q.length + 1 ≤ 1099511627776 := by omega
        rw [U_len] at h7
        simp (maxSteps := 400000) (dsimp := false) only [h0, h1, h6, hg, hp0, hpl, hw, U_len, e, h7, h8, hne, b1, b2, axs, axw, aresL, afill, Value.oneCell', Nat.reduceLT, Nat.reduceLeDiff, Nat.reduceEqDiff, Nat.reduceAdd, Nat.reduceMul, Nat.reduceSub, Nat.reduceBEq, Int.reduceLE, Int.reduceLT, Int.reduceToNat, Int.reduceNeg, Int.reduceEq, axt, ftK, ft3, AAll, ftQ, tys]
        exact ⟨hlt, Live.mk (if_pos rfl) (by simp [U_len])⟩
  · have hpl : ¬ (p : Int) < l.length := by omega
    rw [List.take_of_length_le hge] at hv
    simp (maxSteps := 400000) (dsimp := false) only [h0, h1, h6, hpl, U_len, axs, axw, aresL, afill, Value.oneCell', Nat.reduceLT, Nat.reduceLeDiff, Nat.reduceEqDiff, Nat.reduceAdd, Nat.reduceMul, Nat.reduceSub, Nat.reduceBEq, Int.reduceLE, Int.reduceLT, Int.reduceToNat, Int.reduceNeg, Int.reduceEq, axt, ftK, ft3, AAll, ftQ, tys]
    exact ⟨_, rfl, hv.sees (noIdsE_U _)⟩
end Go.Al
end
section
set_option linter.unusedVariables false
set_option linter.unusedSimpArgs false
namespace Go.Al
open Go.Proofs
theorem see20700 {p : Prop} (h : p := by repeat' (first | exact True.intro | exact Sees.sc | exact Sees.none | ((with_reducible refine Sees.same ?_) <;> simp [noIds, noIdsL, noIdsE, noIdsE_U, noIdsE_UU] <;> fail) | (refine Live.sees ?_ ?_ <;> first | assumption | (simp [noIdsE_U, noIdsE_UU] <;> fail)) | (refine Sees.obj ?_ ?_ ?_ <;> first | exact ⟨_, _, by assumption, rfl⟩ | (simp [U_len, UU_len] <;> fail) | (simp [noIdsE_U, noIdsE_UU] <;> fail) | (simp [U, UU, upd] <;> fail) | (simp [U, UU, upd, neS, *] <;> fail)) | (refine Sees.of_seen 3 ?_ <;> simp [seen, upd, noIdsE, noIdsL, noIds, U, UU, Nat.add_assoc] <;> fail) | refine Sees.agg ?_ | refine And.intro ?_ ?_ | simp only [SeesL])) : p := h
theorem rFront (l : List Int) (v : Int) (hl : l.length ≤ 1000000000) : PCalls Try.prog 74 [.lst 1 (U l), .sc (.int .u64 v)] (.lst 1 (U (v :: without l v))) := by
  refine PCalls.intro2 Try.func74 rfl rfl Try.ntmps74 Try.results74 (by simp) fun n => ?_; simp (maxSteps := 400000) (dsimp := false) only [axs, axw, aresL, afill, Value.oneCell', Nat.reduceLT, Nat.reduceLeDiff, Nat.reduceEqDiff, Nat.reduceAdd, Nat.reduceMul, Nat.reduceSub, Nat.reduceBEq, Int.reduceLE, Int.reduceLT, Int.reduceToNat, Int.reduceNeg, Int.reduceEq, axt, ftK, ft3, AAll, ftQ, tys]
  have b0 := without_len l v
  have b1 : (1 + (without l v).length) * 8 ≤ 140737488355328 := by omega
  have b2 : 1 + (without l v).length ≤ 1099511627776 := by omega
  refine ACallK.strict rfl (rWithout l v hl) (by simp only [SeesL, U_len, b1, b2, axs, axt, AS.ev, AS.put, upd, inHeap, Nat.reduceLT, Nat.reduceEqDiff, Nat.reduceAdd, Nat.reduceBEq]; exact see20700) ?_; simp (maxSteps := 400000) (dsimp := false) only [U_len, b1, b2, axs, axw, aresL, afill, Value.oneCell', Nat.reduceLT, Nat.reduceLeDiff, Nat.reduceEqDiff, Nat.reduceAdd, Nat.reduceMul, Nat.reduceSub, Nat.reduceBEq, Int.reduceLE, Int.reduceLT, Int.reduceToNat, Int.reduceNeg, Int.reduceEq, axt, ftK, ft3, AAll, ftQ, tys]
  exact ⟨_, rfl, Sees.whole (if_pos rfl) rfl (by simp [U_len]; omega) (noIdsE_U (v :: without l v))⟩
theorem lastIdx {α : Type} {l : List α} (h : l ≠ []) (hl : l.length ≤ 1099511627776) : ∃ x, l[l.length - 1]? = some x ∧ l = l.take (l.length - 1) ++ [x] ∧ IntKind.i64.wrap ((l.length : Int) - 1) = ((l.length - 1 : Nat) : Int) ∧ (0 : Int) ≤ ((l.length - 1 : Nat) : Int) ∧ ((l.length - 1 : Nat) : Int) < l.length ∧ ((l.length - 1 : Nat) : Int) ≤ l.length := by
  have h0 : 0 < l.length := List.length_pos_iff.2 h
  obtain ⟨x, hx, _, _, _, hT, _⟩ := idx (l := l) (p := l.length - 1) (by omega) hl
  refine ⟨x, hx, ?_, ?_, by omega, by omega, by omega⟩
  · rw [Nat.sub_add_cancel h0, List.take_length] at hT; exact hT
  · rw [wrap_in (by omega) (by omega)]; omega
theorem rBack (l : List Int) (x : Int) (hl : l.length ≤ 1000000000) (hx : l[l.length - 1]? = some x) : PCalls Try.prog 103 [.lst 1 (U l)] (.sc (.int .u64 x)) := by
  have h0 : l ≠ [] := by rintro rfl; simp at hx
  obtain ⟨y, hy, hs, hw, g0, g1, g2⟩ := lastIdx h0 (by omega)
  have hg := U_get hx
  refine PCalls.intro2 Try.func103 rfl rfl Try.ntmps103 Try.results103 (by simp) fun n => ?_; simp (maxSteps := 400000) (dsimp := false) only [U_len, hw, g0, hg, axs, axw, aresL, afill, Value.oneCell', Nat.reduceLT, Nat.reduceLeDiff, Nat.reduceEqDiff, Nat.reduceAdd, Nat.reduceMul, Nat.reduceSub, Nat.reduceBEq, Int.reduceLE, Int.reduceLT, Int.reduceToNat, Int.reduceNeg, Int.reduceEq, axt, ftK, ft3, AAll, ftQ, tys]
  exact ⟨_, rfl, Sees.sc⟩
/-- The first so many keys are left; the others fall, the last one first. -/
def cutTo (l : List Int) (n : Int) : List Int := l.take (max n 0).toNat
def fallen (l : List Int) (n : Int) : List Int := (l.drop (max n 0).toNat).reverse
end Go.Al
end
section
set_option linter.unusedVariables false
set_option linter.unusedSimpArgs false
namespace Go.Al
open Go.Proofs
end Go.Al
end
section
set_option linter.unusedVariables false
set_option linter.unusedSimpArgs false
namespace Go.Al
open Go.Proofs
def apart : List Int → Bool
  | [] => true
  | x :: l => !decide (x ∈ l) && apart l
theorem apart_iff : ∀ {l : List Int}, apart l = true ↔ l.Nodup
  | [] => by simp [apart]
  | x :: l => by simp [apart, apart_iff (l := l)]
theorem apart_snoc (l : List Int) (x : Int) (h : apart l = true) (hx : x ∉ l) : apart (l ++ [x]) = true := by
  rw [apart_iff] at h ⊢
  rw [List.nodup_append]
  refine ⟨h, by simp, ?_⟩
  intro a ha b hb
  simp only [List.mem_singleton] at hb
  subst hb
  rintro rfl
  exact hx ha
theorem apart_twice (l r : List Int) (x : Int) (hx : x ∈ l) : apart (l ++ x :: r) = false := by
  rw [Bool.eq_false_iff]
  intro h
  rw [apart_iff, List.nodup_append] at h
  exact h.2.2 x hx x (by simp) rfl
theorem without_count {l : List Int} {k : Int} (h : apart l = true) : (without l k).length = if k ∈ l then l.length - 1 else l.length := by
  rw [apart_iff] at h
  induction l with
  | nil => simp [without]
  | cons x l ih =>
    rw [List.nodup_cons] at h
    have ih := ih h.2
    by_cases e : x = k
    · subst e
      have : (without (x :: l) x).length = (without l x).length := by simp [without]
      rw [this, ih, if_neg h.1]
      simp
    · have : (without (x :: l) k).length = (without l k).length + 1 := by simp [without, e]
      rw [this, ih]
      by_cases h2 : k ∈ l
      · have : 0 < l.length := List.length_pos_iff.2 (List.ne_nil_of_mem h2)
        simp [h2]; omega
      · have : ¬ k = x := fun h => e h.symm
        simp [h2, this]
theorem flat_step {ls : List (List Int)} {i : Nat} {x : List Int} (h : ls[i]? = some x) : ls.flatten = (ls.take i).flatten ++ (x ++ (ls.drop (i + 1)).flatten) := by
  obtain ⟨h1, h2⟩ := List.getElem?_eq_some_iff.1 h
  have : ls = ls.take i ++ x :: ls.drop (i + 1) := by
    rw [← h2, ← List.drop_eq_getElem_cons h1, List.take_append_drop]
  conv => lhs; rw [this]
  simp
/-- A set with a key more. -/
def addK (ks : List Int) (v : Int) : List Int := if v ∈ ks then ks else ks ++ [v]
theorem addK_le : ∀ (l ks : List Int), (l.foldl addK ks).length ≤ ks.length + l.length
  | [], ks => by simp
  | x :: l, ks => by
    have := addK_le l (addK ks x)
    have h : (addK ks x).length ≤ ks.length + 1 := by unfold addK; split <;> simp
    simp only [List.foldl_cons, List.length_cons]; omega
theorem addK_all : ∀ (l ks : List Int), ks.Nodup → ((l.foldl addK ks).length = ks.length + l.length ↔ (ks ++ l).Nodup)
  | [], ks, h => by simp [h]
  | x :: l, ks, h => by
    simp only [List.foldl_cons, List.length_cons]
    by_cases e : x ∈ ks
    · have h1 : addK ks x = ks := if_pos e
      rw [h1]
      have := addK_le l ks
      constructor
      · intro h2; omega
      · intro h2; rw [List.nodup_append] at h2; exact absurd rfl (h2.2.2 x e x (by simp))
    · have h1 : addK ks x = ks ++ [x] := if_neg e
      have h3 : (ks ++ [x]).Nodup := apart_iff.1 (apart_snoc ks x (apart_iff.2 h) e)
      have ih := addK_all l (ks ++ [x]) h3
      rw [h1, show ks ++ x :: l = ks ++ [x] ++ l by simp, ← ih]
      simp only [List.length_append, List.length_cons, List.length_nil]
      omega
theorem addK_apart (l : List Int) : decide ((((l.foldl addK []).length : Nat) : Int) = (l.length : Int)) = apart l := by
  have h := addK_all l [] (by simp)
  rw [List.nil_append, ← apart_iff] at h
  simp only [List.length_nil, Nat.zero_add] at h
  by_cases e : apart l = true
  · rw [e, decide_eq_true_iff]; have := h.2 e; omega
  · have e' : apart l = false := by simpa using e
    rw [e', decide_eq_false_iff_not]
    intro h2
    exact e (h.1 (by omega))
end Go.Al
end
