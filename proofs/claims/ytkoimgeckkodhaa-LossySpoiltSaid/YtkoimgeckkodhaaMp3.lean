/- A cache of any policy: a run's answers fit, and its pairs are the map that is left; few operations. Conditions: the operations are few. -/
import Derived.Test.YtkoimgeckkodhaaMp2
import Derived.Test.YtkoimgeckkodhaaMo2
set_option linter.unusedVariables false
set_option linter.unusedSimpArgs false
set_option maxRecDepth 20000
set_option maxHeartbeats 6400000
-- NOIDS: noIdsE_PR, noIdsE_OL, noIdsE_AL
-- LENS: PR_len, OL_len, AL_len
namespace Go.Al
open Go.Proofs
theorem runS_more (π : Pol) (c : Int) (a b : List LOp) : ∃ t, (runS π c (a ++ b)).2 = (runS π c a).2 ++ t := by
  have gen : ∀ (b : List LOp) (r : MS π × List LAns), ∃ t, (b.foldl (fun r o => ((stepM r.1 o).1, r.2 ++ [(stepM r.1 o).2])) r).2 = r.2 ++ t := by
    intro b
    induction b with
    | nil => intro r; exact ⟨[], by simp⟩
    | cons o b ih =>
      intro r
      obtain ⟨t, ht⟩ := ih ((stepM r.1 o).1, r.2 ++ [(stepM r.1 o).2])
      exact ⟨[(stepM r.1 o).2] ++ t, by rw [List.foldl_cons, ht, List.append_assoc]⟩
  unfold runS
  rw [List.foldl_append]
  exact gen b _
theorem runS_at {π : Pol} {c : Int} (c0 : 1 ≤ c) (c1 : c ≤ 14) {l : List LOp} (hs : ∀ o ∈ l, o.Small) {i : Nat} {o : LOp} (h : l[i]? = some o) : (runS π c l).2[i]? = some (stepM (runS π c (l.take i)).1 o).2 := by
  obtain ⟨hi, e⟩ := List.getElem?_eq_some_iff.1 h
  have ht : l.take (i + 1) = l.take i ++ [o] := by rw [List.take_add_one, h]; rfl
  obtain ⟨t, h2⟩ := runS_more π c (l.take (i + 1)) (l.drop (i + 1))
  rw [List.take_append_drop, ht, runS_snoc] at h2
  obtain ⟨_, _, h3, _⟩ := runS_ok (π := π) c0 c1 (l.take i) (fun o ho => hs o (List.mem_of_mem_take ho))
  rw [List.length_take, Nat.min_eq_left (by omega)] at h3
  rw [h2]
  simp only [List.append_assoc]
  rw [List.getElem?_append_right (by omega), h3, Nat.sub_self]
  rfl
theorem runS_inv {π : Pol} {c : Int} (c0 : 1 ≤ c) (c1 : c ≤ 14) (l : List LOp) (hs : ∀ o ∈ l, o.Small) : (runS π c l).1.Inv := by
  have gen : ∀ (l : List LOp) (r : MS π × List LAns), (∀ o ∈ l, o.Small) → r.1.Inv → (l.foldl (fun r o => ((stepM r.1 o).1, r.2 ++ [(stepM r.1 o).2])) r).1.Inv := by
    intro l
    induction l with
    | nil => intro r _ h; exact h
    | cons o l ih =>
      intro r hs h
      exact ih _ (fun x hx => hs x (List.mem_cons_of_mem _ hx)) (step_law h (hs o List.mem_cons_self)).2.2
  refine gen l (MS.new π c, []) hs ⟨(π.oNew c c0 c1).1, List.nodup_nil, fun k => ?_⟩
  show k ∈ keys [] ↔ k ∈ π.ks (π.new c)
  rw [(π.oNew c c0 c1).2]
  exact Iff.rfl
theorem run_law {π : Pol} {c : Int} (c0 : 1 ≤ c) (c1 : c ≤ 14) {l : List LOp} (hs : ∀ o ∈ l, o.Small) : ∀ i, i ≤ l.length → mapAt l (runS π c l).2 i = (runS π c (l.take i)).1.P := by
  intro i
  induction i with
  | zero => intro _; rfl
  | succ i ih =>
    intro hi
    obtain ⟨o, ho⟩ : ∃ o, l[i]? = some o := ⟨_, List.getElem?_eq_getElem (by omega)⟩
    have ht : l.take (i + 1) = l.take i ++ [o] := by rw [List.take_add_one, ho]; rfl
    have ha := runS_at (π := π) c0 c1 hs ho
    show behindM (mapAt l (runS π c l).2 i) (l.getD i o0) ((runS π c l).2.getD i a0) = _
    rw [ih (by omega), List.getD_eq_getElem?_getD, List.getD_eq_getElem?_getD, ho, ha, ht, runS_snoc]
    exact (step_law (runS_inv c0 c1 (l.take i) (fun o ho => hs o (List.mem_of_mem_take ho))) (hs o (List.mem_of_getElem? ho))).2.1
theorem run_fit {π : Pol} {c : Int} (c0 : 1 ≤ c) (c1 : c ≤ 14) {l : List LOp} (hs : ∀ o ∈ l, o.Small) {i : Nat} (hi : i < l.length) : fitAt l (runS π c l).2 i = true := by
  obtain ⟨o, ho⟩ : ∃ o, l[i]? = some o := ⟨_, List.getElem?_eq_getElem hi⟩
  have ha := runS_at (π := π) c0 c1 hs ho
  obtain ⟨_, _, h3, _⟩ := runS_ok (π := π) c0 c1 l hs
  unfold fitAt
  rw [decide_eq_true (by omega), run_law c0 c1 hs i (by omega), List.getD_eq_getElem?_getD, List.getD_eq_getElem?_getD, ho, ha, Bool.true_and]
  exact (step_law (runS_inv c0 c1 (l.take i) (fun o ho => hs o (List.mem_of_mem_take ho))) (hs o (List.mem_of_getElem? ho))).1
theorem run_wk {π : Pol} {c : Int} (c0 : 1 ≤ c) (c1 : c ≤ 14) {l : List LOp} (hs : ∀ o ∈ l, o.Small) : wkN l (runS π c l).2 = -1 ∧ wkM l (runS π c l).2 = (runS π c l).1.P := by
  obtain ⟨_, _, h3, _⟩ := runS_ok (π := π) c0 c1 l hs
  have hw : wrongN l (runS π c l).2 = none := wrongN_none fun q hq => run_fit c0 c1 hs hq
  constructor
  · unfold wkN
    simp only [hw]
    rw [if_neg (by omega)]
  · unfold wkM
    simp only [hw]
    rw [run_law c0 c1 hs _ (Nat.le_refl _), List.take_length]
def fewO (l : List LOp) : Bool := decide (l.length ≤ 60 ∧ ∀ o ∈ l, ¬ (o.n > 14 ∧ o.n ≤ 1048576))
theorem rFewO (l : List LOp) : PCalls Try.prog 14 [.lst 4 (OL l), .sc (.int .i64 60)] (.sc (.bool (fewO l))) := by
  refine PCalls.intro2 Try.func14 rfl rfl Try.ntmps14 Try.results14 (by simp) fun n => ?_; simp (maxSteps := 400000) (dsimp := false) only [axs, axw, aresL, afill, Value.oneCell', Nat.reduceLT, Nat.reduceLeDiff, Nat.reduceEqDiff, Nat.reduceAdd, Nat.reduceMul, Nat.reduceSub, Nat.reduceBEq, Int.reduceLE, Int.reduceLT, Int.reduceToNat, Int.reduceNeg, Int.reduceEq, axt, ftK, ft3, AAll, ftQ, tys]
  refine ALoop.upto (min l.length 61) (fun p s => s.t 0 = .lst 4 (OL l) ∧ s.t 1 = .sc (.int .i64 60) ∧ s.t 5 = .sc (.int .i64 p) ∧ ∀ q o, q < p → l[q]? = some o → ¬ (o.n > 14 ∧ o.n ≤ 1048576)) ⟨rfl, rfl, rfl, fun q a hq => absurd hq (Nat.not_lt_zero q)⟩ ?_
  rintro p s hp hb ⟨h0, h1, h5, hq⟩
  by_cases h61 : (p : Int) ≤ 60
  · by_cases hlt : p < l.length
    · obtain ⟨o, ho⟩ : ∃ o, l[p]? = some o := ⟨_, List.getElem?_eq_getElem hlt⟩
      have hg := OL_get ho
      have hp0 : (0 : Int) ≤ (p : Int) := by omega
      have hpl : (p : Int) < l.length := by omega
      have hw : IntKind.i64.wrap ((p : Int) + 1) = ((p + 1 : Nat) : Int) := by rw [wrap_in (by omega) (by omega)]; rfl
      by_cases c1 : o.n > 14
      · by_cases c2 : o.n ≤ 1048576
        · have hf : fewO l = false := decide_eq_false fun h => h.2 o (List.mem_of_getElem? ho) ⟨c1, c2⟩
          rw [hf]
          simp (maxSteps := 400000) (dsimp := false) only [h0, h1, h5, hp0, hpl, h61, hg, OL_len, c1, c2, axs, axw, aresL, afill, Value.oneCell', Nat.reduceLT, Nat.reduceLeDiff, Nat.reduceEqDiff, Nat.reduceAdd, Nat.reduceMul, Nat.reduceSub, Nat.reduceBEq, Int.reduceLE, Int.reduceLT, Int.reduceToNat, Int.reduceNeg, Int.reduceEq, axt, ftK, ft3, AAll, ftQ, tys]
          exact ⟨_, rfl, Sees.sc⟩
        · simp (maxSteps := 400000) (dsimp := false) only [h0, h1, h5, hp0, hpl, h61, hg, OL_len, c1, c2, hw, axs, axw, aresL, afill, Value.oneCell', Nat.reduceLT, Nat.reduceLeDiff, Nat.reduceEqDiff, Nat.reduceAdd, Nat.reduceMul, Nat.reduceSub, Nat.reduceBEq, Int.reduceLE, Int.reduceLT, Int.reduceToNat, Int.reduceNeg, Int.reduceEq, axt, ftK, ft3, AAll, ftQ, tys]
          refine ⟨by omega, fun q b hq2 hb2 => ?_⟩
          rcases Nat.lt_succ_iff_lt_or_eq.1 hq2 with h | rfl
          · exact hq q b h hb2
          · rw [ho] at hb2; cases hb2; omega
      · simp (maxSteps := 400000) (dsimp := false) only [h0, h1, h5, hp0, hpl, h61, hg, OL_len, c1, hw, axs, axw, aresL, afill, Value.oneCell', Nat.reduceLT, Nat.reduceLeDiff, Nat.reduceEqDiff, Nat.reduceAdd, Nat.reduceMul, Nat.reduceSub, Nat.reduceBEq, Int.reduceLE, Int.reduceLT, Int.reduceToNat, Int.reduceNeg, Int.reduceEq, axt, ftK, ft3, AAll, ftQ, tys]
        refine ⟨by omega, fun q b hq2 hb2 => ?_⟩
        rcases Nat.lt_succ_iff_lt_or_eq.1 hq2 with h | rfl
        · exact hq q b h hb2
        · rw [ho] at hb2; cases hb2; omega
    · have hpl : ¬ (p : Int) < l.length := by omega
      have h60 : (l.length : Int) ≤ 60 := by omega
      have hf : fewO l = true := decide_eq_true ⟨by omega, fun o ho => by
        obtain ⟨q, h1, rfl⟩ := List.mem_iff_getElem.1 ho
        exact hq q _ (by omega) (List.getElem?_eq_getElem h1)⟩
      rw [hf]
      simp (maxSteps := 400000) (dsimp := false) only [h0, h1, h5, hpl, OL_len, h60, axs, axw, aresL, afill, Value.oneCell', Nat.reduceLT, Nat.reduceLeDiff, Nat.reduceEqDiff, Nat.reduceAdd, Nat.reduceMul, Nat.reduceSub, Nat.reduceBEq, Int.reduceLE, Int.reduceLT, Int.reduceToNat, Int.reduceNeg, Int.reduceEq, axt, ftK, ft3, AAll, ftQ, tys]
      exact ⟨_, rfl, Sees.sc⟩
  · have h60 : ¬ (l.length : Int) ≤ 60 := by omega
    have hf : fewO l = false := decide_eq_false fun h => by have := h.1; omega
    rw [hf]
    have hpl : (p : Int) < l.length ∨ ¬ (p : Int) < l.length := Classical.em _
    rcases hpl with hpl | hpl
    · simp (maxSteps := 400000) (dsimp := false) only [h0, h1, h5, hpl, h61, OL_len, h60, axs, axw, aresL, afill, Value.oneCell', Nat.reduceLT, Nat.reduceLeDiff, Nat.reduceEqDiff, Nat.reduceAdd, Nat.reduceMul, Nat.reduceSub, Nat.reduceBEq, Int.reduceLE, Int.reduceLT, Int.reduceToNat, Int.reduceNeg, Int.reduceEq, axt, ftK, ft3, AAll, ftQ, tys]
      exact ⟨_, rfl, Sees.sc⟩
    · simp (maxSteps := 400000) (dsimp := false) only [h0, h1, h5, hpl, h61, OL_len, h60, axs, axw, aresL, afill, Value.oneCell', Nat.reduceLT, Nat.reduceLeDiff, Nat.reduceEqDiff, Nat.reduceAdd, Nat.reduceMul, Nat.reduceSub, Nat.reduceBEq, Int.reduceLE, Int.reduceLT, Int.reduceToNat, Int.reduceNeg, Int.reduceEq, axt, ftK, ft3, AAll, ftQ, tys]
      exact ⟨_, rfl, Sees.sc⟩
/-- Any number names a policy. -/
theorem polOf {p : Int} (h0 : 0 ≤ p) : ∃ π : Pol, π.p = 1 + p.tmod 5 := by
  have h1 := Int.tmod_nonneg 5 h0
  have h2 := Int.tmod_lt_of_pos p (show (0 : Int) < 5 by omega)
  have h3 : p.tmod 5 = 0 ∨ p.tmod 5 = 1 ∨ p.tmod 5 = 2 ∨ p.tmod 5 = 3 ∨ p.tmod 5 = 4 := by omega
  rcases h3 with h | h | h | h | h
  · exact ⟨polLru, by rw [h]; rfl⟩
  · exact ⟨polTwo, by rw [h]; rfl⟩
  · exact ⟨polSth, by rw [h]; rfl⟩
  · exact ⟨polArc, by rw [h]; rfl⟩
  · exact ⟨polLir, by rw [h]; rfl⟩
theorem op_small {x : List Value} (h : FitK [some .i64, some .u64, some .u64, some .i64] x) : ∃ a : LOp, (KeyOk a.key ∧ KeyOk a.val) ∧ x.map AV.sc = a.cells := by
  simp only [FitK] at h
  obtain ⟨a, _, rfl, _, b, _, rfl, hb, c, _, rfl, hc, d, _, rfl, _, rfl⟩ := h
  simp [Lit.wf, IntKind.min, IntKind.max, IntKind.signed, IntKind.bits] at hb hc
  exact ⟨⟨a, b, c, d⟩, ⟨⟨hb.1, by show b < _; omega⟩, ⟨hc.1, by show c < _; omega⟩⟩, rfl⟩
theorem rows_small {es : List (List Value)} (h : ∀ x ∈ es, FitK [some .i64, some .u64, some .u64, some .i64] x) : ∃ l : List LOp, (es.map fun e => e.map AV.sc) = OL l ∧ ∀ o ∈ l, KeyOk o.key ∧ KeyOk o.val := by
  obtain ⟨l, h1, h2, _⟩ := rows_of LOp.cells (fun a => KeyOk a.key ∧ KeyOk a.val) (fun x hx => op_small hx) h
  exact ⟨l, h1, h2⟩
theorem few_small {l : List LOp} (hf : fewO l = true) (hk : ∀ o ∈ l, KeyOk o.key ∧ KeyOk o.val) : l.length ≤ 60 ∧ ∀ o ∈ l, o.Small := by
  obtain ⟨h1, h2⟩ := of_decide_eq_true hf
  exact ⟨h1, fun o ho => ⟨(hk o ho).1, (hk o ho).2, fun _ hn => by
    have := h2 o ho
    omega⟩⟩
theorem idxK_self {P : List (Int × Int)} (nd : (keys P).Nodup) {i : Nat} {x : Int × Int} (h : P[i]? = some x) : idxK P x.1 = i := by
  refine idxT_hit (t := fun y => decide (y.1 = x.1)) h (decide_eq_true rfl) fun q y hq hy => decide_eq_false fun e => ?_
  obtain ⟨g1, _, _, g4, _⟩ := at_key nd h
  refine g4 (List.mem_map.2 ⟨y, ?_, e⟩)
  have : (P.take i)[q]? = some y := by rw [List.getElem?_take, if_pos hq]; exact hy
  exact List.mem_of_getElem? this
end Go.Al
