/- Pairs in rows: a pair's place, copies, by the library. Conditions: the rows are short. -/
import Derived.Test.YtkoimgeckkodhaaLo1
set_option linter.unusedVariables false
set_option linter.unusedSimpArgs false
set_option maxRecDepth 20000
set_option maxHeartbeats 1600000
-- NOIDS: noIdsE_PR
-- LENS: PR_len
namespace Go.Al
open Go.Proofs
theorem Keeps.put {H H2 : AH} {n n2 j : Nat} {x : Option AO} (k : Keeps H n H2 n2) (h : n ≤ j) : Keeps H n (Al.upd H2 j x) n2 := ⟨k.1, fun i hi => by rw [upd_ne _ _ (by omega), k.2 i hi]⟩
theorem cIndexP (l : List (Int × Int)) (y : Int × Int) (hl : l.length ≤ 1000000) : PCalls Try.prog 72 [.lst 2 (PR l), .agg [.sc (.int .u64 y.1), .sc (.int .u64 y.2)]] (.sc (.int .i64 (idxT (fun x => decide (y = x)) l))) := by
  refine PCalls.intro2 Try.func72 rfl rfl Try.ntmps72 Try.results72 (by simp) fun n => ?_; simp (maxSteps := 400000) (dsimp := false) only [PR_len, axs, axw, aresL, afill, Value.oneCell', Nat.reduceLT, Nat.reduceLeDiff, Nat.reduceEqDiff, Nat.reduceAdd, Nat.reduceMul, Nat.reduceSub, Nat.reduceBEq, Int.reduceLE, Int.reduceLT, Int.reduceToNat, Int.reduceNeg, Int.reduceEq, axt, ftK, ft3, AAll, ftQ, tys]
  refine ALoop.upto l.length (fun p s => s.t 0 = .lst 2 (PR l) ∧ s.t 3 = .ptr n 2 0 0 ∧ s.t 7 = .sc (.int .i64 l.length) ∧ s.t 8 = .sc (.int .i64 p) ∧ s.H n = some (.obj 56 2 [[.sc (.int .u64 y.1), .sc (.int .u64 y.2)]] false) ∧ ∀ (q : Nat) (x : Int × Int), q < p → l[q]? = some x → decide (y = x) = false) ⟨rfl, rfl, rfl, rfl, upd_same _ _ _, fun q x hq => absurd hq (Nat.not_lt_zero q)⟩ ?_
  rintro p s hp hb ⟨h0, h3, h7, h8, hH, hq⟩
  rcases Nat.lt_or_ge p l.length with hlt | hge
  · obtain ⟨x, hx, hp0, hpl, hw, hT, hD⟩ := idx hlt (by omega)
    have hg := PR_get hx
    simp (maxSteps := 400000) (dsimp := false) only [h0, h3, h7, h8, hp0, hpl, hg, PR_len, axs, axw, aresL, afill, Value.oneCell', Nat.reduceLT, Nat.reduceLeDiff, Nat.reduceEqDiff, Nat.reduceAdd, Nat.reduceMul, Nat.reduceSub, Nat.reduceBEq, Int.reduceLE, Int.reduceLT, Int.reduceToNat, Int.reduceNeg, Int.reduceEq, axt, ftK, ft3, AAll, ftQ, tys]
    refine ADraw.planR [5] [(0, true), (1, true), (2, true), (3, true), (4, true), (5, true)] [(0, false), (0, false), (0, false), (0, false), (0, false), (0, true)] mixed (by kernel_rfl) (by kernel_rfl) ?_
    simp (maxSteps := 400000) (dsimp := false) only [h0, h3, h7, h8, hp0, hpl, hg, PR_len, hH, axs, axw, aresL, afill, Value.oneCell', Nat.reduceLT, Nat.reduceLeDiff, Nat.reduceEqDiff, Nat.reduceAdd, Nat.reduceMul, Nat.reduceSub, Nat.reduceBEq, Int.reduceLE, Int.reduceLT, Int.reduceToNat, Int.reduceNeg, Int.reduceEq, axt, ftK, ft3, AAll, ftQ, tys]
    refine ASoloK.x rfl rfl (AStepX.eqS [some .u64, some .u64] rfl rfl rfl rfl rfl (by kernel_rfl) rfl rfl rfl) ?_; simp (maxSteps := 400000) (dsimp := false) only [sameSc, sameV, h0, h3, h7, h8, axs, axw, aresL, afill, Value.oneCell', Nat.reduceLT, Nat.reduceLeDiff, Nat.reduceEqDiff, Nat.reduceAdd, Nat.reduceMul, Nat.reduceSub, Nat.reduceBEq, Int.reduceLE, Int.reduceLT, Int.reduceToNat, Int.reduceNeg, Int.reduceEq, axt, ftK, ft3, AAll, ftQ, tys]
    have eb : (decide (y.1 = x.1) && decide (y.2 = x.2)) = decide (y = x) := by
      rw [← Bool.decide_and]
      exact decide_eq_decide.2 Prod.ext_iff.symm
    rw [eb]
    by_cases ht : y = x
    · have := idxT_hit (t := fun x => decide (y = x)) hx (decide_eq_true ht) hq
      rw [decide_eq_true ht]
      simp (maxSteps := 400000) (dsimp := false) only [h0, h3, h7, h8, this, axs, axw, aresL, afill, Value.oneCell', Nat.reduceLT, Nat.reduceLeDiff, Nat.reduceEqDiff, Nat.reduceAdd, Nat.reduceMul, Nat.reduceSub, Nat.reduceBEq, Int.reduceLE, Int.reduceLT, Int.reduceToNat, Int.reduceNeg, Int.reduceEq, axt, ftK, ft3, AAll, ftQ, tys]
      exact ⟨_, rfl, Sees.sc⟩
    · rw [decide_eq_false ht]
      simp (maxSteps := 400000) (dsimp := false) only [h0, h3, h7, h8, hw, axs, axw, aresL, afill, Value.oneCell', Nat.reduceLT, Nat.reduceLeDiff, Nat.reduceEqDiff, Nat.reduceAdd, Nat.reduceMul, Nat.reduceSub, Nat.reduceBEq, Int.reduceLE, Int.reduceLT, Int.reduceToNat, Int.reduceNeg, Int.reduceEq, axt, ftK, ft3, AAll, ftQ, tys]
      refine ⟨hlt, hH, fun q z hq' hz => ?_⟩
      rcases Nat.lt_succ_iff_lt_or_eq.1 hq' with h | rfl
      · exact hq q z h hz
      · rw [hx] at hz; cases hz; exact decide_eq_false ht
  · have hge2 : p = l.length := by omega
    subst hge2
    have hpl : ¬ (l.length : Int) < l.length := by omega
    have := idxT_miss (t := fun x => decide (y = x)) hq
    simp (maxSteps := 400000) (dsimp := false) only [h0, h3, h7, h8, hpl, this, axs, axw, aresL, afill, Value.oneCell', Nat.reduceLT, Nat.reduceLeDiff, Nat.reduceEqDiff, Nat.reduceAdd, Nat.reduceMul, Nat.reduceSub, Nat.reduceBEq, Int.reduceLE, Int.reduceLT, Int.reduceToNat, Int.reduceNeg, Int.reduceEq, axt, ftK, ft3, AAll, ftQ, tys]
    exact ⟨_, rfl, Sees.sc⟩
theorem idxT_ge {t : Int × Int → Bool} {l : List (Int × Int)} : decide (idxT t l ≥ 0) = l.any t := by
  rcases idxT_cases t l with ⟨h1, h2⟩ | ⟨p, x, h1, h2, h3, _⟩
  · have : l.any t = false := by rw [List.any_eq_false]; intro x hx; rw [h2 x hx]; simp
    rw [h1, this]; rfl
  · have : l.any t = true := List.any_eq_true.2 ⟨x, List.mem_of_getElem? h2, h3⟩
    rw [h1, this, decide_eq_true (by omega)]
theorem seed6a40 {p : Prop} (h : p := by repeat' (first | exact True.intro | exact Sees.sc | exact Sees.none | ((with_reducible refine Sees.same ?_) <;> simp [noIds, noIdsL, noIdsE, noIdsE_U, noIdsE_UU, noIdsE_PR] <;> fail) | (refine Live.sees ?_ ?_ <;> first | assumption | (simp [noIdsE_U, noIdsE_UU, noIdsE_PR] <;> fail)) | (refine Sees.obj ?_ ?_ ?_ <;> first | exact ⟨_, _, by assumption, rfl⟩ | (simp [U_len, UU_len, PR_len] <;> fail) | (simp [noIdsE_U, noIdsE_UU, noIdsE_PR] <;> fail) | (simp [U, UU, upd] <;> fail) | (simp [U, UU, upd, neS, *] <;> fail)) | (refine Sees.of_seen 3 ?_ <;> simp [seen, upd, noIdsE, noIdsL, noIds, U, UU, Nat.add_assoc] <;> fail) | refine Sees.agg ?_ | refine And.intro ?_ ?_ | simp only [SeesL])) : p := h
theorem cContainsP (l : List (Int × Int)) (y : Int × Int) (hl : l.length ≤ 1000000) : PCalls Try.prog 46 [.lst 2 (PR l), .agg [.sc (.int .u64 y.1), .sc (.int .u64 y.2)]] (.sc (.bool (decide (y ∈ l)))) := by
  have e : decide (idxT (fun x => decide (y = x)) l ≥ 0) = decide (y ∈ l) := by
    rw [idxT_ge, List.any_eq]
    exact decide_eq_decide.2 ⟨fun ⟨x, h1, h2⟩ => by rw [of_decide_eq_true h2]; exact h1, fun h => ⟨y, h, decide_eq_true rfl⟩⟩
  refine PCalls.intro2 Try.func46 rfl rfl Try.ntmps46 Try.results46 (by simp) fun n => ?_; simp (maxSteps := 400000) (dsimp := false) only [axs, axw, aresL, afill, Value.oneCell', Nat.reduceLT, Nat.reduceLeDiff, Nat.reduceEqDiff, Nat.reduceAdd, Nat.reduceMul, Nat.reduceSub, Nat.reduceBEq, Int.reduceLE, Int.reduceLT, Int.reduceToNat, Int.reduceNeg, Int.reduceEq, axt, ftK, ft3, AAll, ftQ, tys]
  refine ACallK.strict rfl (cIndexP l y hl) (by simp only [SeesL, e, axs, axt, AS.ev, AS.put, upd, inHeap, Nat.reduceLT, Nat.reduceEqDiff, Nat.reduceAdd, Nat.reduceBEq]; exact seed6a40) ?_; simp (maxSteps := 400000) (dsimp := false) only [e, axs, axw, aresL, afill, Value.oneCell', Nat.reduceLT, Nat.reduceLeDiff, Nat.reduceEqDiff, Nat.reduceAdd, Nat.reduceMul, Nat.reduceSub, Nat.reduceBEq, Int.reduceLE, Int.reduceLT, Int.reduceToNat, Int.reduceNeg, Int.reduceEq, axt, ftK, ft3, AAll, ftQ, tys]
  exact ⟨_, rfl, Sees.sc⟩
/-- The test of behind: is it evicted? -/
theorem cDelF (o : List (Int × Int)) (ho : o.length ≤ 1000000) {a b c d : AV} {H : AH} {kb te : Nat} (hk : H kb = some (.obj te 5 [[a, b, c, .lst 2 (PR o), d]] false)) : TestF 45 [.ptr kb 5 0 0] (fun x => decide (x ∈ o)) H (kb + 1) := by
  intro n x hn
  refine HCalls.forget ?_ rfl
  have hkn : ¬ kb = n := by omega
  refine HCalls.walk Try.func45 rfl rfl Try.ntmps45 Try.results45 (by simp) ?_; simp (maxSteps := 400000) (dsimp := false) only [hk, hkn, axs, axw, aresL, afill, Value.oneCell', Nat.reduceLT, Nat.reduceLeDiff, Nat.reduceEqDiff, Nat.reduceAdd, Nat.reduceMul, Nat.reduceSub, Nat.reduceBEq, Int.reduceLE, Int.reduceLT, Int.reduceToNat, Int.reduceNeg, Int.reduceEq, axt, ftK, ft3, AAll, ftQ, tys]
  refine ACallK.strict rfl (cContainsP o x ho) (by simp only [SeesL, hk, hkn, axs, axt, AS.ev, AS.put, upd, inHeap, Nat.reduceLT, Nat.reduceEqDiff, Nat.reduceAdd, Nat.reduceBEq]; exact seed6a40) ?_; simp (maxSteps := 400000) (dsimp := false) only [hk, hkn, axs, axw, aresL, afill, Value.oneCell', Nat.reduceLT, Nat.reduceLeDiff, Nat.reduceEqDiff, Nat.reduceAdd, Nat.reduceMul, Nat.reduceSub, Nat.reduceBEq, Int.reduceLE, Int.reduceLT, Int.reduceToNat, Int.reduceNeg, Int.reduceEq, axt, ftK, ft3, AAll, ftQ, tys]
  exact ⟨_, rfl, rfl, (Keeps.refl _ _).upd⟩
theorem cCloneL (l : List (Int × Int)) (hl : l.length ≤ 1000000) (H : AH) (n : Nat) : HCalls Try.prog 44 [.lst 2 (PR l)] H n fun v H' n' => Live 56 2 H' (PR l) v ∧ (∀ id z o m, v = .sl id z o m → n ≤ id) ∧ Keeps H n H' n' := by
  refine HCalls.walk Try.func44 rfl rfl Try.ntmps44 Try.results44 (by simp) ?_; simp (maxSteps := 400000) (dsimp := false) only [axs, axw, aresL, afill, Value.oneCell', Nat.reduceLT, Nat.reduceLeDiff, Nat.reduceEqDiff, Nat.reduceAdd, Nat.reduceMul, Nat.reduceSub, Nat.reduceBEq, Int.reduceLE, Int.reduceLT, Int.reduceToNat, Int.reduceNeg, Int.reduceEq, axt, ftK, ft3, AAll, ftQ, tys]
  refine AStepX.eql_nil rfl rfl sl26 (fun b hb => ?_)
  simp (maxSteps := 400000) (dsimp := false) only [axs, axw, aresL, afill, Value.oneCell', Nat.reduceLT, Nat.reduceLeDiff, Nat.reduceEqDiff, Nat.reduceAdd, Nat.reduceMul, Nat.reduceSub, Nat.reduceBEq, Int.reduceLE, Int.reduceLT, Int.reduceToNat, Int.reduceNeg, Int.reduceEq, axt, ftK, ft3, AAll, ftQ, tys]
  cases b with
  | true =>
    simp (maxSteps := 400000) (dsimp := false) only [axs, axw, aresL, afill, Value.oneCell', Nat.reduceLT, Nat.reduceLeDiff, Nat.reduceEqDiff, Nat.reduceAdd, Nat.reduceMul, Nat.reduceSub, Nat.reduceBEq, Int.reduceLE, Int.reduceLT, Int.reduceToNat, Int.reduceNeg, Int.reduceEq, axt, ftK, ft3, AAll, ftQ, tys]
    have : PR l = [] := hb rfl
    rw [this]
    exact ⟨_, rfl, Live.nil, (fun id z o m e => (nomatch e)), Keeps.refl _ _⟩
  | false =>
    have h1 : l.length * 16 ≤ 140737488355328 := by omega
    have h2 : l.length ≤ 1099511627776 := by omega
    simp (maxSteps := 400000) (dsimp := false) only [PR_len, upd_same, h1, h2, axs, axw, aresL, afill, Value.oneCell', Nat.reduceLT, Nat.reduceLeDiff, Nat.reduceEqDiff, Nat.reduceAdd, Nat.reduceMul, Nat.reduceSub, Nat.reduceBEq, Int.reduceLE, Int.reduceLT, Int.reduceToNat, Int.reduceNeg, Int.reduceEq, axt, ftK, ft3, AAll, ftQ, tys]
    exact ⟨_, rfl, Live.mk (upd_same _ _ _) (by rw [PR_len]), (fun id z o m e => by cases e; omega), ((Keeps.refl _ _).upd.put (Nat.le_refl _)).upd⟩
end Go.Al
