/- A map that forgets: the law's own first look. Conditions: none. -/
import Derived.Test.YtkoimgeckkodhaaLo8
set_option linter.unusedVariables false
set_option linter.unusedSimpArgs false
set_option maxRecDepth 20000
set_option maxHeartbeats 6400000
-- NOIDS: noIdsE_PR, noIdsE_OL, noIdsE_AL
-- LENS: PR_len, OL_len, AL_len
namespace Go.Al
open Go.Proofs
def lA : List LOp := [⟨2, 1, 5, 0⟩, ⟨1, 1, 0, 0⟩]
def aA : List LAns := [⟨false, 0, 0, [], 0⟩, ⟨true, 5, 0, [], 0⟩]
def bA : List LAns := [⟨false, 0, 0, [], 0⟩, ⟨true, 6, 0, [], 0⟩]
theorem wA1 : wkN lA aA = -1 ∧ wkM lA aA = [(1, 5)] ∧ wkN lA bA = 1 ∧ wkN lA (aA.take 1) = 1 ∧ wkN (lA.take 1) aA = 1 := by decide +kernel
theorem see95a70 {p : Prop} (h : p := by repeat' (first | exact True.intro | exact Sees.sc | exact Sees.none | ((with_reducible refine Sees.same ?_) <;> simp [noIds, noIdsL, noIdsE, noIdsE_U, noIdsE_UU, noIdsE_PR, noIdsE_OL, noIdsE_AL] <;> fail) | (refine Live.sees ?_ ?_ <;> first | assumption | (simp [noIdsE_U, noIdsE_UU, noIdsE_PR, noIdsE_OL, noIdsE_AL] <;> fail)) | (refine Sees.obj ?_ ?_ ?_ <;> first | exact ⟨_, _, by assumption, rfl⟩ | (simp [U_len, UU_len, PR_len, OL_len, AL_len] <;> fail) | (simp [noIdsE_U, noIdsE_UU, noIdsE_PR, noIdsE_OL, noIdsE_AL] <;> fail) | (simp [U, UU, upd] <;> fail) | (simp [U, UU, upd, neS, *] <;> fail)) | (refine Sees.of_seen 3 ?_ <;> simp [seen, upd, noIdsE, noIdsL, noIds, U, UU, Nat.add_assoc] <;> fail) | refine Sees.agg ?_ | refine And.intro ?_ ?_ | simp only [SeesL])) : p := h
theorem awake22 : PCalls Try.prog 8 [] (.sc (.bool true)) := by
  obtain ⟨w1, w2, w3, w4, w5⟩ := wA1
  have c1 : PCalls Try.prog 13 [.lst 4 (OL lA), .lst 5 (aA.map nilA)] (.lst 2 (PR [(1, 5)])) := by
    have := cLeft lA aA (by decide) (by decide) (by decide)
    rw [w2] at this
    exact this.nilA (by decide)
  have c2 : PCalls Try.prog 11 [.lst 4 (OL lA), .lst 5 (aA.map nilA)] (.sc (.int .i64 (-1))) := by
    have := cWrong lA aA (by decide) (by decide) (by decide)
    rw [w1] at this
    exact this.nilA (by decide)
  have c3 : PCalls Try.prog 11 [.lst 4 (OL lA), .lst 5 (bA.map nilA)] (.sc (.int .i64 1)) := by
    have := cWrong lA bA (by decide) (by decide) (by decide)
    rw [w3] at this
    exact this.nilA (by decide)
  have c4 : PCalls Try.prog 11 [.lst 4 (OL lA), .lst 5 ((aA.take 1).map nilA)] (.sc (.int .i64 1)) := by
    have := cWrong lA (aA.take 1) (by decide) (by decide) (by decide)
    rw [w4] at this
    exact this.nilA (by decide)
  have c5 : PCalls Try.prog 11 [.lst 4 (OL (lA.take 1)), .lst 5 (aA.map nilA)] (.sc (.int .i64 1)) := by
    have := cWrong (lA.take 1) aA (by decide) (by decide) (by decide)
    rw [w5] at this
    exact this.nilA (by decide)
  simp only [lA, aA, bA, OL, List.map_cons, List.map_nil, nilA, LOp.cells, List.take_succ_cons, List.take_zero, PR] at c1 c2 c3 c4 c5
  refine PCalls.intro2 Try.func8 rfl rfl Try.ntmps8 Try.results8 (by simp) fun n => ?_; simp (maxSteps := 400000) (dsimp := false) only [axs, axw, aresL, afill, Value.oneCell', Nat.reduceLT, Nat.reduceLeDiff, Nat.reduceEqDiff, Nat.reduceAdd, Nat.reduceMul, Nat.reduceSub, Nat.reduceBEq, Int.reduceLE, Int.reduceLT, Int.reduceToNat, Int.reduceNeg, Int.reduceEq, axt, ftK, ft3, AAll, ftQ, tys]
  refine ACallK.shutO (id := n) ((upd_ne _ _ (by omega)).trans ((upd_ne _ _ (by omega)).trans (upd_same _ _ _))) ?_
  refine ACallK.shutO (id := n + 1) ((upd_ne _ _ (by omega)).trans ((upd_ne _ _ (by omega)).trans (upd_same _ _ _))) ?_
  refine ACallK.shutO (id := n + 1 + 1) ((upd_ne _ _ (by omega)).trans ((upd_ne _ _ (by omega)).trans (upd_same _ _ _))) ?_
  refine ACallK.strict rfl (c1) (by simp only [SeesL, axs, axt, AS.ev, AS.put, upd, inHeap, Nat.reduceLT, Nat.reduceEqDiff, Nat.reduceAdd, Nat.reduceBEq]; exact see95a70) ?_; simp (maxSteps := 400000) (dsimp := false) only [axs, axw, aresL, afill, Value.oneCell', Nat.reduceLT, Nat.reduceLeDiff, Nat.reduceEqDiff, Nat.reduceAdd, Nat.reduceMul, Nat.reduceSub, Nat.reduceBEq, Int.reduceLE, Int.reduceLT, Int.reduceToNat, Int.reduceNeg, Int.reduceEq, axt, ftK, ft3, AAll, ftQ, tys]
  refine ACallK.strict rfl (c2) (by simp only [SeesL, axs, axt, AS.ev, AS.put, upd, inHeap, Nat.reduceLT, Nat.reduceEqDiff, Nat.reduceAdd, Nat.reduceBEq]; exact see95a70) ?_; simp (maxSteps := 400000) (dsimp := false) only [axs, axw, aresL, afill, Value.oneCell', Nat.reduceLT, Nat.reduceLeDiff, Nat.reduceEqDiff, Nat.reduceAdd, Nat.reduceMul, Nat.reduceSub, Nat.reduceBEq, Int.reduceLE, Int.reduceLT, Int.reduceToNat, Int.reduceNeg, Int.reduceEq, axt, ftK, ft3, AAll, ftQ, tys]
  refine ACallK.strict rfl (c3) (by simp only [SeesL, axs, axt, AS.ev, AS.put, upd, inHeap, Nat.reduceLT, Nat.reduceEqDiff, Nat.reduceAdd, Nat.reduceBEq]; exact see95a70) ?_; simp (maxSteps := 400000) (dsimp := false) only [axs, axw, aresL, afill, Value.oneCell', Nat.reduceLT, Nat.reduceLeDiff, Nat.reduceEqDiff, Nat.reduceAdd, Nat.reduceMul, Nat.reduceSub, Nat.reduceBEq, Int.reduceLE, Int.reduceLT, Int.reduceToNat, Int.reduceNeg, Int.reduceEq, axt, ftK, ft3, AAll, ftQ, tys]
  refine ACallK.strict rfl (c4) (by simp only [SeesL, axs, axt, AS.ev, AS.put, upd, inHeap, Nat.reduceLT, Nat.reduceEqDiff, Nat.reduceAdd, Nat.reduceBEq]; exact see95a70) ?_; simp (maxSteps := 400000) (dsimp := false) only [axs, axw, aresL, afill, Value.oneCell', Nat.reduceLT, Nat.reduceLeDiff, Nat.reduceEqDiff, Nat.reduceAdd, Nat.reduceMul, Nat.reduceSub, Nat.reduceBEq, Int.reduceLE, Int.reduceLT, Int.reduceToNat, Int.reduceNeg, Int.reduceEq, axt, ftK, ft3, AAll, ftQ, tys]
  refine ACallK.strict rfl (c5) (by simp only [SeesL, axs, axt, AS.ev, AS.put, upd, inHeap, Nat.reduceLT, Nat.reduceEqDiff, Nat.reduceAdd, Nat.reduceBEq]; exact see95a70) ?_; simp (maxSteps := 400000) (dsimp := false) only [axs, axw, aresL, afill, Value.oneCell', Nat.reduceLT, Nat.reduceLeDiff, Nat.reduceEqDiff, Nat.reduceAdd, Nat.reduceMul, Nat.reduceSub, Nat.reduceBEq, Int.reduceLE, Int.reduceLT, Int.reduceToNat, Int.reduceNeg, Int.reduceEq, axt, ftK, ft3, AAll, ftQ, tys]
  refine AStepX.eqS [some .u64, some .u64] rfl rfl rfl rfl rfl (by kernel_rfl) rfl rfl ?_; simp (maxSteps := 400000) (dsimp := false) only [sameSc, sameV, axs, axw, aresL, afill, Value.oneCell', Nat.reduceLT, Nat.reduceLeDiff, Nat.reduceEqDiff, Nat.reduceAdd, Nat.reduceMul, Nat.reduceSub, Nat.reduceBEq, Int.reduceLE, Int.reduceLT, Int.reduceToNat, Int.reduceNeg, Int.reduceEq, axt, ftK, ft3, AAll, ftQ, tys]
  exact ⟨_, rfl, Sees.sc⟩
end Go.Al
