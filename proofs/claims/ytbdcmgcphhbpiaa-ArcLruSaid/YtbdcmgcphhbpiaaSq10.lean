/- What the program's lists come to: the back, what falls. Conditions: the rows are short. -/
import Derived.Test.YtbdcmgcphhbpiaaSq9
set_option linter.unusedVariables false
set_option linter.unusedSimpArgs false
namespace Go.Al
open Go.Proofs
theorem cCloneP (l : List Int) (hl : l.length ≤ 1000000) : PCalls Try.prog 47 [.lst 1 (U l)] (.lst 1 (U l)) := by
  refine PCalls.intro2 Try.func47 rfl rfl Try.ntmps47 Try.results47 (by simp) fun n => ?_; simp (maxSteps := 400000) (dsimp := false) only [axs, AThen, ABlock, dstsOk, AStep, callsF, AWant, aop, AS.ev, AS.put, upd, AS.bound, abin, aint, aload, astore, cellsAt, AV.cells, alen, elems, AV.int?, FPost, aresL, ares1, pack, afill, splice, Value.oneCell', Nat.reduceLT, Nat.reduceLeDiff, Nat.reduceEqDiff, Nat.reduceAdd, Nat.reduceMul, Nat.reduceSub, Nat.reduceBEq, Int.reduceLE, Int.reduceLT, Int.reduceToNat, Int.reduceNeg, Int.reduceEq, axt, ftK, pickP, AScope, AAll, pickQ, ftQ, inHeap, tys]
  refine AStepX.eql_nil rfl rfl sl22 (fun b hb => ?_)
  simp (maxSteps := 400000) (dsimp := false) only [axs, AThen, ABlock, dstsOk, AStep, callsF, AWant, aop, AS.ev, AS.put, upd, AS.bound, abin, aint, aload, astore, cellsAt, AV.cells, alen, elems, AV.int?, FPost, aresL, ares1, pack, afill, splice, Value.oneCell', Nat.reduceLT, Nat.reduceLeDiff, Nat.reduceEqDiff, Nat.reduceAdd, Nat.reduceMul, Nat.reduceSub, Nat.reduceBEq, Int.reduceLE, Int.reduceLT, Int.reduceToNat, Int.reduceNeg, Int.reduceEq, axt, ftK, pickP, AScope, AAll, pickQ, ftQ, inHeap, tys]
  refine ACond.intro _ (fun hc => ?_) (fun hc => ?_)
  · simp (maxSteps := 400000) (dsimp := false) only [axs, AThen, ABlock, dstsOk, AStep, callsF, AWant, aop, AS.ev, AS.put, upd, AS.bound, abin, aint, aload, astore, cellsAt, AV.cells, alen, elems, AV.int?, FPost, aresL, ares1, pack, afill, splice, Value.oneCell', Nat.reduceLT, Nat.reduceLeDiff, Nat.reduceEqDiff, Nat.reduceAdd, Nat.reduceMul, Nat.reduceSub, Nat.reduceBEq, Int.reduceLE, Int.reduceLT, Int.reduceToNat, Int.reduceNeg, Int.reduceEq, axt, ftK, pickP, AScope, AAll, pickQ, ftQ, inHeap, tys]
    have : l = [] := by
      have := hb hc
      simpa [U] using this
    subst this
    exact ⟨_, rfl, Sees.none⟩
  · have h1 : l.length * 8 ≤ 140737488355328 := by omega
    have h2 : l.length ≤ 1099511627776 := by omega
    simp (maxSteps := 400000) (dsimp := false) only [U_len, upd_same, h1, h2, axs, AThen, ABlock, dstsOk, AStep, callsF, AWant, aop, AS.ev, AS.put, upd, AS.bound, abin, aint, aload, astore, cellsAt, AV.cells, alen, elems, AV.int?, FPost, aresL, ares1, pack, afill, splice, Value.oneCell', Nat.reduceLT, Nat.reduceLeDiff, Nat.reduceEqDiff, Nat.reduceAdd, Nat.reduceMul, Nat.reduceSub, Nat.reduceBEq, Int.reduceLE, Int.reduceLT, Int.reduceToNat, Int.reduceNeg, Int.reduceEq, axt, ftK, pickP, AScope, AAll, pickQ, ftQ, inHeap, tys]
    exact ⟨_, rfl, Sees.whole (if_pos rfl) rfl (by simp [U_len]) (noIdsE_U l)⟩
theorem cBackNil : PCalls Try.prog 50 [.lst 1 (U [])] (.tup [.sc (.int .u64 0), .lst 1 (U []), .sc (.bool false)]) := by
  have h : IntKind.i64.wrap (0 - 1) = -1 := by decide
  refine PCalls.intro2 Try.func50 rfl rfl Try.ntmps50 Try.results50 (by simp) fun n => ?_; simp (maxSteps := 400000) (dsimp := false) only [U, h, axs, AThen, ABlock, dstsOk, AStep, callsF, AWant, aop, AS.ev, AS.put, upd, AS.bound, abin, aint, aload, astore, cellsAt, AV.cells, alen, elems, AV.int?, FPost, aresL, ares1, pack, afill, splice, Value.oneCell', Nat.reduceLT, Nat.reduceLeDiff, Nat.reduceEqDiff, Nat.reduceAdd, Nat.reduceMul, Nat.reduceSub, Nat.reduceBEq, Int.reduceLE, Int.reduceLT, Int.reduceToNat, Int.reduceNeg, Int.reduceEq, axt, ftK, pickP, AScope, AAll, pickQ, ftQ, inHeap, tys]
  exact ⟨_, rfl, Sees.tup (by simp only [SeesL]; exact ⟨Sees.sc, Sees.none, Sees.sc, trivial⟩)⟩
theorem cBack (l : List Int) (x : Int) (hl : l.length ≤ 1000000) (hx : l[l.length - 1]? = some x) : PCalls Try.prog 50 [.lst 1 (U l)] (.tup [.sc (.int .u64 x), .lst 1 (U (l.take (l.length - 1))), .sc (.bool true)]) := by
  have h0 : l ≠ [] := by rintro rfl; simp at hx
  obtain ⟨y, hy, hs, hw, g0, g1, g2⟩ := lastIdx h0 (by omega)
  have hg := U_get hx
  have g3 : ¬ ((l.length - 1 : Nat) : Int) < 0 := by omega
  refine PCalls.intro2 Try.func50 rfl rfl Try.ntmps50 Try.results50 (by simp) fun n => ?_; simp (maxSteps := 400000) (dsimp := false) only [U_len, hw, g3, axs, AThen, ABlock, dstsOk, AStep, callsF, AWant, aop, AS.ev, AS.put, upd, AS.bound, abin, aint, aload, astore, cellsAt, AV.cells, alen, elems, AV.int?, FPost, aresL, ares1, pack, afill, splice, Value.oneCell', Nat.reduceLT, Nat.reduceLeDiff, Nat.reduceEqDiff, Nat.reduceAdd, Nat.reduceMul, Nat.reduceSub, Nat.reduceBEq, Int.reduceLE, Int.reduceLT, Int.reduceToNat, Int.reduceNeg, Int.reduceEq, axt, ftK, pickP, AScope, AAll, pickQ, ftQ, inHeap, tys]
  refine ADraw.planR [] [(0, true), (1, true), (2, true), (3, true), (4, true), (5, true), (6, true), (7, true), (8, true), (9, true), (10, true)] [(0, false), (0, false), (0, false), (0, false), (0, false), (0, false), (0, false), (0, false), (0, false), (0, false), (0, false)] mixed (by kernel_rfl) (by kernel_rfl) ?_
  simp (maxSteps := 400000) (dsimp := false) only [U_len, hg, g0, g1, g2, U_take, axs, AThen, ABlock, dstsOk, AStep, callsF, AWant, aop, AS.ev, AS.put, upd, AS.bound, abin, aint, aload, astore, cellsAt, AV.cells, alen, elems, AV.int?, FPost, aresL, ares1, pack, afill, splice, Value.oneCell', Nat.reduceLT, Nat.reduceLeDiff, Nat.reduceEqDiff, Nat.reduceAdd, Nat.reduceMul, Nat.reduceSub, Nat.reduceBEq, Int.reduceLE, Int.reduceLT, Int.reduceToNat, Int.reduceNeg, Int.reduceEq, axt, ftK, pickP, AScope, AAll, pickQ, ftQ, inHeap, tys]
  refine ACallP.pure rfl (cCloneP (l.take (l.length - 1)) (by simp; omega)) ?_; simp (maxSteps := 400000) (dsimp := false) only [axs, AThen, ABlock, dstsOk, AStep, callsF, AWant, aop, AS.ev, AS.put, upd, AS.bound, abin, aint, aload, astore, cellsAt, AV.cells, alen, elems, AV.int?, FPost, aresL, ares1, pack, afill, splice, Value.oneCell', Nat.reduceLT, Nat.reduceLeDiff, Nat.reduceEqDiff, Nat.reduceAdd, Nat.reduceMul, Nat.reduceSub, Nat.reduceBEq, Int.reduceLE, Int.reduceLT, Int.reduceToNat, Int.reduceNeg, Int.reduceEq, axt, ftK, pickP, AScope, AAll, pickQ, ftQ, inHeap, tys]
  exact ⟨_, rfl, Sees.same (by simp [noIds, noIdsL, noIdsE_U])⟩
end Go.Al
