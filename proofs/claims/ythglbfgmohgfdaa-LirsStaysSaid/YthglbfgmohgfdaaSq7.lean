/- seq.Front, seq.Without, seq.Has as pure calls. Conditions: the row has a million elements at most. -/
import Derived.Test.YthglbfgmohgfdaaSq6
set_option linter.unusedVariables false
set_option linter.unusedSimpArgs false
namespace Go.Al
open Go.Proofs
theorem without_len (l : List Int) (v : Int) : (without l v).length ≤ l.length := List.length_filter_le _ _
theorem seen_row {H : AH} {id te : Nat} {l : List Int} (h : H id = some (.obj te 1 (U l) false)) : seen H true 1 (.sl id 1 0 l.length) = some (.lst 1 (U l)) :=
  seen_sl (es := []) (by rw [List.append_nil]; exact h)
theorem cWithout (l : List Int) (v : Int) (hl : l.length ≤ 1000000) : PCalls Try.prog 42 [.lst 1 (U l), .sc (.int .u64 v)] (.lst 1 (U (without l v))) := by
  refine PCalls.walk Try.func42 rfl rfl Try.ntmps42 Try.results42 (by simp) fun n => ?_; simp (maxSteps := 400000) (dsimp := false) only [axs, AThen, ABlock, dstsOk, AStep, callsF, AWant, aop, AS.ev, AS.put, upd, AS.bound, abin, aint, aload, astore, cellsAt, AV.cells, alen, elems, AV.int?, FPost, aresL, ares1, pack, afill, splice, Value.oneCell', Nat.reduceLT, Nat.reduceLeDiff, Nat.reduceEqDiff, Nat.reduceAdd, Nat.reduceMul, Nat.reduceSub, Nat.reduceBEq, Int.reduceLE, Int.reduceLT, Int.reduceToNat, Int.reduceNeg, Int.reduceEq, axt, ftK, ft3, pickP, AScope, AAll, pickQ, ftQ, inHeap, tys]
  refine ACallK.heap _ rfl (cClone l hl _ _) ?_
  rintro r H' n' (⟨rfl, rfl, rfl, rfl⟩ | ⟨rfl, rfl, rfl⟩)
  · simp (maxSteps := 400000) (dsimp := false) only [axs, AThen, ABlock, dstsOk, AStep, callsF, AWant, aop, AS.ev, AS.put, upd, AS.bound, abin, aint, aload, astore, cellsAt, AV.cells, alen, elems, AV.int?, FPost, aresL, ares1, pack, afill, splice, Value.oneCell', Nat.reduceLT, Nat.reduceLeDiff, Nat.reduceEqDiff, Nat.reduceAdd, Nat.reduceMul, Nat.reduceSub, Nat.reduceBEq, Int.reduceLE, Int.reduceLT, Int.reduceToNat, Int.reduceNeg, Int.reduceEq, axt, ftK, ft3, pickP, AScope, AAll, pickQ, ftQ, inHeap, tys]
    refine ACallK.heap (fun r H' n' => r = .lst 1 []) rfl ((cDeleteNil _ _ _).nil fun r H' n' h => .inr ⟨h.1, 1, rfl⟩) ?_
    rintro r H' n' rfl
    simp (maxSteps := 400000) (dsimp := false) only [axs, AThen, ABlock, dstsOk, AStep, callsF, AWant, aop, AS.ev, AS.put, upd, AS.bound, abin, aint, aload, astore, cellsAt, AV.cells, alen, elems, AV.int?, FPost, aresL, ares1, pack, afill, splice, Value.oneCell', Nat.reduceLT, Nat.reduceLeDiff, Nat.reduceEqDiff, Nat.reduceAdd, Nat.reduceMul, Nat.reduceSub, Nat.reduceBEq, Int.reduceLE, Int.reduceLT, Int.reduceToNat, Int.reduceNeg, Int.reduceEq, axt, ftK, ft3, pickP, AScope, AAll, pickQ, ftQ, inHeap, tys]
    exact ⟨_, rfl, 1, rfl⟩
  · simp (maxSteps := 400000) (dsimp := false) only [axs, AThen, ABlock, dstsOk, AStep, callsF, AWant, aop, AS.ev, AS.put, upd, AS.bound, abin, aint, aload, astore, cellsAt, AV.cells, alen, elems, AV.int?, FPost, aresL, ares1, pack, afill, splice, Value.oneCell', Nat.reduceLT, Nat.reduceLeDiff, Nat.reduceEqDiff, Nat.reduceAdd, Nat.reduceMul, Nat.reduceSub, Nat.reduceBEq, Int.reduceLE, Int.reduceLT, Int.reduceToNat, Int.reduceNeg, Int.reduceEq, axt, ftK, ft3, pickP, AScope, AAll, pickQ, ftQ, inHeap, tys]
    refine ACallK.heap _ rfl (cDeleteFunc l v hl _ _ (n + 1 + 1) n 35 35 (by omega) (upd_same _ _ _) ?_) ?_
    · simp [upd]; intro h; omega
    rintro r H' n' ⟨es, rfl, rfl, rfl⟩
    simp (maxSteps := 400000) (dsimp := false) only [axs, AThen, ABlock, dstsOk, AStep, callsF, AWant, aop, AS.ev, AS.put, upd, AS.bound, abin, aint, aload, astore, cellsAt, AV.cells, alen, elems, AV.int?, FPost, aresL, ares1, pack, afill, splice, Value.oneCell', Nat.reduceLT, Nat.reduceLeDiff, Nat.reduceEqDiff, Nat.reduceAdd, Nat.reduceMul, Nat.reduceSub, Nat.reduceBEq, Int.reduceLE, Int.reduceLT, Int.reduceToNat, Int.reduceNeg, Int.reduceEq, axt, ftK, ft3, pickP, AScope, AAll, pickQ, ftQ, inHeap, tys]
    exact ⟨_, rfl, 1, seen_sl (upd_same _ _ _)⟩
theorem cHas (l : List Int) (v : Int) (hl : l.length ≤ 1000000) : PCalls Try.prog 36 [.lst 1 (U l), .sc (.int .u64 v)] (.sc (.bool (decide (v ∈ l)))) := by
  refine PCalls.walk Try.func36 rfl rfl Try.ntmps36 Try.results36 (by simp) fun n => ?_; simp (maxSteps := 400000) (dsimp := false) only [axs, AThen, ABlock, dstsOk, AStep, callsF, AWant, aop, AS.ev, AS.put, upd, AS.bound, abin, aint, aload, astore, cellsAt, AV.cells, alen, elems, AV.int?, FPost, aresL, ares1, pack, afill, splice, Value.oneCell', Nat.reduceLT, Nat.reduceLeDiff, Nat.reduceEqDiff, Nat.reduceAdd, Nat.reduceMul, Nat.reduceSub, Nat.reduceBEq, Int.reduceLE, Int.reduceLT, Int.reduceToNat, Int.reduceNeg, Int.reduceEq, axt, ftK, ft3, pickP, AScope, AAll, pickQ, ftQ, inHeap, tys]
  refine ACallK.pure 1 rfl (by first | rfl | simp [AS.ev, upd, seen, noIds, noIdsL, noIdsE, noIdsE_U]) (cContains l v (by omega)) ?_; simp (maxSteps := 400000) (dsimp := false) only [axs, AThen, ABlock, dstsOk, AStep, callsF, AWant, aop, AS.ev, AS.put, upd, AS.bound, abin, aint, aload, astore, cellsAt, AV.cells, alen, elems, AV.int?, FPost, aresL, ares1, pack, afill, splice, Value.oneCell', Nat.reduceLT, Nat.reduceLeDiff, Nat.reduceEqDiff, Nat.reduceAdd, Nat.reduceMul, Nat.reduceSub, Nat.reduceBEq, Int.reduceLE, Int.reduceLT, Int.reduceToNat, Int.reduceNeg, Int.reduceEq, axt, ftK, ft3, pickP, AScope, AAll, pickQ, ftQ, inHeap, tys]
  exact endsc _ _
end Go.Al
