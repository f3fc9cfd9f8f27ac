/- seq.Front, seq.Without, seq.Has as pure calls. Conditions: the row has a million elements at most. -/
import Derived.Test.YtbdcmgcphhbpiaaSq6
set_option linter.unusedVariables false
set_option linter.unusedSimpArgs false
namespace Go.Al
open Go.Proofs
theorem without_len (l : List Int) (v : Int) : (without l v).length ≤ l.length := List.length_filter_le _ _
theorem seen_row {H : AH} {id te : Nat} {l : List Int} (h : H id = some (.obj te 1 (U l) false)) : seen H true 1 (.sl id 1 0 l.length) = some (.lst 1 (U l)) :=
  seen_sl (es := []) (by rw [List.append_nil]; exact h)
theorem cFront (l : List Int) (v : Int) (hl : l.length ≤ 1000000) : PCalls Try.prog 35 [.lst 1 (U l), .sc (.int .u64 v)] (.lst 1 (U (v :: without l v))) := by
  refine PCalls.walk Try.func35 rfl rfl Try.ntmps35 Try.results35 (by simp) fun n => ?_; simp (maxSteps := 400000) (dsimp := false) only [axs, AThen, ABlock, dstsOk, AStep, callsF, AWant, aop, AS.ev, AS.put, upd, AS.bound, abin, aint, aload, astore, cellsAt, AV.cells, alen, elems, AV.int?, FPost, aresL, ares1, pack, afill, splice, Value.oneCell', Nat.reduceLT, Nat.reduceLeDiff, Nat.reduceEqDiff, Nat.reduceAdd, Nat.reduceMul, Nat.reduceSub, Nat.reduceBEq, Int.reduceLE, Int.reduceLT, Int.reduceToNat, Int.reduceNeg, Int.reduceEq, axt, ftK, pickP, AScope, AAll, pickQ, ftQ, inHeap, tys]
  refine ACallK.heap _ rfl (cWithoutX l v hl _ _) ?_
  rintro r H' n' (⟨h1, rfl⟩ | ⟨id, h1, h2, rfl, h3⟩)
  · simp (maxSteps := 400000) (dsimp := false) only [axs, AThen, ABlock, dstsOk, AStep, callsF, AWant, aop, AS.ev, AS.put, upd, AS.bound, abin, aint, aload, astore, cellsAt, AV.cells, alen, elems, AV.int?, FPost, aresL, ares1, pack, afill, splice, Value.oneCell', Nat.reduceLT, Nat.reduceLeDiff, Nat.reduceEqDiff, Nat.reduceAdd, Nat.reduceMul, Nat.reduceSub, Nat.reduceBEq, Int.reduceLE, Int.reduceLT, Int.reduceToNat, Int.reduceNeg, Int.reduceEq, axt, ftK, pickP, AScope, AAll, pickQ, ftQ, inHeap, tys]
    refine ACallK.heap _ rfl (cInsertNil v _ _ n' (upd_same _ _ _)) ?_
    rintro r H2 n2 ⟨id, rfl, h4⟩
    simp (maxSteps := 400000) (dsimp := false) only [h1, axs, AThen, ABlock, dstsOk, AStep, callsF, AWant, aop, AS.ev, AS.put, upd, AS.bound, abin, aint, aload, astore, cellsAt, AV.cells, alen, elems, AV.int?, FPost, aresL, ares1, pack, afill, splice, Value.oneCell', Nat.reduceLT, Nat.reduceLeDiff, Nat.reduceEqDiff, Nat.reduceAdd, Nat.reduceMul, Nat.reduceSub, Nat.reduceBEq, Int.reduceLE, Int.reduceLT, Int.reduceToNat, Int.reduceNeg, Int.reduceEq, axt, ftK, pickP, AScope, AAll, pickQ, ftQ, inHeap, tys]
    exact ⟨_, rfl, 1, seen_row h4⟩
  · simp (maxSteps := 400000) (dsimp := false) only [axs, AThen, ABlock, dstsOk, AStep, callsF, AWant, aop, AS.ev, AS.put, upd, AS.bound, abin, aint, aload, astore, cellsAt, AV.cells, alen, elems, AV.int?, FPost, aresL, ares1, pack, afill, splice, Value.oneCell', Nat.reduceLT, Nat.reduceLeDiff, Nat.reduceEqDiff, Nat.reduceAdd, Nat.reduceMul, Nat.reduceSub, Nat.reduceBEq, Int.reduceLE, Int.reduceLT, Int.reduceToNat, Int.reduceNeg, Int.reduceEq, axt, ftK, pickP, AScope, AAll, pickQ, ftQ, inHeap, tys]
    by_cases h5 : without l v = []
    · rw [h5] at h3 ⊢
      refine ACallK.heap _ rfl (cInsertEmpty v _ _ n' id (by omega) ?_ (upd_same _ _ _)) ?_
      · show upd H' n' _ id = _
        rw [upd_ne _ _ (by omega)]; exact h3
      rintro r H2 n2 ⟨id, rfl, h4⟩
      simp (maxSteps := 400000) (dsimp := false) only [axs, AThen, ABlock, dstsOk, AStep, callsF, AWant, aop, AS.ev, AS.put, upd, AS.bound, abin, aint, aload, astore, cellsAt, AV.cells, alen, elems, AV.int?, FPost, aresL, ares1, pack, afill, splice, Value.oneCell', Nat.reduceLT, Nat.reduceLeDiff, Nat.reduceEqDiff, Nat.reduceAdd, Nat.reduceMul, Nat.reduceSub, Nat.reduceBEq, Int.reduceLE, Int.reduceLT, Int.reduceToNat, Int.reduceNeg, Int.reduceEq, axt, ftK, pickP, AScope, AAll, pickQ, ftQ, inHeap, tys]
      exact ⟨_, rfl, 1, seen_row h4⟩
    · refine ACallK.heap _ rfl (cInsertRow (without l v) v h5 (Nat.le_trans (without_len l v) hl) _ _ n' id (by omega) (Nat.lt_succ_self _) (Nat.lt_succ_of_lt h2) ?_ (upd_same _ _ _)) ?_
      · show upd H' n' _ id = _
        rw [upd_ne _ _ (by omega)]; exact h3
      rintro r H2 n2 ⟨id, rfl, h4⟩
      simp (maxSteps := 400000) (dsimp := false) only [axs, AThen, ABlock, dstsOk, AStep, callsF, AWant, aop, AS.ev, AS.put, upd, AS.bound, abin, aint, aload, astore, cellsAt, AV.cells, alen, elems, AV.int?, FPost, aresL, ares1, pack, afill, splice, Value.oneCell', Nat.reduceLT, Nat.reduceLeDiff, Nat.reduceEqDiff, Nat.reduceAdd, Nat.reduceMul, Nat.reduceSub, Nat.reduceBEq, Int.reduceLE, Int.reduceLT, Int.reduceToNat, Int.reduceNeg, Int.reduceEq, axt, ftK, pickP, AScope, AAll, pickQ, ftQ, inHeap, tys]
      exact ⟨_, rfl, 1, seen_row h4⟩
theorem cWithout (l : List Int) (v : Int) (hl : l.length ≤ 1000000) : PCalls Try.prog 36 [.lst 1 (U l), .sc (.int .u64 v)] (.lst 1 (U (without l v))) := by
  refine PCalls.walk Try.func36 rfl rfl Try.ntmps36 Try.results36 (by simp) fun n => ?_; simp (maxSteps := 400000) (dsimp := false) only [axs, AThen, ABlock, dstsOk, AStep, callsF, AWant, aop, AS.ev, AS.put, upd, AS.bound, abin, aint, aload, astore, cellsAt, AV.cells, alen, elems, AV.int?, FPost, aresL, ares1, pack, afill, splice, Value.oneCell', Nat.reduceLT, Nat.reduceLeDiff, Nat.reduceEqDiff, Nat.reduceAdd, Nat.reduceMul, Nat.reduceSub, Nat.reduceBEq, Int.reduceLE, Int.reduceLT, Int.reduceToNat, Int.reduceNeg, Int.reduceEq, axt, ftK, pickP, AScope, AAll, pickQ, ftQ, inHeap, tys]
  refine ACallK.heap _ rfl (cClone l hl _ _) ?_
  rintro r H' n' (⟨rfl, rfl, rfl, rfl⟩ | ⟨rfl, rfl, rfl⟩)
  · simp (maxSteps := 400000) (dsimp := false) only [axs, AThen, ABlock, dstsOk, AStep, callsF, AWant, aop, AS.ev, AS.put, upd, AS.bound, abin, aint, aload, astore, cellsAt, AV.cells, alen, elems, AV.int?, FPost, aresL, ares1, pack, afill, splice, Value.oneCell', Nat.reduceLT, Nat.reduceLeDiff, Nat.reduceEqDiff, Nat.reduceAdd, Nat.reduceMul, Nat.reduceSub, Nat.reduceBEq, Int.reduceLE, Int.reduceLT, Int.reduceToNat, Int.reduceNeg, Int.reduceEq, axt, ftK, pickP, AScope, AAll, pickQ, ftQ, inHeap, tys]
    refine ACallK.heap (fun r H' n' => r = .lst 1 []) rfl ((cDeleteNil _ _ _).nil fun r H' n' h => .inr ⟨h.1, 1, rfl⟩) ?_
    rintro r H' n' rfl
    simp (maxSteps := 400000) (dsimp := false) only [axs, AThen, ABlock, dstsOk, AStep, callsF, AWant, aop, AS.ev, AS.put, upd, AS.bound, abin, aint, aload, astore, cellsAt, AV.cells, alen, elems, AV.int?, FPost, aresL, ares1, pack, afill, splice, Value.oneCell', Nat.reduceLT, Nat.reduceLeDiff, Nat.reduceEqDiff, Nat.reduceAdd, Nat.reduceMul, Nat.reduceSub, Nat.reduceBEq, Int.reduceLE, Int.reduceLT, Int.reduceToNat, Int.reduceNeg, Int.reduceEq, axt, ftK, pickP, AScope, AAll, pickQ, ftQ, inHeap, tys]
    exact ⟨_, rfl, 1, rfl⟩
  · simp (maxSteps := 400000) (dsimp := false) only [axs, AThen, ABlock, dstsOk, AStep, callsF, AWant, aop, AS.ev, AS.put, upd, AS.bound, abin, aint, aload, astore, cellsAt, AV.cells, alen, elems, AV.int?, FPost, aresL, ares1, pack, afill, splice, Value.oneCell', Nat.reduceLT, Nat.reduceLeDiff, Nat.reduceEqDiff, Nat.reduceAdd, Nat.reduceMul, Nat.reduceSub, Nat.reduceBEq, Int.reduceLE, Int.reduceLT, Int.reduceToNat, Int.reduceNeg, Int.reduceEq, axt, ftK, pickP, AScope, AAll, pickQ, ftQ, inHeap, tys]
    refine ACallK.heap _ rfl (cDeleteFunc l v hl _ _ (n + 1 + 1) n 34 34 (by omega) (upd_same _ _ _) ?_) ?_
    · simp [upd]; intro h; omega
    rintro r H' n' ⟨es, rfl, rfl, rfl⟩
    simp (maxSteps := 400000) (dsimp := false) only [axs, AThen, ABlock, dstsOk, AStep, callsF, AWant, aop, AS.ev, AS.put, upd, AS.bound, abin, aint, aload, astore, cellsAt, AV.cells, alen, elems, AV.int?, FPost, aresL, ares1, pack, afill, splice, Value.oneCell', Nat.reduceLT, Nat.reduceLeDiff, Nat.reduceEqDiff, Nat.reduceAdd, Nat.reduceMul, Nat.reduceSub, Nat.reduceBEq, Int.reduceLE, Int.reduceLT, Int.reduceToNat, Int.reduceNeg, Int.reduceEq, axt, ftK, pickP, AScope, AAll, pickQ, ftQ, inHeap, tys]
    exact ⟨_, rfl, 1, seen_sl (upd_same _ _ _)⟩
theorem cHas (l : List Int) (v : Int) (hl : l.length ≤ 1000000) : PCalls Try.prog 33 [.lst 1 (U l), .sc (.int .u64 v)] (.sc (.bool (decide (v ∈ l)))) := by
  refine PCalls.walk Try.func33 rfl rfl Try.ntmps33 Try.results33 (by simp) fun n => ?_; simp (maxSteps := 400000) (dsimp := false) only [axs, AThen, ABlock, dstsOk, AStep, callsF, AWant, aop, AS.ev, AS.put, upd, AS.bound, abin, aint, aload, astore, cellsAt, AV.cells, alen, elems, AV.int?, FPost, aresL, ares1, pack, afill, splice, Value.oneCell', Nat.reduceLT, Nat.reduceLeDiff, Nat.reduceEqDiff, Nat.reduceAdd, Nat.reduceMul, Nat.reduceSub, Nat.reduceBEq, Int.reduceLE, Int.reduceLT, Int.reduceToNat, Int.reduceNeg, Int.reduceEq, axt, ftK, pickP, AScope, AAll, pickQ, ftQ, inHeap, tys]
  refine ACallK.pure 1 rfl (by first | rfl | simp [AS.ev, upd, seen, noIds, noIdsL, noIdsE, noIdsE_U]) (cContains l v (by omega)) ?_; simp (maxSteps := 400000) (dsimp := false) only [axs, AThen, ABlock, dstsOk, AStep, callsF, AWant, aop, AS.ev, AS.put, upd, AS.bound, abin, aint, aload, astore, cellsAt, AV.cells, alen, elems, AV.int?, FPost, aresL, ares1, pack, afill, splice, Value.oneCell', Nat.reduceLT, Nat.reduceLeDiff, Nat.reduceEqDiff, Nat.reduceAdd, Nat.reduceMul, Nat.reduceSub, Nat.reduceBEq, Int.reduceLE, Int.reduceLT, Int.reduceToNat, Int.reduceNeg, Int.reduceEq, axt, ftK, pickP, AScope, AAll, pickQ, ftQ, inHeap, tys]
  exact endsc _ _
end Go.Al
