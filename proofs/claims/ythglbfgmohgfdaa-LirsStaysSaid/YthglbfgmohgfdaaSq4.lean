/- What seq.Without comes to. Conditions: the row has a million elements at most. -/
import Derived.Test.YthglbfgmohgfdaaSq3
set_option linter.unusedVariables false
set_option linter.unusedSimpArgs false
namespace Go.Al
open Go.Proofs
theorem cIndexFuncNil (H : AH) (n : Nat) (f : AV) : HCalls Try.prog 79 [.sc (.slice none 0 0), f] H n fun r H' n' => r = .sc (.int .i64 (-1)) ∧ H' = H ∧ n' = n := by
  refine HCalls.walk Try.func79 rfl rfl Try.ntmps79 Try.results79 (by simp) ?_; simp (maxSteps := 400000) (dsimp := false) only [axs, AThen, ABlock, dstsOk, AStep, callsF, AWant, aop, AS.ev, AS.put, upd, AS.bound, abin, aint, aload, astore, cellsAt, AV.cells, alen, elems, AV.int?, FPost, aresL, ares1, pack, afill, splice, Value.oneCell', Nat.reduceLT, Nat.reduceLeDiff, Nat.reduceEqDiff, Nat.reduceAdd, Nat.reduceMul, Nat.reduceSub, Nat.reduceBEq, Int.reduceLE, Int.reduceLT, Int.reduceToNat, Int.reduceNeg, Int.reduceEq, axt, ftK, ft3, pickP, AScope, AAll, pickQ, ftQ, inHeap, tys]
  refine ALoop.intro (fun k s => s.t 7 = .sc (.int .i64 0) ∧ s.t 8 = .sc (.int .i64 0) ∧ s.H = H ∧ s.n = n) 0 ⟨rfl, rfl, rfl, rfl⟩ ?_
  rintro k s ⟨h7, h8, hH, hn⟩
  simp (maxSteps := 400000) (dsimp := false) only [h7, h8, hH, hn, axs, AThen, ABlock, dstsOk, AStep, callsF, AWant, aop, AS.ev, AS.put, upd, AS.bound, abin, aint, aload, astore, cellsAt, AV.cells, alen, elems, AV.int?, FPost, aresL, ares1, pack, afill, splice, Value.oneCell', Nat.reduceLT, Nat.reduceLeDiff, Nat.reduceEqDiff, Nat.reduceAdd, Nat.reduceMul, Nat.reduceSub, Nat.reduceBEq, Int.reduceLE, Int.reduceLT, Int.reduceToNat, Int.reduceNeg, Int.reduceEq, axt, ftK, ft3, pickP, AScope, AAll, pickQ, ftQ, inHeap, tys]
  exact ⟨_, rfl, rfl⟩
theorem cDeleteNil (H : AH) (n : Nat) (f : AV) : HCalls Try.prog 67 [.sc (.slice none 0 0), f] H n fun r H' n' => r = .sc (.slice none 0 0) ∧ H' = H ∧ n' = n := by
  refine HCalls.walk Try.func67 rfl rfl Try.ntmps67 Try.results67 (by simp) ?_; simp (maxSteps := 400000) (dsimp := false) only [axs, AThen, ABlock, dstsOk, AStep, callsF, AWant, aop, AS.ev, AS.put, upd, AS.bound, abin, aint, aload, astore, cellsAt, AV.cells, alen, elems, AV.int?, FPost, aresL, ares1, pack, afill, splice, Value.oneCell', Nat.reduceLT, Nat.reduceLeDiff, Nat.reduceEqDiff, Nat.reduceAdd, Nat.reduceMul, Nat.reduceSub, Nat.reduceBEq, Int.reduceLE, Int.reduceLT, Int.reduceToNat, Int.reduceNeg, Int.reduceEq, axt, ftK, ft3, pickP, AScope, AAll, pickQ, ftQ, inHeap, tys]
  refine ACallK.heap _ rfl (cIndexFuncNil H n f) ?_
  rintro r H' n' ⟨rfl, rfl, rfl⟩
  simp (maxSteps := 400000) (dsimp := false) only [axs, AThen, ABlock, dstsOk, AStep, callsF, AWant, aop, AS.ev, AS.put, upd, AS.bound, abin, aint, aload, astore, cellsAt, AV.cells, alen, elems, AV.int?, FPost, aresL, ares1, pack, afill, splice, Value.oneCell', Nat.reduceLT, Nat.reduceLeDiff, Nat.reduceEqDiff, Nat.reduceAdd, Nat.reduceMul, Nat.reduceSub, Nat.reduceBEq, Int.reduceLE, Int.reduceLT, Int.reduceToNat, Int.reduceNeg, Int.reduceEq, axt, ftK, ft3, pickP, AScope, AAll, pickQ, ftQ, inHeap, tys]
  exact ⟨_, rfl, rfl⟩
def WithoutR (l : List Int) (v : Int) (n : Nat) (r : AV) (H' : AH) (n' : Nat) : Prop :=
  (without l v = [] ∧ r = .sc (.slice none 0 0)) ∨ ∃ id es, n ≤ id ∧ id < n' ∧ r = .sl id 1 0 (without l v).length ∧ H' id = some (.obj 35 1 (U (without l v) ++ es) false)
theorem cWithoutH (l : List Int) (v : Int) (hl : l.length ≤ 1000000) (H : AH) (n : Nat) :
    HCalls Try.prog 42 [.lst 1 (U l), .sc (.int .u64 v)] H n (WithoutR l v n) := by
  refine HCalls.walk Try.func42 rfl rfl Try.ntmps42 Try.results42 (by simp) ?_; simp (maxSteps := 400000) (dsimp := false) only [axs, AThen, ABlock, dstsOk, AStep, callsF, AWant, aop, AS.ev, AS.put, upd, AS.bound, abin, aint, aload, astore, cellsAt, AV.cells, alen, elems, AV.int?, FPost, aresL, ares1, pack, afill, splice, Value.oneCell', Nat.reduceLT, Nat.reduceLeDiff, Nat.reduceEqDiff, Nat.reduceAdd, Nat.reduceMul, Nat.reduceSub, Nat.reduceBEq, Int.reduceLE, Int.reduceLT, Int.reduceToNat, Int.reduceNeg, Int.reduceEq, axt, ftK, ft3, pickP, AScope, AAll, pickQ, ftQ, inHeap, tys]
  refine ACallK.heap _ rfl (cClone l hl _ _) ?_
  rintro r H' n' (⟨rfl, rfl, rfl, rfl⟩ | ⟨rfl, rfl, rfl⟩)
  · simp (maxSteps := 400000) (dsimp := false) only [axs, AThen, ABlock, dstsOk, AStep, callsF, AWant, aop, AS.ev, AS.put, upd, AS.bound, abin, aint, aload, astore, cellsAt, AV.cells, alen, elems, AV.int?, FPost, aresL, ares1, pack, afill, splice, Value.oneCell', Nat.reduceLT, Nat.reduceLeDiff, Nat.reduceEqDiff, Nat.reduceAdd, Nat.reduceMul, Nat.reduceSub, Nat.reduceBEq, Int.reduceLE, Int.reduceLT, Int.reduceToNat, Int.reduceNeg, Int.reduceEq, axt, ftK, ft3, pickP, AScope, AAll, pickQ, ftQ, inHeap, tys]
    refine ACallK.heap _ rfl (cDeleteNil _ _ _) ?_
    rintro r H' n' ⟨rfl, rfl, rfl⟩
    simp (maxSteps := 400000) (dsimp := false) only [axs, AThen, ABlock, dstsOk, AStep, callsF, AWant, aop, AS.ev, AS.put, upd, AS.bound, abin, aint, aload, astore, cellsAt, AV.cells, alen, elems, AV.int?, FPost, aresL, ares1, pack, afill, splice, Value.oneCell', Nat.reduceLT, Nat.reduceLeDiff, Nat.reduceEqDiff, Nat.reduceAdd, Nat.reduceMul, Nat.reduceSub, Nat.reduceBEq, Int.reduceLE, Int.reduceLT, Int.reduceToNat, Int.reduceNeg, Int.reduceEq, axt, ftK, ft3, pickP, AScope, AAll, pickQ, ftQ, inHeap, tys]
    exact ⟨_, rfl, .inl ⟨rfl, rfl⟩⟩
  · simp (maxSteps := 400000) (dsimp := false) only [axs, AThen, ABlock, dstsOk, AStep, callsF, AWant, aop, AS.ev, AS.put, upd, AS.bound, abin, aint, aload, astore, cellsAt, AV.cells, alen, elems, AV.int?, FPost, aresL, ares1, pack, afill, splice, Value.oneCell', Nat.reduceLT, Nat.reduceLeDiff, Nat.reduceEqDiff, Nat.reduceAdd, Nat.reduceMul, Nat.reduceSub, Nat.reduceBEq, Int.reduceLE, Int.reduceLT, Int.reduceToNat, Int.reduceNeg, Int.reduceEq, axt, ftK, ft3, pickP, AScope, AAll, pickQ, ftQ, inHeap, tys]
    refine ACallK.heap _ rfl (cDeleteFunc l v hl _ _ (n + 1 + 1) n 35 35 (by omega) (upd_same _ _ _) ?_) ?_
    · simp [upd]; intro h; omega
    rintro r H' n' ⟨es, rfl, rfl, rfl⟩
    simp (maxSteps := 400000) (dsimp := false) only [axs, AThen, ABlock, dstsOk, AStep, callsF, AWant, aop, AS.ev, AS.put, upd, AS.bound, abin, aint, aload, astore, cellsAt, AV.cells, alen, elems, AV.int?, FPost, aresL, ares1, pack, afill, splice, Value.oneCell', Nat.reduceLT, Nat.reduceLeDiff, Nat.reduceEqDiff, Nat.reduceAdd, Nat.reduceMul, Nat.reduceSub, Nat.reduceBEq, Int.reduceLE, Int.reduceLT, Int.reduceToNat, Int.reduceNeg, Int.reduceEq, axt, ftK, ft3, pickP, AScope, AAll, pickQ, ftQ, inHeap, tys]
    exact ⟨_, rfl, .inr ⟨n + 1 + 1, es, by omega, by omega, rfl, upd_same _ _ _⟩⟩
theorem seen_sl {H : AH} {id te : Nat} {l : List Int} {es : List (List AV)} (h : H id = some (.obj te 1 (U l ++ es) false)) : seen H true 1 (.sl id 1 0 l.length) = some (.lst 1 (U l)) := by
  have e : ((U l ++ es).drop 0).take l.length = U l := by
    rw [List.drop_zero, ← U_len l, List.take_left]
  simp only [seen, h, e, noIdsE_U]
  simp [U_len]
end Go.Al
