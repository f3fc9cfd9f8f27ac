/- Lists of places, by the program: tags, fronts, backs, neighbours. Conditions: the rows are short. -/
import Derived.Test.YtdebjhjnpomlmaaIn5
set_option linter.unusedVariables false
set_option linter.unusedSimpArgs false
set_option maxRecDepth 20000
set_option maxHeartbeats 1600000
-- axs, AThen, ABlock, dstsOk, AStep, callsF, AWant, aop, AS.ev, AS.put, upd, AS.bound, abin, aint, aload, astore, cellsAt, AV.cells, alen, elems, AV.int?, FPost, aresL, ares1, pack, afill, splice, Value.oneCell', Nat.reduceLT, Nat.reduceLeDiff, Nat.reduceEqDiff, Nat.reduceAdd, Nat.reduceMul, Nat.reduceSub, Nat.reduceBEq, Int.reduceLE, Int.reduceLT, Int.reduceToNat, Int.reduceNeg, Int.reduceEq, axt, ftK, ft3, pickP, AScope, AAll, pickQ, ftQ, inHeap, Nd.cells, tys: Nd.cells
namespace Go.Al
open Go.Proofs
theorem cLsTag {H : AH} {n L r a s : Nat} {fv : AV} {R : RA} {rows : List Rw} (h : LsH H n L r a s fv R rows) (ok : RaOk R) (i : Int) (hi : I32ok i) (h0 : 0 ≤ (raAt R i).tag) (h1 : (raAt R i).tag ≤ 1000) :
    HCalls Try.prog 44 [.ptr L 2 0 0, .sc (.int .i32 i)] H n fun v H' n' => v = .sc (.int .i64 ((raAt R i).tag - 1)) ∧ H' = upd H n (some (.obj 82 6 [(raAt R i).cells] false)) ∧ n' = n + 1 := by
  have hL := h.hL
  have w : IntKind.i64.wrap ((raAt R i).tag + -1) = (raAt R i).tag - 1 := by rw [IntWalk.i64_in _ ⟨by omega, by omega⟩]; omega
  refine HCalls.walk Try.func44 rfl rfl Try.ntmps44 Try.results44 (by simp) ?_; simp (maxSteps := 400000) (dsimp := false) only [hL, axs, AThen, ABlock, dstsOk, AStep, callsF, AWant, aop, AS.ev, AS.put, upd, AS.bound, abin, aint, aload, astore, cellsAt, AV.cells, alen, elems, AV.int?, FPost, aresL, ares1, pack, afill, splice, Value.oneCell', Nat.reduceLT, Nat.reduceLeDiff, Nat.reduceEqDiff, Nat.reduceAdd, Nat.reduceMul, Nat.reduceSub, Nat.reduceBEq, Int.reduceLE, Int.reduceLT, Int.reduceToNat, Int.reduceNeg, Int.reduceEq, axt, ftK, ft3, pickP, AScope, AAll, pickQ, ftQ, inHeap, Nd.cells, tys]
  refine ACallK.heap _ rfl (cRAt h.ar ok i hi) ?_; rintro r' H' n' ⟨rfl, eH, en⟩; obtain rfl := eH.symm; obtain rfl := en.symm; clear eH en; simp (maxSteps := 400000) (dsimp := false) only [w, axs, AThen, ABlock, dstsOk, AStep, callsF, AWant, aop, AS.ev, AS.put, upd, AS.bound, abin, aint, aload, astore, cellsAt, AV.cells, alen, elems, AV.int?, FPost, aresL, ares1, pack, afill, splice, Value.oneCell', Nat.reduceLT, Nat.reduceLeDiff, Nat.reduceEqDiff, Nat.reduceAdd, Nat.reduceMul, Nat.reduceSub, Nat.reduceBEq, Int.reduceLE, Int.reduceLT, Int.reduceToNat, Int.reduceNeg, Int.reduceEq, axt, ftK, ft3, pickP, AScope, AAll, pickQ, ftQ, inHeap, Nd.cells, tys]
  exact ⟨_, rfl, rfl⟩
theorem cLsFront {H : AH} {n L r a s : Nat} {fv : AV} {R : RA} {rows : List Rw} (h : LsH H n L r a s fv R rows) (t : Int) :
    HCalls Try.prog 52 [.ptr L 2 0 0, .sc (.int .i64 t)] H n fun v H' n' => v = .sc (.int .i32 (if 0 ≤ t ∧ t < rows.length then (rows.getD t.toNat r0).f else 0)) ∧ H' = H ∧ n' = n := by
  have hr := h.hr
  by_cases hc : 0 ≤ t ∧ t < rows.length
  · have hp : lsP r rows.length t = .ptr r 3 t.toNat 0 := if_pos hc
    have hlt : t.toNat < rows.length := by omega
    have hg := RW_get (l := rows) (p := t.toNat) (x := rows.getD t.toNat r0) (by rw [List.getD_eq_getElem?_getD, List.getElem?_eq_getElem hlt]; rfl)
    rw [if_pos hc]
    refine HCalls.walk Try.func52 rfl rfl Try.ntmps52 Try.results52 (by simp) ?_; simp (maxSteps := 400000) (dsimp := false) only [axs, AThen, ABlock, dstsOk, AStep, callsF, AWant, aop, AS.ev, AS.put, upd, AS.bound, abin, aint, aload, astore, cellsAt, AV.cells, alen, elems, AV.int?, FPost, aresL, ares1, pack, afill, splice, Value.oneCell', Nat.reduceLT, Nat.reduceLeDiff, Nat.reduceEqDiff, Nat.reduceAdd, Nat.reduceMul, Nat.reduceSub, Nat.reduceBEq, Int.reduceLE, Int.reduceLT, Int.reduceToNat, Int.reduceNeg, Int.reduceEq, axt, ftK, ft3, pickP, AScope, AAll, pickQ, ftQ, inHeap, Nd.cells, tys]
    refine ACallK.heap _ rfl (cLsList h t) ?_; rintro r' H' n' ⟨rfl, eH, en⟩; obtain rfl := eH.symm; obtain rfl := en.symm; clear eH en; simp (maxSteps := 400000) (dsimp := false) only [hp, hr, hg, axs, AThen, ABlock, dstsOk, AStep, callsF, AWant, aop, AS.ev, AS.put, upd, AS.bound, abin, aint, aload, astore, cellsAt, AV.cells, alen, elems, AV.int?, FPost, aresL, ares1, pack, afill, splice, Value.oneCell', Nat.reduceLT, Nat.reduceLeDiff, Nat.reduceEqDiff, Nat.reduceAdd, Nat.reduceMul, Nat.reduceSub, Nat.reduceBEq, Int.reduceLE, Int.reduceLT, Int.reduceToNat, Int.reduceNeg, Int.reduceEq, axt, ftK, ft3, pickP, AScope, AAll, pickQ, ftQ, inHeap, Nd.cells, tys]
    exact ⟨_, rfl, rfl⟩
  · have hp : lsP r rows.length t = .sc (.pointer none) := if_neg hc
    rw [if_neg hc]
    refine HCalls.walk Try.func52 rfl rfl Try.ntmps52 Try.results52 (by simp) ?_; simp (maxSteps := 400000) (dsimp := false) only [axs, AThen, ABlock, dstsOk, AStep, callsF, AWant, aop, AS.ev, AS.put, upd, AS.bound, abin, aint, aload, astore, cellsAt, AV.cells, alen, elems, AV.int?, FPost, aresL, ares1, pack, afill, splice, Value.oneCell', Nat.reduceLT, Nat.reduceLeDiff, Nat.reduceEqDiff, Nat.reduceAdd, Nat.reduceMul, Nat.reduceSub, Nat.reduceBEq, Int.reduceLE, Int.reduceLT, Int.reduceToNat, Int.reduceNeg, Int.reduceEq, axt, ftK, ft3, pickP, AScope, AAll, pickQ, ftQ, inHeap, Nd.cells, tys]
    refine ACallK.heap _ rfl (cLsList h t) ?_; rintro r' H' n' ⟨rfl, eH, en⟩; obtain rfl := eH.symm; obtain rfl := en.symm; clear eH en; simp (maxSteps := 400000) (dsimp := false) only [hp, axs, AThen, ABlock, dstsOk, AStep, callsF, AWant, aop, AS.ev, AS.put, upd, AS.bound, abin, aint, aload, astore, cellsAt, AV.cells, alen, elems, AV.int?, FPost, aresL, ares1, pack, afill, splice, Value.oneCell', Nat.reduceLT, Nat.reduceLeDiff, Nat.reduceEqDiff, Nat.reduceAdd, Nat.reduceMul, Nat.reduceSub, Nat.reduceBEq, Int.reduceLE, Int.reduceLT, Int.reduceToNat, Int.reduceNeg, Int.reduceEq, axt, ftK, ft3, pickP, AScope, AAll, pickQ, ftQ, inHeap, Nd.cells, tys]
    exact ⟨_, rfl, rfl⟩
theorem cLsBack {H : AH} {n L r a s : Nat} {fv : AV} {R : RA} {rows : List Rw} (h : LsH H n L r a s fv R rows) (t : Int) :
    HCalls Try.prog 53 [.ptr L 2 0 0, .sc (.int .i64 t)] H n fun v H' n' => v = .sc (.int .i32 (if 0 ≤ t ∧ t < rows.length then (rows.getD t.toNat r0).b else 0)) ∧ H' = H ∧ n' = n := by
  have hr := h.hr
  by_cases hc : 0 ≤ t ∧ t < rows.length
  · have hp : lsP r rows.length t = .ptr r 3 t.toNat 0 := if_pos hc
    have hlt : t.toNat < rows.length := by omega
    have hg := RW_get (l := rows) (p := t.toNat) (x := rows.getD t.toNat r0) (by rw [List.getD_eq_getElem?_getD, List.getElem?_eq_getElem hlt]; rfl)
    rw [if_pos hc]
    refine HCalls.walk Try.func53 rfl rfl Try.ntmps53 Try.results53 (by simp) ?_; simp (maxSteps := 400000) (dsimp := false) only [axs, AThen, ABlock, dstsOk, AStep, callsF, AWant, aop, AS.ev, AS.put, upd, AS.bound, abin, aint, aload, astore, cellsAt, AV.cells, alen, elems, AV.int?, FPost, aresL, ares1, pack, afill, splice, Value.oneCell', Nat.reduceLT, Nat.reduceLeDiff, Nat.reduceEqDiff, Nat.reduceAdd, Nat.reduceMul, Nat.reduceSub, Nat.reduceBEq, Int.reduceLE, Int.reduceLT, Int.reduceToNat, Int.reduceNeg, Int.reduceEq, axt, ftK, ft3, pickP, AScope, AAll, pickQ, ftQ, inHeap, Nd.cells, tys]
    refine ACallK.heap _ rfl (cLsList h t) ?_; rintro r' H' n' ⟨rfl, eH, en⟩; obtain rfl := eH.symm; obtain rfl := en.symm; clear eH en; simp (maxSteps := 400000) (dsimp := false) only [hp, hr, hg, axs, AThen, ABlock, dstsOk, AStep, callsF, AWant, aop, AS.ev, AS.put, upd, AS.bound, abin, aint, aload, astore, cellsAt, AV.cells, alen, elems, AV.int?, FPost, aresL, ares1, pack, afill, splice, Value.oneCell', Nat.reduceLT, Nat.reduceLeDiff, Nat.reduceEqDiff, Nat.reduceAdd, Nat.reduceMul, Nat.reduceSub, Nat.reduceBEq, Int.reduceLE, Int.reduceLT, Int.reduceToNat, Int.reduceNeg, Int.reduceEq, axt, ftK, ft3, pickP, AScope, AAll, pickQ, ftQ, inHeap, Nd.cells, tys]
    exact ⟨_, rfl, rfl⟩
  · have hp : lsP r rows.length t = .sc (.pointer none) := if_neg hc
    rw [if_neg hc]
    refine HCalls.walk Try.func53 rfl rfl Try.ntmps53 Try.results53 (by simp) ?_; simp (maxSteps := 400000) (dsimp := false) only [axs, AThen, ABlock, dstsOk, AStep, callsF, AWant, aop, AS.ev, AS.put, upd, AS.bound, abin, aint, aload, astore, cellsAt, AV.cells, alen, elems, AV.int?, FPost, aresL, ares1, pack, afill, splice, Value.oneCell', Nat.reduceLT, Nat.reduceLeDiff, Nat.reduceEqDiff, Nat.reduceAdd, Nat.reduceMul, Nat.reduceSub, Nat.reduceBEq, Int.reduceLE, Int.reduceLT, Int.reduceToNat, Int.reduceNeg, Int.reduceEq, axt, ftK, ft3, pickP, AScope, AAll, pickQ, ftQ, inHeap, Nd.cells, tys]
    refine ACallK.heap _ rfl (cLsList h t) ?_; rintro r' H' n' ⟨rfl, eH, en⟩; obtain rfl := eH.symm; obtain rfl := en.symm; clear eH en; simp (maxSteps := 400000) (dsimp := false) only [hp, axs, AThen, ABlock, dstsOk, AStep, callsF, AWant, aop, AS.ev, AS.put, upd, AS.bound, abin, aint, aload, astore, cellsAt, AV.cells, alen, elems, AV.int?, FPost, aresL, ares1, pack, afill, splice, Value.oneCell', Nat.reduceLT, Nat.reduceLeDiff, Nat.reduceEqDiff, Nat.reduceAdd, Nat.reduceMul, Nat.reduceSub, Nat.reduceBEq, Int.reduceLE, Int.reduceLT, Int.reduceToNat, Int.reduceNeg, Int.reduceEq, axt, ftK, ft3, pickP, AScope, AAll, pickQ, ftQ, inHeap, Nd.cells, tys]
    exact ⟨_, rfl, rfl⟩
end Go.Al
