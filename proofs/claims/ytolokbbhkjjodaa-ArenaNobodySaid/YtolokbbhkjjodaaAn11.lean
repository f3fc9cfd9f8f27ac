/- Slots that are taken and freed: the laws answer true. Conditions: the numbers fit their kinds. -/
import Derived.Test.YtolokbbhkjjodaaAn10
set_option linter.unusedVariables false
set_option linter.unusedSimpArgs false
set_option maxRecDepth 20000
set_option maxHeartbeats 1600000
-- axs, AThen, ABlock, dstsOk, AStep, callsF, AWant, aop, AS.ev, AS.put, upd, AS.bound, abin, aint, aload, astore, cellsAt, AV.cells, alen, elems, AV.int?, FPost, aresL, ares1, pack, afill, splice, Value.oneCell', Nat.reduceLT, Nat.reduceLeDiff, Nat.reduceEqDiff, Nat.reduceAdd, Nat.reduceMul, Nat.reduceSub, Nat.reduceBEq, Int.reduceLE, Int.reduceLT, Int.reduceToNat, Int.reduceNeg, Int.reduceEq, axt, ftK, pickP, AScope, AAll, pickQ, ftQ, inHeap, RV, Nd.cells, tys: RV, Nd.cells
-- NOIDS: noIdsE_I32, noIdsE_ND, noIdsE_AA
-- LENS: I32_len, ND_len, AA_len
namespace Go.Al
open Go.Proofs
/-- Of an arena that is nil. -/
theorem cNilIs (i : Int) (H : AH) (n : Nat) : HCalls Try.prog 13 [.sc (.pointer none), .sc (.int .i32 i)] H n fun r H' n' => r = .sc (.bool false) ∧ H' = H ∧ n' = n := by
  refine HCalls.walk Try.func13 rfl rfl Try.ntmps13 Try.results13 (by simp) ?_; simp (maxSteps := 400000) (dsimp := false) only [axs, AThen, ABlock, dstsOk, AStep, callsF, AWant, aop, AS.ev, AS.put, upd, AS.bound, abin, aint, aload, astore, cellsAt, AV.cells, alen, elems, AV.int?, FPost, aresL, ares1, pack, afill, splice, Value.oneCell', Nat.reduceLT, Nat.reduceLeDiff, Nat.reduceEqDiff, Nat.reduceAdd, Nat.reduceMul, Nat.reduceSub, Nat.reduceBEq, Int.reduceLE, Int.reduceLT, Int.reduceToNat, Int.reduceNeg, Int.reduceEq, axt, ftK, pickP, AScope, AAll, pickQ, ftQ, inHeap, RV, Nd.cells, tys]
  exact ⟨_, rfl, rfl⟩
theorem cNilAt (i : Int) (H : AH) (n : Nat) : HCalls Try.prog 10 [.sc (.pointer none), .sc (.int .i32 i)] H n fun r H' n' => r = .agg nd0.cells ∧ H' = upd H n (some (.obj 33 6 [nd0.cells] false)) ∧ n' = n + 1 := by
  refine HCalls.walk Try.func10 rfl rfl Try.ntmps10 Try.results10 (by simp) ?_; simp (maxSteps := 400000) (dsimp := false) only [axs, AThen, ABlock, dstsOk, AStep, callsF, AWant, aop, AS.ev, AS.put, upd, AS.bound, abin, aint, aload, astore, cellsAt, AV.cells, alen, elems, AV.int?, FPost, aresL, ares1, pack, afill, splice, Value.oneCell', Nat.reduceLT, Nat.reduceLeDiff, Nat.reduceEqDiff, Nat.reduceAdd, Nat.reduceMul, Nat.reduceSub, Nat.reduceBEq, Int.reduceLE, Int.reduceLT, Int.reduceToNat, Int.reduceNeg, Int.reduceEq, axt, ftK, pickP, AScope, AAll, pickQ, ftQ, inHeap, RV, Nd.cells, tys]
  refine ACallK.heap _ rfl (cNilIs i _ _) ?_; rintro r' H' n' ⟨rfl, eH, en⟩; obtain rfl := eH.symm; obtain rfl := en.symm; clear eH en; simp (maxSteps := 400000) (dsimp := false) only [axs, AThen, ABlock, dstsOk, AStep, callsF, AWant, aop, AS.ev, AS.put, upd, AS.bound, abin, aint, aload, astore, cellsAt, AV.cells, alen, elems, AV.int?, FPost, aresL, ares1, pack, afill, splice, Value.oneCell', Nat.reduceLT, Nat.reduceLeDiff, Nat.reduceEqDiff, Nat.reduceAdd, Nat.reduceMul, Nat.reduceSub, Nat.reduceBEq, Int.reduceLE, Int.reduceLT, Int.reduceToNat, Int.reduceNeg, Int.reduceEq, axt, ftK, pickP, AScope, AAll, pickQ, ftQ, inHeap, RV, Nd.cells, tys]
  exact ⟨_, rfl, rfl, upd_upd _ _ _ _⟩
theorem cNilSet (i : Int) (x : Nd) (H : AH) (n : Nat) : HCalls Try.prog 20 [.sc (.pointer none), .sc (.int .i32 i), .agg x.cells] H n fun r H' n' => r = .sc (.bool false) ∧ H' = upd H n (some (.obj 33 6 [x.cells] false)) ∧ n' = n + 1 := by
  refine HCalls.walk Try.func20 rfl rfl Try.ntmps20 Try.results20 (by simp) ?_; simp (maxSteps := 400000) (dsimp := false) only [axs, AThen, ABlock, dstsOk, AStep, callsF, AWant, aop, AS.ev, AS.put, upd, AS.bound, abin, aint, aload, astore, cellsAt, AV.cells, alen, elems, AV.int?, FPost, aresL, ares1, pack, afill, splice, Value.oneCell', Nat.reduceLT, Nat.reduceLeDiff, Nat.reduceEqDiff, Nat.reduceAdd, Nat.reduceMul, Nat.reduceSub, Nat.reduceBEq, Int.reduceLE, Int.reduceLT, Int.reduceToNat, Int.reduceNeg, Int.reduceEq, axt, ftK, pickP, AScope, AAll, pickQ, ftQ, inHeap, RV, Nd.cells, tys]
  refine ACallK.heap _ rfl (cNilIs i _ _) ?_; rintro r' H' n' ⟨rfl, eH, en⟩; obtain rfl := eH.symm; obtain rfl := en.symm; clear eH en; simp (maxSteps := 400000) (dsimp := false) only [axs, AThen, ABlock, dstsOk, AStep, callsF, AWant, aop, AS.ev, AS.put, upd, AS.bound, abin, aint, aload, astore, cellsAt, AV.cells, alen, elems, AV.int?, FPost, aresL, ares1, pack, afill, splice, Value.oneCell', Nat.reduceLT, Nat.reduceLeDiff, Nat.reduceEqDiff, Nat.reduceAdd, Nat.reduceMul, Nat.reduceSub, Nat.reduceBEq, Int.reduceLE, Int.reduceLT, Int.reduceToNat, Int.reduceNeg, Int.reduceEq, axt, ftK, pickP, AScope, AAll, pickQ, ftQ, inHeap, RV, Nd.cells, tys]
  exact ⟨_, rfl, rfl⟩
theorem cNilFree (i : Int) (H : AH) (n : Nat) : HCalls Try.prog 19 [.sc (.pointer none), .sc (.int .i32 i)] H n fun r H' n' => r = .sc (.bool false) ∧ H' = H ∧ n' = n := by
  refine HCalls.walk Try.func19 rfl rfl Try.ntmps19 Try.results19 (by simp) ?_; simp (maxSteps := 400000) (dsimp := false) only [axs, AThen, ABlock, dstsOk, AStep, callsF, AWant, aop, AS.ev, AS.put, upd, AS.bound, abin, aint, aload, astore, cellsAt, AV.cells, alen, elems, AV.int?, FPost, aresL, ares1, pack, afill, splice, Value.oneCell', Nat.reduceLT, Nat.reduceLeDiff, Nat.reduceEqDiff, Nat.reduceAdd, Nat.reduceMul, Nat.reduceSub, Nat.reduceBEq, Int.reduceLE, Int.reduceLT, Int.reduceToNat, Int.reduceNeg, Int.reduceEq, axt, ftK, pickP, AScope, AAll, pickQ, ftQ, inHeap, RV, Nd.cells, tys]
  refine ACallK.heap _ rfl (cNilIs i _ _) ?_; rintro r' H' n' ⟨rfl, eH, en⟩; obtain rfl := eH.symm; obtain rfl := en.symm; clear eH en; simp (maxSteps := 400000) (dsimp := false) only [axs, AThen, ABlock, dstsOk, AStep, callsF, AWant, aop, AS.ev, AS.put, upd, AS.bound, abin, aint, aload, astore, cellsAt, AV.cells, alen, elems, AV.int?, FPost, aresL, ares1, pack, afill, splice, Value.oneCell', Nat.reduceLT, Nat.reduceLeDiff, Nat.reduceEqDiff, Nat.reduceAdd, Nat.reduceMul, Nat.reduceSub, Nat.reduceBEq, Int.reduceLE, Int.reduceLT, Int.reduceToNat, Int.reduceNeg, Int.reduceEq, axt, ftK, pickP, AScope, AAll, pickQ, ftQ, inHeap, RV, Nd.cells, tys]
  exact ⟨_, rfl, rfl⟩
theorem cNilAlloc (H : AH) (n : Nat) : HCalls Try.prog 21 [.sc (.pointer none)] H n fun r H' n' => r = .sc (.int .i32 0) ∧ H' = H ∧ n' = n := by
  refine HCalls.walk Try.func21 rfl rfl Try.ntmps21 Try.results21 (by simp) ?_; simp (maxSteps := 400000) (dsimp := false) only [axs, AThen, ABlock, dstsOk, AStep, callsF, AWant, aop, AS.ev, AS.put, upd, AS.bound, abin, aint, aload, astore, cellsAt, AV.cells, alen, elems, AV.int?, FPost, aresL, ares1, pack, afill, splice, Value.oneCell', Nat.reduceLT, Nat.reduceLeDiff, Nat.reduceEqDiff, Nat.reduceAdd, Nat.reduceMul, Nat.reduceSub, Nat.reduceBEq, Int.reduceLE, Int.reduceLT, Int.reduceToNat, Int.reduceNeg, Int.reduceEq, axt, ftK, pickP, AScope, AAll, pickQ, ftQ, inHeap, RV, Nd.cells, tys]
  exact ⟨_, rfl, rfl⟩
theorem cNilLive (H : AH) (n : Nat) : HCalls Try.prog 18 [.sc (.pointer none)] H n fun r H' n' => r = .sc (.int .i64 0) ∧ H' = H ∧ n' = n := by
  refine HCalls.walk Try.func18 rfl rfl Try.ntmps18 Try.results18 (by simp) ?_; simp (maxSteps := 400000) (dsimp := false) only [axs, AThen, ABlock, dstsOk, AStep, callsF, AWant, aop, AS.ev, AS.put, upd, AS.bound, abin, aint, aload, astore, cellsAt, AV.cells, alen, elems, AV.int?, FPost, aresL, ares1, pack, afill, splice, Value.oneCell', Nat.reduceLT, Nat.reduceLeDiff, Nat.reduceEqDiff, Nat.reduceAdd, Nat.reduceMul, Nat.reduceSub, Nat.reduceBEq, Int.reduceLE, Int.reduceLT, Int.reduceToNat, Int.reduceNeg, Int.reduceEq, axt, ftK, pickP, AScope, AAll, pickQ, ftQ, inHeap, RV, Nd.cells, tys]
  exact ⟨_, rfl, rfl⟩
theorem cNilLen (H : AH) (n : Nat) : HCalls Try.prog 16 [.sc (.pointer none)] H n fun r H' n' => r = .sc (.int .i64 0) ∧ H' = H ∧ n' = n := by
  refine HCalls.walk Try.func16 rfl rfl Try.ntmps16 Try.results16 (by simp) ?_; simp (maxSteps := 400000) (dsimp := false) only [axs, AThen, ABlock, dstsOk, AStep, callsF, AWant, aop, AS.ev, AS.put, upd, AS.bound, abin, aint, aload, astore, cellsAt, AV.cells, alen, elems, AV.int?, FPost, aresL, ares1, pack, afill, splice, Value.oneCell', Nat.reduceLT, Nat.reduceLeDiff, Nat.reduceEqDiff, Nat.reduceAdd, Nat.reduceMul, Nat.reduceSub, Nat.reduceBEq, Int.reduceLE, Int.reduceLT, Int.reduceToNat, Int.reduceNeg, Int.reduceEq, axt, ftK, pickP, AScope, AAll, pickQ, ftQ, inHeap, RV, Nd.cells, tys]
  exact ⟨_, rfl, rfl⟩
/-- The arena of two slots that the awakening makes. -/
def w0 : RA := ⟨2, 0, [], [nd0]⟩
def w1 : RA := ⟨2, 1, [], [nd0, nd0]⟩
def w2 : RA := ⟨4, 2, [], [nd0, nd0, nd0]⟩
def w3 : RA := ⟨4, 2, [], [nd0, ⟨7, 0, 0, 0, 0, 0⟩, nd0]⟩
def w4 : RA := ⟨4, 2, [1], [nd0, ⟨7, 0, 0, 0, 0, 0⟩, nd0]⟩
def w5 : RA := ⟨4, 2, [], [nd0, nd0, nd0]⟩
theorem awake03 : PCalls Try.prog 8 [] (.sc (.bool true)) := by
  have o0 : RaOk w0 := (arNew_of 1).2
  have o1 : RaOk w1 := (arAlloc_of o0).2.1
  have o2 : RaOk w2 := (arAlloc_of o1).2.1
  have o3 : RaOk w3 := (arSet_of o2 1 ⟨7, 0, 0, 0, 0, 0⟩).2
  have o4 : RaOk w4 := (arFree_of o3 1).2
  have o5 : RaOk w5 := (arAlloc_of o4).2.1
  have i1 : I32ok 1 := ⟨by decide, by decide⟩
  have i2 : I32ok 2 := ⟨by decide, by decide⟩
  have i0 : I32ok 0 := ⟨by decide, by decide⟩
  refine PCalls.intro2 Try.func8 rfl rfl Try.ntmps8 Try.results8 (by simp) fun n => ?_; simp (maxSteps := 400000) (dsimp := false) only [axs, AThen, ABlock, dstsOk, AStep, callsF, AWant, aop, AS.ev, AS.put, upd, AS.bound, abin, aint, aload, astore, cellsAt, AV.cells, alen, elems, AV.int?, FPost, aresL, ares1, pack, afill, splice, Value.oneCell', Nat.reduceLT, Nat.reduceLeDiff, Nat.reduceEqDiff, Nat.reduceAdd, Nat.reduceMul, Nat.reduceSub, Nat.reduceBEq, Int.reduceLE, Int.reduceLT, Int.reduceToNat, Int.reduceNeg, Int.reduceEq, axt, ftK, pickP, AScope, AAll, pickQ, ftQ, inHeap, RV, Nd.cells, tys]
  refine ACallK.heap _ rfl (cArNew 1 _ _) ?_; rintro r' H' n' ⟨rfl, eH, en⟩; obtain rfl := eH.symm; obtain rfl := en.symm; clear eH en; simp (maxSteps := 400000) (dsimp := false) only [axs, AThen, ABlock, dstsOk, AStep, callsF, AWant, aop, AS.ev, AS.put, upd, AS.bound, abin, aint, aload, astore, cellsAt, AV.cells, alen, elems, AV.int?, FPost, aresL, ares1, pack, afill, splice, Value.oneCell', Nat.reduceLT, Nat.reduceLeDiff, Nat.reduceEqDiff, Nat.reduceAdd, Nat.reduceMul, Nat.reduceSub, Nat.reduceBEq, Int.reduceLE, Int.reduceLT, Int.reduceToNat, Int.reduceNeg, Int.reduceEq, axt, ftK, pickP, AScope, AAll, pickQ, ftQ, inHeap, RV, Nd.cells, tys]
  have h0 : ArH (upd (upd H0 n (some (.obj 57 7 (SL (arNew 1).slots) false))) (n + 1) (some (.obj 60 4 [[.sl n 7 0 (arNew 1).slots.length, .sc (.slice none 0 0), .sc (.int .i64 1), .sc (.int .i64 0)]] false))) (n + 1 + 1) (n + 1) n (.sc (.slice none 0 0)) (arnOf w0) := by
    have := arNew_H 1 H0 n
    rw [(arNew_of 1).1] at this
    exact this
  have v1 : (raAlloc w0).2 = 1 := rfl
  have v2 : (raAlloc w1).2 = 2 := rfl
  have v3 : (raSet w2 1 ⟨7, 0, 0, 0, 0, 0⟩).2 = true := rfl
  have v4 : raAt w3 1 = ⟨7, 0, 0, 0, 0, 0⟩ := rfl
  have v5 : (raFree w3 1).2 = true := rfl
  have v6 : (raFree w4 1).2 = false := rfl
  have v7 : raLive w4 = 1 := rfl
  have v8 : (raAlloc w4).2 = 1 := rfl
  have v9 : raAt w5 1 = nd0 := rfl
  have v10 : raIs w5 2 = true := rfl
  have v11 : raIs w5 0 = false := rfl
  have v12 : w2.len = 4 := rfl
  refine ACallK.heap _ rfl (cRAlloc h0 o0 (by decide)) ?_
  rintro r H1 n1 ⟨rfl, k1, k2, s1, fv1, h1, k3⟩
  replace h1 : ArH H1 n1 (n + 1) s1 fv1 (arnOf w1) := h1
  clear k1 k2 k3
  simp (maxSteps := 400000) (dsimp := false) only [v1, axs, AThen, ABlock, dstsOk, AStep, callsF, AWant, aop, AS.ev, AS.put, upd, AS.bound, abin, aint, aload, astore, cellsAt, AV.cells, alen, elems, AV.int?, FPost, aresL, ares1, pack, afill, splice, Value.oneCell', Nat.reduceLT, Nat.reduceLeDiff, Nat.reduceEqDiff, Nat.reduceAdd, Nat.reduceMul, Nat.reduceSub, Nat.reduceBEq, Int.reduceLE, Int.reduceLT, Int.reduceToNat, Int.reduceNeg, Int.reduceEq, axt, ftK, pickP, AScope, AAll, pickQ, ftQ, inHeap, RV, Nd.cells, tys]
  refine ACallK.heap _ rfl (cRAlloc h1 o1 (by decide)) ?_
  rintro r H2 n2 ⟨rfl, k1, k2, s2, fv2, h2, k3⟩
  replace h2 : ArH H2 n2 (n + 1) s2 fv2 (arnOf w2) := h2
  clear k1 k2 k3
  simp (maxSteps := 400000) (dsimp := false) only [v2, axs, AThen, ABlock, dstsOk, AStep, callsF, AWant, aop, AS.ev, AS.put, upd, AS.bound, abin, aint, aload, astore, cellsAt, AV.cells, alen, elems, AV.int?, FPost, aresL, ares1, pack, afill, splice, Value.oneCell', Nat.reduceLT, Nat.reduceLeDiff, Nat.reduceEqDiff, Nat.reduceAdd, Nat.reduceMul, Nat.reduceSub, Nat.reduceBEq, Int.reduceLE, Int.reduceLT, Int.reduceToNat, Int.reduceNeg, Int.reduceEq, axt, ftK, pickP, AScope, AAll, pickQ, ftQ, inHeap, RV, Nd.cells, tys]
  refine ACallK.heap _ rfl (cRLen h2 o2) ?_; rintro r' H' n' ⟨rfl, eH, en⟩; obtain rfl := eH.symm; obtain rfl := en.symm; clear eH en; simp (maxSteps := 400000) (dsimp := false) only [v12, axs, AThen, ABlock, dstsOk, AStep, callsF, AWant, aop, AS.ev, AS.put, upd, AS.bound, abin, aint, aload, astore, cellsAt, AV.cells, alen, elems, AV.int?, FPost, aresL, ares1, pack, afill, splice, Value.oneCell', Nat.reduceLT, Nat.reduceLeDiff, Nat.reduceEqDiff, Nat.reduceAdd, Nat.reduceMul, Nat.reduceSub, Nat.reduceBEq, Int.reduceLE, Int.reduceLT, Int.reduceToNat, Int.reduceNeg, Int.reduceEq, axt, ftK, pickP, AScope, AAll, pickQ, ftQ, inHeap, RV, Nd.cells, tys]
  refine ACallK.heap _ rfl (cRSet h2 o2 1 i1 ⟨7, 0, 0, 0, 0, 0⟩) ?_; rintro r' H' n' ⟨rfl, eH, en⟩; obtain rfl := eH.symm; obtain rfl := en.symm; clear eH en; simp (maxSteps := 400000) (dsimp := false) only [v3, axs, AThen, ABlock, dstsOk, AStep, callsF, AWant, aop, AS.ev, AS.put, upd, AS.bound, abin, aint, aload, astore, cellsAt, AV.cells, alen, elems, AV.int?, FPost, aresL, ares1, pack, afill, splice, Value.oneCell', Nat.reduceLT, Nat.reduceLeDiff, Nat.reduceEqDiff, Nat.reduceAdd, Nat.reduceMul, Nat.reduceSub, Nat.reduceBEq, Int.reduceLE, Int.reduceLT, Int.reduceToNat, Int.reduceNeg, Int.reduceEq, axt, ftK, pickP, AScope, AAll, pickQ, ftQ, inHeap, RV, Nd.cells, tys]
  have h3 : ArH (setH H2 n2 s2 (arnOf w3) ⟨7, 0, 0, 0, 0, 0⟩) (n2 + 1) (n + 1) s2 fv2 (arnOf w3) := h2.setR o2 1 ⟨7, 0, 0, 0, 0, 0⟩
  refine ACallK.heap _ rfl (cRAt h3 o3 1 i1) ?_; rintro r' H' n' ⟨rfl, eH, en⟩; obtain rfl := eH.symm; obtain rfl := en.symm; clear eH en; simp (maxSteps := 400000) (dsimp := false) only [v4, axs, AThen, ABlock, dstsOk, AStep, callsF, AWant, aop, AS.ev, AS.put, upd, AS.bound, abin, aint, aload, astore, cellsAt, AV.cells, alen, elems, AV.int?, FPost, aresL, ares1, pack, afill, splice, Value.oneCell', Nat.reduceLT, Nat.reduceLeDiff, Nat.reduceEqDiff, Nat.reduceAdd, Nat.reduceMul, Nat.reduceSub, Nat.reduceBEq, Int.reduceLE, Int.reduceLT, Int.reduceToNat, Int.reduceNeg, Int.reduceEq, axt, ftK, pickP, AScope, AAll, pickQ, ftQ, inHeap, RV, Nd.cells, tys]
  refine ACallK.heap _ rfl (cRFree h3.new o3 1 i1 (by decide)) ?_
  rintro r H4 n4 ⟨rfl, k1, k2, s4, fv4, h4, k3⟩
  replace h4 : ArH H4 n4 (n + 1) s4 fv4 (arnOf w4) := h4
  clear k1 k2 k3
  simp (maxSteps := 400000) (dsimp := false) only [v5, axs, AThen, ABlock, dstsOk, AStep, callsF, AWant, aop, AS.ev, AS.put, upd, AS.bound, abin, aint, aload, astore, cellsAt, AV.cells, alen, elems, AV.int?, FPost, aresL, ares1, pack, afill, splice, Value.oneCell', Nat.reduceLT, Nat.reduceLeDiff, Nat.reduceEqDiff, Nat.reduceAdd, Nat.reduceMul, Nat.reduceSub, Nat.reduceBEq, Int.reduceLE, Int.reduceLT, Int.reduceToNat, Int.reduceNeg, Int.reduceEq, axt, ftK, pickP, AScope, AAll, pickQ, ftQ, inHeap, RV, Nd.cells, tys]
  refine ACallK.heap _ rfl (cRFree h4 o4 1 i1 (by decide)) ?_
  rintro r H5 n5 ⟨rfl, k1, k2, s5, fv5, h5, k3⟩
  replace h5 : ArH H5 n5 (n + 1) s5 fv5 (arnOf w4) := h5
  clear k1 k2 k3
  simp (maxSteps := 400000) (dsimp := false) only [v6, axs, AThen, ABlock, dstsOk, AStep, callsF, AWant, aop, AS.ev, AS.put, upd, AS.bound, abin, aint, aload, astore, cellsAt, AV.cells, alen, elems, AV.int?, FPost, aresL, ares1, pack, afill, splice, Value.oneCell', Nat.reduceLT, Nat.reduceLeDiff, Nat.reduceEqDiff, Nat.reduceAdd, Nat.reduceMul, Nat.reduceSub, Nat.reduceBEq, Int.reduceLE, Int.reduceLT, Int.reduceToNat, Int.reduceNeg, Int.reduceEq, axt, ftK, pickP, AScope, AAll, pickQ, ftQ, inHeap, RV, Nd.cells, tys]
  refine ACallK.heap _ rfl (cRLive h5) ?_; rintro r' H' n' ⟨rfl, eH, en⟩; obtain rfl := eH.symm; obtain rfl := en.symm; clear eH en; simp (maxSteps := 400000) (dsimp := false) only [v7, axs, AThen, ABlock, dstsOk, AStep, callsF, AWant, aop, AS.ev, AS.put, upd, AS.bound, abin, aint, aload, astore, cellsAt, AV.cells, alen, elems, AV.int?, FPost, aresL, ares1, pack, afill, splice, Value.oneCell', Nat.reduceLT, Nat.reduceLeDiff, Nat.reduceEqDiff, Nat.reduceAdd, Nat.reduceMul, Nat.reduceSub, Nat.reduceBEq, Int.reduceLE, Int.reduceLT, Int.reduceToNat, Int.reduceNeg, Int.reduceEq, axt, ftK, pickP, AScope, AAll, pickQ, ftQ, inHeap, RV, Nd.cells, tys]
  refine ACallK.heap _ rfl (cRAlloc h5 o4 (by decide)) ?_
  rintro r H6 n6 ⟨rfl, k1, k2, s6, fv6, h6, k3⟩
  replace h6 : ArH H6 n6 (n + 1) s6 fv6 (arnOf w5) := h6
  clear k1 k2 k3
  simp (maxSteps := 400000) (dsimp := false) only [v8, axs, AThen, ABlock, dstsOk, AStep, callsF, AWant, aop, AS.ev, AS.put, upd, AS.bound, abin, aint, aload, astore, cellsAt, AV.cells, alen, elems, AV.int?, FPost, aresL, ares1, pack, afill, splice, Value.oneCell', Nat.reduceLT, Nat.reduceLeDiff, Nat.reduceEqDiff, Nat.reduceAdd, Nat.reduceMul, Nat.reduceSub, Nat.reduceBEq, Int.reduceLE, Int.reduceLT, Int.reduceToNat, Int.reduceNeg, Int.reduceEq, axt, ftK, pickP, AScope, AAll, pickQ, ftQ, inHeap, RV, Nd.cells, tys]
  refine ACallK.heap _ rfl (cRAt h6 o5 1 i1) ?_; rintro r' H' n' ⟨rfl, eH, en⟩; obtain rfl := eH.symm; obtain rfl := en.symm; clear eH en; simp (maxSteps := 400000) (dsimp := false) only [v9, nd0, axs, AThen, ABlock, dstsOk, AStep, callsF, AWant, aop, AS.ev, AS.put, upd, AS.bound, abin, aint, aload, astore, cellsAt, AV.cells, alen, elems, AV.int?, FPost, aresL, ares1, pack, afill, splice, Value.oneCell', Nat.reduceLT, Nat.reduceLeDiff, Nat.reduceEqDiff, Nat.reduceAdd, Nat.reduceMul, Nat.reduceSub, Nat.reduceBEq, Int.reduceLE, Int.reduceLT, Int.reduceToNat, Int.reduceNeg, Int.reduceEq, axt, ftK, pickP, AScope, AAll, pickQ, ftQ, inHeap, RV, Nd.cells, tys]
  refine AStepX.eqS [some .u64, some .u64, some .i64, some .i64, some .i32, some .i32] rfl rfl rfl rfl rfl (by kernel_rfl) rfl rfl ?_; simp (maxSteps := 400000) (dsimp := false) only [sameSc, sameV, axs, AThen, ABlock, dstsOk, AStep, callsF, AWant, aop, AS.ev, AS.put, upd, AS.bound, abin, aint, aload, astore, cellsAt, AV.cells, alen, elems, AV.int?, FPost, aresL, ares1, pack, afill, splice, Value.oneCell', Nat.reduceLT, Nat.reduceLeDiff, Nat.reduceEqDiff, Nat.reduceAdd, Nat.reduceMul, Nat.reduceSub, Nat.reduceBEq, Int.reduceLE, Int.reduceLT, Int.reduceToNat, Int.reduceNeg, Int.reduceEq, axt, ftK, pickP, AScope, AAll, pickQ, ftQ, inHeap, RV, Nd.cells, tys]
  refine ACallK.heap _ rfl (cRIs h6.new o5 2 i2) ?_; rintro r' H' n' ⟨rfl, eH, en⟩; obtain rfl := eH.symm; obtain rfl := en.symm; clear eH en; simp (maxSteps := 400000) (dsimp := false) only [v10, axs, AThen, ABlock, dstsOk, AStep, callsF, AWant, aop, AS.ev, AS.put, upd, AS.bound, abin, aint, aload, astore, cellsAt, AV.cells, alen, elems, AV.int?, FPost, aresL, ares1, pack, afill, splice, Value.oneCell', Nat.reduceLT, Nat.reduceLeDiff, Nat.reduceEqDiff, Nat.reduceAdd, Nat.reduceMul, Nat.reduceSub, Nat.reduceBEq, Int.reduceLE, Int.reduceLT, Int.reduceToNat, Int.reduceNeg, Int.reduceEq, axt, ftK, pickP, AScope, AAll, pickQ, ftQ, inHeap, RV, Nd.cells, tys]
  refine ACallK.heap _ rfl (cRIs h6.new o5 0 i0) ?_; rintro r' H' n' ⟨rfl, eH, en⟩; obtain rfl := eH.symm; obtain rfl := en.symm; clear eH en; simp (maxSteps := 400000) (dsimp := false) only [v11, axs, AThen, ABlock, dstsOk, AStep, callsF, AWant, aop, AS.ev, AS.put, upd, AS.bound, abin, aint, aload, astore, cellsAt, AV.cells, alen, elems, AV.int?, FPost, aresL, ares1, pack, afill, splice, Value.oneCell', Nat.reduceLT, Nat.reduceLeDiff, Nat.reduceEqDiff, Nat.reduceAdd, Nat.reduceMul, Nat.reduceSub, Nat.reduceBEq, Int.reduceLE, Int.reduceLT, Int.reduceToNat, Int.reduceNeg, Int.reduceEq, axt, ftK, pickP, AScope, AAll, pickQ, ftQ, inHeap, RV, Nd.cells, tys]
  exact ⟨_, rfl, Sees.sc⟩
end Go.Al
