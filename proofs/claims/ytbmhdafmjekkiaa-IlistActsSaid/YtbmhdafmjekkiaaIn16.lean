/- Lists of places: new ones are empty; the awakening. Conditions: none. -/
import Derived.Test.YtbmhdafmjekkiaaIn15
set_option linter.unusedVariables false
set_option linter.unusedSimpArgs false
set_option maxRecDepth 20000
set_option maxHeartbeats 1600000
-- axs, AThen, ABlock, dstsOk, AStep, callsF, AWant, aop, AS.ev, AS.put, upd, AS.bound, abin, aint, aload, astore, cellsAt, AV.cells, alen, elems, AV.int?, FPost, aresL, ares1, pack, afill, splice, Value.oneCell', Nat.reduceLT, Nat.reduceLeDiff, Nat.reduceEqDiff, Nat.reduceAdd, Nat.reduceMul, Nat.reduceSub, Nat.reduceBEq, Int.reduceLE, Int.reduceLT, Int.reduceToNat, Int.reduceNeg, Int.reduceEq, axt, ftK, ft3, pickP, AScope, AAll, pickQ, ftQ, inHeap, Nd.cells, tys: Nd.cells
namespace Go.Al
open Go.Proofs
theorem zeroAt {R : RA} (h : ∀ x ∈ R.nodes, x.tag = 0 ∧ x.prev = 0 ∧ x.next = 0) (i : Int) : (raAt R i).tag = 0 ∧ (raAt R i).prev = 0 ∧ (raAt R i).next = 0 := by
  unfold raAt
  split
  · rw [List.getD_eq_getElem?_getD]
    cases e : R.nodes[i.toNat]? with
    | none => exact ⟨rfl, rfl, rfl⟩
    | some x => exact h x (List.mem_of_getElem? e)
  · exact ⟨rfl, rfl, rfl⟩
theorem rep_get {α : Type} {m t : Nat} {x y : α} (h : (List.replicate m x)[t]? = some y) : y = x := by
  have := List.mem_of_getElem? h
  exact (List.mem_replicate.1 this).2
theorem LInv.new {R : RA} (ok : RaOk R) (h : ∀ x ∈ R.nodes, x.tag = 0 ∧ x.prev = 0 ∧ x.next = 0) (m : Nat) : LInv R (List.replicate m r0) (List.replicate m []) := by
  refine ⟨ok, by simp, ?_, ?_, ?_, ?_, ?_, fun i _ => zeroAt h i⟩
  · intro t l hl
    have hlt := (List.getElem?_eq_some_iff.1 hl).1
    rw [rep_get hl]
    simp at hlt
    simp [hlt, r0]
  · intro t l hl i hi; rw [rep_get hl] at hi; cases hi
  · intro t l hl; rw [rep_get hl]; exact List.nodup_nil
  · intro t u l m hl hm i hi; rw [rep_get hl] at hi; cases hi
  · intro t l hl p i hp; rw [rep_get hl] at hp; cases hp
def u0 : RA := raNew 4
def u1 : RA := (raAlloc u0).1
def u2 : RA := (raAlloc u1).1
def t0 : RA × List Rw := (u2, [r0, r0])
def t1 : RA × List Rw := layS t0.1 t0.2 0 0 2 (frontR t0.2 0)
def t2 : RA × List Rw := layS t1.1 t1.2 0 0 1 (frontR t1.2 0)
def t3 : RA × List Rw := mvS t2.1 t2.2 1 2
def t4 : RA × List Rw := layS t3.1 t3.2 0 (backR t3.2 0) 2 0
def t5 : RA × List Rw := offS t4.1 t4.2 1
theorem uOk : RaOk u0 ∧ RaOk u1 ∧ RaOk u2 := ⟨(arNew_of 4).2, (arAlloc_of (arNew_of 4).2).2.1, (arAlloc_of (arAlloc_of (arNew_of 4).2).2.1).2.1⟩
theorem uLs : (∃ ls, ls.length = 2 ∧ LInv t0.1 t0.2 ls) ∧ (∃ ls, ls.length = 2 ∧ LInv t1.1 t1.2 ls) ∧ (∃ ls, ls.length = 2 ∧ LInv t2.1 t2.2 ls) ∧ (∃ ls, ls.length = 2 ∧ LInv (offS t2.1 t2.2 2).1 (offS t2.1 t2.2 2).2 ls) ∧ (∃ ls, ls.length = 2 ∧ LInv t3.1 t3.2 ls) ∧ (∃ ls, ls.length = 2 ∧ LInv t4.1 t4.2 ls) ∧ (∃ ls, ls.length = 2 ∧ LInv t5.1 t5.2 ls) := by
  have h0 : LInv t0.1 t0.2 [[], []] := LInv.new uOk.2.2 (by decide) 2
  obtain ⟨l1, e1, h1⟩ := (h0.some_lay 0 2).1
  obtain ⟨l2, e2, h2⟩ := (h1.some_lay 0 1).1
  obtain ⟨l6, e6, h6⟩ := h2.some_off 2
  obtain ⟨l3, e3, h3⟩ := h2.some_mv 1 2
  obtain ⟨l4, e4, h4⟩ := (h3.some_lay 0 2).2
  obtain ⟨l5, e5, h5⟩ := h4.some_off 1
  exact ⟨⟨_, rfl, h0⟩, ⟨l1, e1, h1⟩, ⟨l2, e2.trans e1, h2⟩, ⟨l6, e6.trans (e2.trans e1), h6⟩, ⟨l3, e3.trans (e2.trans e1), h3⟩, ⟨l4, e4.trans (e3.trans (e2.trans e1)), h4⟩, ⟨l5, e5.trans (e4.trans (e3.trans (e2.trans e1))), h5⟩⟩
theorem fine2 {T : RA × List Rw} (h : ∃ ls, ls.length = 2 ∧ LInv T.1 T.2 ls) (he : T.1.ever ≤ 1000) {i : Int} (hi : I32ok i) : Fine T.1 T.2 i := by
  obtain ⟨ls, e, h⟩ := h
  exact h.fine (by omega) he i hi
theorem awake04 : PCalls Try.prog 8 [] (.sc (.bool true)) := by
  obtain ⟨o0, o1, o2⟩ := uOk
  obtain ⟨L0, L1, L2, L6, L3, L4, L5⟩ := uLs
  have i1 : I32ok 1 := ⟨by decide, by decide⟩
  have i2 : I32ok 2 := ⟨by decide, by decide⟩
  have v1 : (raAlloc u0).2 = 1 := by decide
  have v2 : (raAlloc u1).2 = 2 := by decide
  have v3 : layOk t0.1 t0.2 0 2 = true := by decide
  have v4 : layOk t1.1 t1.2 0 1 = true := by decide
  have v5 : mvOk t2.1 t2.2 1 2 = true := by decide
  have v6 : (if (0 : Int) ≤ 0 ∧ (0 : Int) < t3.2.length then (t3.2.getD (0 : Int).toNat r0).f else 0) = 1 := by decide
  have v7 : (if (0 : Int) ≤ 0 ∧ (0 : Int) < t3.2.length then (t3.2.getD (0 : Int).toNat r0).b else 0) = 1 := by decide
  have v8 : (raAt t3.1 2).tag - 1 = 1 := by decide
  have v9 : (if (0 : Int) ≤ 1 ∧ (1 : Int) < t3.2.length then (t3.2.getD (1 : Int).toNat r0).n else 0) = 1 := by decide
  have v10 : layOk t3.1 t3.2 0 2 = false := by decide
  have v11 : offOk t4.1 t4.2 1 = true := by decide
  have v12 : (raAt t5.1 1).tag - 1 = -1 := by decide
  have f0 : Fine t0.1 t0.2 2 := fine2 L0 (by decide) i2
  have f1 : Fine t1.1 t1.2 1 := fine2 L1 (by decide) i1
  have f2 : Fine t2.1 t2.2 2 := fine2 L2 (by decide) i2
  have f6 : Fine (offS t2.1 t2.2 2).1 (offS t2.1 t2.2 2).2 2 := fine2 L6 (by decide) i2
  have f3 : Fine t3.1 t3.2 2 := fine2 L3 (by decide) i2
  have f4 : Fine t4.1 t4.2 1 := fine2 L4 (by decide) i1
  have f5 : Fine t5.1 t5.2 1 := fine2 L5 (by decide) i1
  refine PCalls.intro2 Try.func8 rfl rfl Try.ntmps8 Try.results8 (by simp) fun n => ?_; simp (maxSteps := 400000) (dsimp := false) only [axs, AThen, ABlock, dstsOk, AStep, callsF, AWant, aop, AS.ev, AS.put, upd, AS.bound, abin, aint, aload, astore, cellsAt, AV.cells, alen, elems, AV.int?, FPost, aresL, ares1, pack, afill, splice, Value.oneCell', Nat.reduceLT, Nat.reduceLeDiff, Nat.reduceEqDiff, Nat.reduceAdd, Nat.reduceMul, Nat.reduceSub, Nat.reduceBEq, Int.reduceLE, Int.reduceLT, Int.reduceToNat, Int.reduceNeg, Int.reduceEq, axt, ftK, ft3, pickP, AScope, AAll, pickQ, ftQ, inHeap, Nd.cells, tys]
  refine ACallK.heap _ rfl (cArNew 4 _ _) ?_; rintro r' H' n' ⟨rfl, eH, en⟩; obtain rfl := eH.symm; obtain rfl := en.symm; clear eH en; simp (maxSteps := 400000) (dsimp := false) only [axs, AThen, ABlock, dstsOk, AStep, callsF, AWant, aop, AS.ev, AS.put, upd, AS.bound, abin, aint, aload, astore, cellsAt, AV.cells, alen, elems, AV.int?, FPost, aresL, ares1, pack, afill, splice, Value.oneCell', Nat.reduceLT, Nat.reduceLeDiff, Nat.reduceEqDiff, Nat.reduceAdd, Nat.reduceMul, Nat.reduceSub, Nat.reduceBEq, Int.reduceLE, Int.reduceLT, Int.reduceToNat, Int.reduceNeg, Int.reduceEq, axt, ftK, ft3, pickP, AScope, AAll, pickQ, ftQ, inHeap, Nd.cells, tys]
  have h0 : ArH (upd (upd H0 n (some (.obj 71 7 (SL (arNew 4).slots) false))) (n + 1) (some (.obj 74 4 [[.sl n 7 0 (arNew 4).slots.length, .sc (.slice none 0 0), .sc (.int .i64 1), .sc (.int .i64 0)]] false))) (n + 1 + 1) (n + 1) n (.sc (.slice none 0 0)) (arnOf u0) := by
    have := arNew_H 4 H0 n
    rw [(arNew_of 4).1] at this
    exact this
  refine ACallK.heap _ rfl (cRAlloc h0 o0 (by decide)) ?_
  rintro r H1 n1 ⟨rfl, k1, k2, s1, fv1, h1, k3⟩
  replace h1 : ArH H1 n1 (n + 1) s1 fv1 (arnOf u1) := h1
  clear k1 k2 k3
  simp (maxSteps := 400000) (dsimp := false) only [v1, axs, AThen, ABlock, dstsOk, AStep, callsF, AWant, aop, AS.ev, AS.put, upd, AS.bound, abin, aint, aload, astore, cellsAt, AV.cells, alen, elems, AV.int?, FPost, aresL, ares1, pack, afill, splice, Value.oneCell', Nat.reduceLT, Nat.reduceLeDiff, Nat.reduceEqDiff, Nat.reduceAdd, Nat.reduceMul, Nat.reduceSub, Nat.reduceBEq, Int.reduceLE, Int.reduceLT, Int.reduceToNat, Int.reduceNeg, Int.reduceEq, axt, ftK, ft3, pickP, AScope, AAll, pickQ, ftQ, inHeap, Nd.cells, tys]
  refine ACallK.heap _ rfl (cRAlloc h1 o1 (by decide)) ?_
  rintro r H2 n2 ⟨rfl, k1, k2, s2, fv2, h2, k3⟩
  replace h2 : ArH H2 n2 (n + 1) s2 fv2 (arnOf u2) := h2
  clear k1 k2 k3
  simp (maxSteps := 400000) (dsimp := false) only [v2, axs, AThen, ABlock, dstsOk, AStep, callsF, AWant, aop, AS.ev, AS.put, upd, AS.bound, abin, aint, aload, astore, cellsAt, AV.cells, alen, elems, AV.int?, FPost, aresL, ares1, pack, afill, splice, Value.oneCell', Nat.reduceLT, Nat.reduceLeDiff, Nat.reduceEqDiff, Nat.reduceAdd, Nat.reduceMul, Nat.reduceSub, Nat.reduceBEq, Int.reduceLE, Int.reduceLT, Int.reduceToNat, Int.reduceNeg, Int.reduceEq, axt, ftK, ft3, pickP, AScope, AAll, pickQ, ftQ, inHeap, Nd.cells, tys]
  refine ACallK.heap _ rfl (cLsNew (n + 1) 2 _ _) ?_; rintro r' H' n' ⟨rfl, eH, en⟩; obtain rfl := eH.symm; obtain rfl := en.symm; clear eH en; simp (maxSteps := 400000) (dsimp := false) only [axs, AThen, ABlock, dstsOk, AStep, callsF, AWant, aop, AS.ev, AS.put, upd, AS.bound, abin, aint, aload, astore, cellsAt, AV.cells, alen, elems, AV.int?, FPost, aresL, ares1, pack, afill, splice, Value.oneCell', Nat.reduceLT, Nat.reduceLeDiff, Nat.reduceEqDiff, Nat.reduceAdd, Nat.reduceMul, Nat.reduceSub, Nat.reduceBEq, Int.reduceLE, Int.reduceLT, Int.reduceToNat, Int.reduceNeg, Int.reduceEq, axt, ftK, ft3, pickP, AScope, AAll, pickQ, ftQ, inHeap, Nd.cells, tys]
  have q0 : LsH _ _ (n2 + 1) n2 (n + 1) s2 fv2 t0.1 t0.2 := newLs h2 2
  refine ACallK.heap _ rfl (cLsPushFront q0 0 2 f0) ?_
  rintro r H3 n3 ⟨rfl, to3⟩
  have q1 : LsH H3 n3 (n2 + 1) n2 (n + 1) s2 fv2 t1.1 t1.2 := to3.ls
  clear to3
  simp (maxSteps := 400000) (dsimp := false) only [v3, axs, AThen, ABlock, dstsOk, AStep, callsF, AWant, aop, AS.ev, AS.put, upd, AS.bound, abin, aint, aload, astore, cellsAt, AV.cells, alen, elems, AV.int?, FPost, aresL, ares1, pack, afill, splice, Value.oneCell', Nat.reduceLT, Nat.reduceLeDiff, Nat.reduceEqDiff, Nat.reduceAdd, Nat.reduceMul, Nat.reduceSub, Nat.reduceBEq, Int.reduceLE, Int.reduceLT, Int.reduceToNat, Int.reduceNeg, Int.reduceEq, axt, ftK, ft3, pickP, AScope, AAll, pickQ, ftQ, inHeap, Nd.cells, tys]
  refine ACallK.heap _ rfl (cLsPushFront q1 0 1 f1) ?_
  rintro r H4 n4 ⟨rfl, to4⟩
  have q2 : LsH H4 n4 (n2 + 1) n2 (n + 1) s2 fv2 t2.1 t2.2 := to4.ls
  clear to4
  simp (maxSteps := 400000) (dsimp := false) only [v4, axs, AThen, ABlock, dstsOk, AStep, callsF, AWant, aop, AS.ev, AS.put, upd, AS.bound, abin, aint, aload, astore, cellsAt, AV.cells, alen, elems, AV.int?, FPost, aresL, ares1, pack, afill, splice, Value.oneCell', Nat.reduceLT, Nat.reduceLeDiff, Nat.reduceEqDiff, Nat.reduceAdd, Nat.reduceMul, Nat.reduceSub, Nat.reduceBEq, Int.reduceLE, Int.reduceLT, Int.reduceToNat, Int.reduceNeg, Int.reduceEq, axt, ftK, ft3, pickP, AScope, AAll, pickQ, ftQ, inHeap, Nd.cells, tys]
  refine ACallK.heap _ rfl (cLsMove q2 1 2 f2 f6) ?_
  rintro r H5 n5 ⟨rfl, to5⟩
  have q3 : LsH H5 n5 (n2 + 1) n2 (n + 1) s2 fv2 t3.1 t3.2 := to5.ls
  clear to5
  simp (maxSteps := 400000) (dsimp := false) only [v5, axs, AThen, ABlock, dstsOk, AStep, callsF, AWant, aop, AS.ev, AS.put, upd, AS.bound, abin, aint, aload, astore, cellsAt, AV.cells, alen, elems, AV.int?, FPost, aresL, ares1, pack, afill, splice, Value.oneCell', Nat.reduceLT, Nat.reduceLeDiff, Nat.reduceEqDiff, Nat.reduceAdd, Nat.reduceMul, Nat.reduceSub, Nat.reduceBEq, Int.reduceLE, Int.reduceLT, Int.reduceToNat, Int.reduceNeg, Int.reduceEq, axt, ftK, ft3, pickP, AScope, AAll, pickQ, ftQ, inHeap, Nd.cells, tys]
  have c6 := cLsFront q3 0
  rw [v6] at c6
  have c7 := cLsBack q3 0
  rw [v7] at c7
  have c8 := cLsTag q3 f3.ok 2 i2 f3.t0 f3.t1
  rw [v8] at c8
  have c9 := cLsLen (q3.new (x := some (.obj 41 6 [(raAt t3.1 2).cells] false))) 1
  rw [v9] at c9
  refine ACallK.heap _ rfl (c6) ?_; rintro r' H' n' ⟨rfl, eH, en⟩; obtain rfl := eH.symm; obtain rfl := en.symm; clear eH en; simp (maxSteps := 400000) (dsimp := false) only [axs, AThen, ABlock, dstsOk, AStep, callsF, AWant, aop, AS.ev, AS.put, upd, AS.bound, abin, aint, aload, astore, cellsAt, AV.cells, alen, elems, AV.int?, FPost, aresL, ares1, pack, afill, splice, Value.oneCell', Nat.reduceLT, Nat.reduceLeDiff, Nat.reduceEqDiff, Nat.reduceAdd, Nat.reduceMul, Nat.reduceSub, Nat.reduceBEq, Int.reduceLE, Int.reduceLT, Int.reduceToNat, Int.reduceNeg, Int.reduceEq, axt, ftK, ft3, pickP, AScope, AAll, pickQ, ftQ, inHeap, Nd.cells, tys]
  refine ACallK.heap _ rfl (c7) ?_; rintro r' H' n' ⟨rfl, eH, en⟩; obtain rfl := eH.symm; obtain rfl := en.symm; clear eH en; simp (maxSteps := 400000) (dsimp := false) only [axs, AThen, ABlock, dstsOk, AStep, callsF, AWant, aop, AS.ev, AS.put, upd, AS.bound, abin, aint, aload, astore, cellsAt, AV.cells, alen, elems, AV.int?, FPost, aresL, ares1, pack, afill, splice, Value.oneCell', Nat.reduceLT, Nat.reduceLeDiff, Nat.reduceEqDiff, Nat.reduceAdd, Nat.reduceMul, Nat.reduceSub, Nat.reduceBEq, Int.reduceLE, Int.reduceLT, Int.reduceToNat, Int.reduceNeg, Int.reduceEq, axt, ftK, ft3, pickP, AScope, AAll, pickQ, ftQ, inHeap, Nd.cells, tys]
  refine ACallK.heap _ rfl (c8) ?_; rintro r' H' n' ⟨rfl, eH, en⟩; obtain rfl := eH.symm; obtain rfl := en.symm; clear eH en; simp (maxSteps := 400000) (dsimp := false) only [axs, AThen, ABlock, dstsOk, AStep, callsF, AWant, aop, AS.ev, AS.put, upd, AS.bound, abin, aint, aload, astore, cellsAt, AV.cells, alen, elems, AV.int?, FPost, aresL, ares1, pack, afill, splice, Value.oneCell', Nat.reduceLT, Nat.reduceLeDiff, Nat.reduceEqDiff, Nat.reduceAdd, Nat.reduceMul, Nat.reduceSub, Nat.reduceBEq, Int.reduceLE, Int.reduceLT, Int.reduceToNat, Int.reduceNeg, Int.reduceEq, axt, ftK, ft3, pickP, AScope, AAll, pickQ, ftQ, inHeap, Nd.cells, tys]
  refine ACallK.heap _ rfl (c9) ?_; rintro r' H' n' ⟨rfl, eH, en⟩; obtain rfl := eH.symm; obtain rfl := en.symm; clear eH en; simp (maxSteps := 400000) (dsimp := false) only [axs, AThen, ABlock, dstsOk, AStep, callsF, AWant, aop, AS.ev, AS.put, upd, AS.bound, abin, aint, aload, astore, cellsAt, AV.cells, alen, elems, AV.int?, FPost, aresL, ares1, pack, afill, splice, Value.oneCell', Nat.reduceLT, Nat.reduceLeDiff, Nat.reduceEqDiff, Nat.reduceAdd, Nat.reduceMul, Nat.reduceSub, Nat.reduceBEq, Int.reduceLE, Int.reduceLT, Int.reduceToNat, Int.reduceNeg, Int.reduceEq, axt, ftK, ft3, pickP, AScope, AAll, pickQ, ftQ, inHeap, Nd.cells, tys]
  refine ACallK.heap _ rfl (cLsPushBack q3.new 0 2 f3) ?_
  rintro r H6 n6 ⟨rfl, to6⟩
  have q4 : LsH H6 n6 (n2 + 1) n2 (n + 1) s2 fv2 t4.1 t4.2 := to6.ls
  clear to6
  simp (maxSteps := 400000) (dsimp := false) only [v10, axs, AThen, ABlock, dstsOk, AStep, callsF, AWant, aop, AS.ev, AS.put, upd, AS.bound, abin, aint, aload, astore, cellsAt, AV.cells, alen, elems, AV.int?, FPost, aresL, ares1, pack, afill, splice, Value.oneCell', Nat.reduceLT, Nat.reduceLeDiff, Nat.reduceEqDiff, Nat.reduceAdd, Nat.reduceMul, Nat.reduceSub, Nat.reduceBEq, Int.reduceLE, Int.reduceLT, Int.reduceToNat, Int.reduceNeg, Int.reduceEq, axt, ftK, ft3, pickP, AScope, AAll, pickQ, ftQ, inHeap, Nd.cells, tys]
  refine ACallK.heap _ rfl (cLsRemove q4 1 f4) ?_
  rintro r H7 n7 ⟨rfl, to7⟩
  have q5 : LsH H7 n7 (n2 + 1) n2 (n + 1) s2 fv2 t5.1 t5.2 := to7.ls
  clear to7
  simp (maxSteps := 400000) (dsimp := false) only [v11, axs, AThen, ABlock, dstsOk, AStep, callsF, AWant, aop, AS.ev, AS.put, upd, AS.bound, abin, aint, aload, astore, cellsAt, AV.cells, alen, elems, AV.int?, FPost, aresL, ares1, pack, afill, splice, Value.oneCell', Nat.reduceLT, Nat.reduceLeDiff, Nat.reduceEqDiff, Nat.reduceAdd, Nat.reduceMul, Nat.reduceSub, Nat.reduceBEq, Int.reduceLE, Int.reduceLT, Int.reduceToNat, Int.reduceNeg, Int.reduceEq, axt, ftK, ft3, pickP, AScope, AAll, pickQ, ftQ, inHeap, Nd.cells, tys]
  have c12 := cLsTag q5 f5.ok 1 i1 f5.t0 f5.t1
  rw [v12] at c12
  refine ACallK.heap _ rfl (c12) ?_; rintro r' H' n' ⟨rfl, eH, en⟩; obtain rfl := eH.symm; obtain rfl := en.symm; clear eH en; simp (maxSteps := 400000) (dsimp := false) only [axs, AThen, ABlock, dstsOk, AStep, callsF, AWant, aop, AS.ev, AS.put, upd, AS.bound, abin, aint, aload, astore, cellsAt, AV.cells, alen, elems, AV.int?, FPost, aresL, ares1, pack, afill, splice, Value.oneCell', Nat.reduceLT, Nat.reduceLeDiff, Nat.reduceEqDiff, Nat.reduceAdd, Nat.reduceMul, Nat.reduceSub, Nat.reduceBEq, Int.reduceLE, Int.reduceLT, Int.reduceToNat, Int.reduceNeg, Int.reduceEq, axt, ftK, ft3, pickP, AScope, AAll, pickQ, ftQ, inHeap, Nd.cells, tys]
  exact ⟨_, rfl, Sees.sc⟩
end Go.Al
