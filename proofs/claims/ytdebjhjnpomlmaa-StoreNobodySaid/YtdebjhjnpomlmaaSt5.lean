/- Keys in queues, by the program: keys are moved, taken out, pushed; a new store. Conditions: the numbers fit their kinds. -/
import Derived.Test.YtdebjhjnpomlmaaSt4
set_option linter.unusedVariables false
set_option linter.unusedSimpArgs false
set_option maxRecDepth 20000
set_option maxHeartbeats 3200000
-- axs, AThen, ABlock, dstsOk, AStep, callsF, AWant, aop, AS.ev, AS.put, upd, AS.bound, abin, aint, aload, astore, cellsAt, AV.cells, alen, elems, AV.int?, FPost, aresL, ares1, pack, afill, splice, Value.oneCell', Nat.reduceLT, Nat.reduceLeDiff, Nat.reduceEqDiff, Nat.reduceAdd, Nat.reduceMul, Nat.reduceSub, Nat.reduceBEq, Int.reduceLE, Int.reduceLT, Int.reduceToNat, Int.reduceNeg, Int.reduceEq, axt, ftK, ft3, pickP, AScope, AAll, pickQ, ftQ, inHeap, Nd.cells, getF, tys: Nd.cells, getF
namespace Go.Al
open Go.Proofs
def movOk (x : SS) (q k : Int) : Bool := isIn x k && mvOk x.R x.rows q (nodeI x.T k)
def movS (x : SS) (q k : Int) : SS := if nodeI x.T k = 0 then x else ⟨(mvS x.R x.rows q (nodeI x.T k)).1, (mvS x.R x.rows q (nodeI x.T k)).2, mvL x.R x.rows x.ls q (nodeI x.T k), x.T⟩
def remS (x : SS) (k : Int) : SS := if nodeI x.T k = 0 then x else ⟨(raFree (offS x.R x.rows (nodeI x.T k)).1 (nodeI x.T k)).1, (offS x.R x.rows (nodeI x.T k)).2, offL x.R x.rows x.ls (nodeI x.T k), (hDel x.T k).1⟩
def psOk (x : SS) (q k : Int) : Bool := decide (0 ≤ q ∧ q < x.rows.length) && decide (nodeI x.T k = 0)
def psfS (x : SS) (q k : Int) : SS := if psOk x q k then ⟨(layS (pshR x.R k) x.rows q 0 (raAlloc x.R).2 (frontR x.rows q)).1, (layS (pshR x.R k) x.rows q 0 (raAlloc x.R).2 (frontR x.rows q)).2, pushL x.ls q (raAlloc x.R).2 true, hPut x.T k (raAlloc x.R).2⟩ else x
def psbS (x : SS) (q k : Int) : SS := if psOk x q k then ⟨(layS (pshR x.R k) x.rows q (backR x.rows q) (raAlloc x.R).2 0).1, (layS (pshR x.R k) x.rows q (backR x.rows q) (raAlloc x.R).2 0).2, pushL x.ls q (raAlloc x.R).2 false, hPut x.T k (raAlloc x.R).2⟩ else x
section
variable {H H' H1 H2 : AH} {n n' n1 n2 S L r a s ta ts s1 ts1 : Nat} {fv fv1 : AV} {x x' : SS}
theorem mvS_len (R : RA) (rows : List Rw) (t i : Int) : (mvS R rows t i).2.length = rows.length := by
  unfold mvS
  split
  · split
    · rw [layS_len, offS_len]
    · rfl
  · rfl
theorem SOk.live (o : SOk x) {k : Int} (h0 : nodeI x.T k ≠ 0) : raIs x.R (nodeI x.T k) = true ∧ (raAt x.R (nodeI x.T k)).key = k ∧ (sl x.T (hF x.T k)).full = true := by
  rcases o.i.node k with ⟨h1, h2, _, h4⟩ | ⟨h1, _⟩
  · exact ⟨h1, h2, h4⟩
  · exact absurd h1 h0
theorem SOk.fine2 (o : SOk x) {i j : Int} (hi : I32ok i) : Fine (offS x.R x.rows j).1 (offS x.R x.rows j).2 i := by
  obtain ⟨l1, e1, h1⟩ := o.i.inv.some_off j
  exact h1.fine (by rw [e1]; have := o.q; omega) (by rw [(Same.offS o.i.inv.ok x.rows j).ever]; have := o.ev; omega) i hi
theorem cStMove (h : StL H n S L r a s ta ts fv x) (o : SOk x) (q : Int) {k : Int} (hk : Key k) :
    HCalls Try.prog 27 [.ptr S 4 0 0, .sc (.int .i64 q), .sc (.int .u64 k)] H n fun y H' n' => y = .sc (.bool (movOk x q k)) ∧ StTo H n S L r a s ta ts fv H' n' (movS x q k) := by
  have hi := o.node32 k
  refine HCalls.walk Try.func27 rfl rfl Try.ntmps27 Try.results27 (by simp) ?_; simp (maxSteps := 400000) (dsimp := false) only [axs, AThen, ABlock, dstsOk, AStep, callsF, AWant, aop, AS.ev, AS.put, upd, AS.bound, abin, aint, aload, astore, cellsAt, AV.cells, alen, elems, AV.int?, FPost, aresL, ares1, pack, afill, splice, Value.oneCell', Nat.reduceLT, Nat.reduceLeDiff, Nat.reduceEqDiff, Nat.reduceAdd, Nat.reduceMul, Nat.reduceSub, Nat.reduceBEq, Int.reduceLE, Int.reduceLT, Int.reduceToNat, Int.reduceNeg, Int.reduceEq, axt, ftK, ft3, pickP, AScope, AAll, pickQ, ftQ, inHeap, Nd.cells, getF, tys]
  refine ACallK.heap _ rfl (cStNode h o hk) ?_
  rintro v H2 n2 ⟨rfl, kp⟩
  have kp : Keeps H n H2 n2 := kp
  have h2 := h.keeps kp
  have hS := h2.hS
  by_cases h0 : nodeI x.T k = 0
  · have e1 : movOk x q k = false := by unfold movOk isIn; rw [h0]; rfl
    have e2 : movS x q k = x := if_pos h0
    rw [e1, e2]
    simp (maxSteps := 400000) (dsimp := false) only [h0, axs, AThen, ABlock, dstsOk, AStep, callsF, AWant, aop, AS.ev, AS.put, upd, AS.bound, abin, aint, aload, astore, cellsAt, AV.cells, alen, elems, AV.int?, FPost, aresL, ares1, pack, afill, splice, Value.oneCell', Nat.reduceLT, Nat.reduceLeDiff, Nat.reduceEqDiff, Nat.reduceAdd, Nat.reduceMul, Nat.reduceSub, Nat.reduceBEq, Int.reduceLE, Int.reduceLT, Int.reduceToNat, Int.reduceNeg, Int.reduceEq, axt, ftK, ft3, pickP, AScope, AAll, pickQ, ftQ, inHeap, Nd.cells, getF, tys]
    exact ⟨_, rfl, rfl, StTo.after kp (StTo.same h2)⟩
  · have e1 : movOk x q k = mvOk x.R x.rows q (nodeI x.T k) := by unfold movOk isIn; rw [decide_eq_false h0]; rfl
    have e2 : movS x q k = ⟨(mvS x.R x.rows q (nodeI x.T k)).1, (mvS x.R x.rows q (nodeI x.T k)).2, mvL x.R x.rows x.ls q (nodeI x.T k), x.T⟩ := if_neg h0
    rw [e1, e2]
    simp (maxSteps := 400000) (dsimp := false) only [h0, hS, axs, AThen, ABlock, dstsOk, AStep, callsF, AWant, aop, AS.ev, AS.put, upd, AS.bound, abin, aint, aload, astore, cellsAt, AV.cells, alen, elems, AV.int?, FPost, aresL, ares1, pack, afill, splice, Value.oneCell', Nat.reduceLT, Nat.reduceLeDiff, Nat.reduceEqDiff, Nat.reduceAdd, Nat.reduceMul, Nat.reduceSub, Nat.reduceBEq, Int.reduceLE, Int.reduceLT, Int.reduceToNat, Int.reduceNeg, Int.reduceEq, axt, ftK, ft3, pickP, AScope, AAll, pickQ, ftQ, inHeap, Nd.cells, getF, tys]
    refine ACallK.heap _ rfl (cLsMove h2.l q (nodeI x.T k) (o.fine hi) (o.fine2 hi)) ?_
    rintro v H3 n3 ⟨rfl, to⟩
    simp (maxSteps := 400000) (dsimp := false) only [axs, AThen, ABlock, dstsOk, AStep, callsF, AWant, aop, AS.ev, AS.put, upd, AS.bound, abin, aint, aload, astore, cellsAt, AV.cells, alen, elems, AV.int?, FPost, aresL, ares1, pack, afill, splice, Value.oneCell', Nat.reduceLT, Nat.reduceLeDiff, Nat.reduceEqDiff, Nat.reduceAdd, Nat.reduceMul, Nat.reduceSub, Nat.reduceBEq, Int.reduceLE, Int.reduceLT, Int.reduceToNat, Int.reduceNeg, Int.reduceEq, axt, ftK, ft3, pickP, AScope, AAll, pickQ, ftQ, inHeap, Nd.cells, getF, tys]
    exact ⟨_, rfl, rfl, StTo.after kp (h2.lists to (mvS_len _ _ _ _) _)⟩
theorem cStRemove (h : StL H n S L r a s ta ts fv x) (o : SOk x) {k : Int} (hk : Key k) :
    HCalls Try.prog 28 [.ptr S 4 0 0, .sc (.int .u64 k)] H n fun y H' n' => y = .sc (.bool (isIn x k)) ∧ StTo H n S L r a s ta ts fv H' n' (remS x k) := by
  have hi := o.node32 k
  have hln := o.ln
  refine HCalls.walk Try.func28 rfl rfl Try.ntmps28 Try.results28 (by simp) ?_; simp (maxSteps := 400000) (dsimp := false) only [axs, AThen, ABlock, dstsOk, AStep, callsF, AWant, aop, AS.ev, AS.put, upd, AS.bound, abin, aint, aload, astore, cellsAt, AV.cells, alen, elems, AV.int?, FPost, aresL, ares1, pack, afill, splice, Value.oneCell', Nat.reduceLT, Nat.reduceLeDiff, Nat.reduceEqDiff, Nat.reduceAdd, Nat.reduceMul, Nat.reduceSub, Nat.reduceBEq, Int.reduceLE, Int.reduceLT, Int.reduceToNat, Int.reduceNeg, Int.reduceEq, axt, ftK, ft3, pickP, AScope, AAll, pickQ, ftQ, inHeap, Nd.cells, getF, tys]
  refine ACallK.heap _ rfl (cStNode h o hk) ?_
  rintro v H2 n2 ⟨rfl, kp⟩
  have kp : Keeps H n H2 n2 := kp
  have h2 := h.keeps kp
  have hS := h2.hS
  by_cases h0 : nodeI x.T k = 0
  · have e1 : isIn x k = false := by unfold isIn; rw [h0]; rfl
    have e2 : remS x k = x := if_pos h0
    rw [e1, e2]
    simp (maxSteps := 400000) (dsimp := false) only [h0, axs, AThen, ABlock, dstsOk, AStep, callsF, AWant, aop, AS.ev, AS.put, upd, AS.bound, abin, aint, aload, astore, cellsAt, AV.cells, alen, elems, AV.int?, FPost, aresL, ares1, pack, afill, splice, Value.oneCell', Nat.reduceLT, Nat.reduceLeDiff, Nat.reduceEqDiff, Nat.reduceAdd, Nat.reduceMul, Nat.reduceSub, Nat.reduceBEq, Int.reduceLE, Int.reduceLT, Int.reduceToNat, Int.reduceNeg, Int.reduceEq, axt, ftK, ft3, pickP, AScope, AAll, pickQ, ftQ, inHeap, Nd.cells, getF, tys]
    exact ⟨_, rfl, rfl, StTo.after kp (StTo.same h2)⟩
  · have e1 : isIn x k = true := by unfold isIn; rw [decide_eq_false h0]; rfl
    have e2 : remS x k = ⟨(raFree (offS x.R x.rows (nodeI x.T k)).1 (nodeI x.T k)).1, (offS x.R x.rows (nodeI x.T k)).2, offL x.R x.rows x.ls (nodeI x.T k), (hDel x.T k).1⟩ := if_neg h0
    obtain ⟨_, _, hfull⟩ := o.live h0
    have hdel : (hDel x.T k).2 = true := by unfold hDel; rw [if_pos hfull]
    have ok2 : RaOk (offS x.R x.rows (nodeI x.T k)).1 := (o.i.inv.offL (nodeI x.T k)).1.ok
    have sm := Same.offS o.i.inv.ok x.rows (nodeI x.T k)
    rw [e1, e2]
    simp (maxSteps := 400000) (dsimp := false) only [h0, hS, axs, AThen, ABlock, dstsOk, AStep, callsF, AWant, aop, AS.ev, AS.put, upd, AS.bound, abin, aint, aload, astore, cellsAt, AV.cells, alen, elems, AV.int?, FPost, aresL, ares1, pack, afill, splice, Value.oneCell', Nat.reduceLT, Nat.reduceLeDiff, Nat.reduceEqDiff, Nat.reduceAdd, Nat.reduceMul, Nat.reduceSub, Nat.reduceBEq, Int.reduceLE, Int.reduceLT, Int.reduceToNat, Int.reduceNeg, Int.reduceEq, axt, ftK, ft3, pickP, AScope, AAll, pickQ, ftQ, inHeap, Nd.cells, getF, tys]
    refine ACallK.heap _ rfl (cLsRemove h2.l (nodeI x.T k) (o.fine hi)) ?_
    rintro v H3 n3 ⟨rfl, to⟩
    obtain ⟨le3, kp3, s3, ts3, fv3, h3, own3⟩ := h2.lists to (offS_len _ _ _) (offL x.R x.rows x.ls (nodeI x.T k))
    have le3 : n2 ≤ n3 := le3
    have hS3 := h3.hS
    simp (maxSteps := 400000) (dsimp := false) only [h0, hS3, axs, AThen, ABlock, dstsOk, AStep, callsF, AWant, aop, AS.ev, AS.put, upd, AS.bound, abin, aint, aload, astore, cellsAt, AV.cells, alen, elems, AV.int?, FPost, aresL, ares1, pack, afill, splice, Value.oneCell', Nat.reduceLT, Nat.reduceLeDiff, Nat.reduceEqDiff, Nat.reduceAdd, Nat.reduceMul, Nat.reduceSub, Nat.reduceBEq, Int.reduceLE, Int.reduceLT, Int.reduceToNat, Int.reduceNeg, Int.reduceEq, axt, ftK, ft3, pickP, AScope, AAll, pickQ, ftQ, inHeap, Nd.cells, getF, tys]
    refine ACallK.heap _ rfl (cRFree h3.l.ar ok2 (nodeI x.T k) hi (by show (offS x.R x.rows (nodeI x.T k)).1.len ≤ _; rw [sm.len]; omega)) ?_
    rintro v H4 n4 ⟨rfl, to4⟩
    obtain ⟨le4, kp4, s4, ts4, fv4, h4, own4⟩ := h3.nodes to4
    have le4 : n3 ≤ n4 := le4
    have hS4 := h4.hS
    simp (maxSteps := 400000) (dsimp := false) only [h0, hS4, axs, AThen, ABlock, dstsOk, AStep, callsF, AWant, aop, AS.ev, AS.put, upd, AS.bound, abin, aint, aload, astore, cellsAt, AV.cells, alen, elems, AV.int?, FPost, aresL, ares1, pack, afill, splice, Value.oneCell', Nat.reduceLT, Nat.reduceLeDiff, Nat.reduceEqDiff, Nat.reduceAdd, Nat.reduceMul, Nat.reduceSub, Nat.reduceBEq, Int.reduceLE, Int.reduceLT, Int.reduceToNat, Int.reduceNeg, Int.reduceEq, axt, ftK, ft3, pickP, AScope, AAll, pickQ, ftQ, inHeap, Nd.cells, getF, tys]
    refine ACallK.heap _ rfl (cHtDelete h4.t o.i.ok hk) ?_
    rintro v H5 n5 ⟨rfl, to5⟩
    simp (maxSteps := 400000) (dsimp := false) only [hdel, axs, AThen, ABlock, dstsOk, AStep, callsF, AWant, aop, AS.ev, AS.put, upd, AS.bound, abin, aint, aload, astore, cellsAt, AV.cells, alen, elems, AV.int?, FPost, aresL, ares1, pack, afill, splice, Value.oneCell', Nat.reduceLT, Nat.reduceLeDiff, Nat.reduceEqDiff, Nat.reduceAdd, Nat.reduceMul, Nat.reduceSub, Nat.reduceBEq, Int.reduceLE, Int.reduceLT, Int.reduceToNat, Int.reduceNeg, Int.reduceEq, axt, ftK, ft3, pickP, AScope, AAll, pickQ, ftQ, inHeap, Nd.cells, getF, tys]
    exact ⟨_, rfl, rfl, StTo.after kp (StTo.then le3 kp3 own3 (StTo.then le4 kp4 own4 (h4.table to5)))⟩
theorem pshR_ever (R : RA) (k : Int) : (pshR R k).ever ≤ R.ever + 1 ∧ (pshR R k).len ≤ max R.len (2 * R.len) := by
  unfold pshR
  have hs : ∀ (A : RA) (i : Int) (y : Nd), (raSet A i y).1.ever = A.ever ∧ (raSet A i y).1.len = A.len := fun A i y => by unfold raSet; split <;> exact ⟨rfl, rfl⟩
  rw [(hs _ _ _).1, (hs _ _ _).2]
  unfold raAlloc
  split
  · rw [(hs _ _ _).1, (hs _ _ _).2]
    exact ⟨by show R.ever ≤ _; omega, by show R.len ≤ _; omega⟩
  · refine ⟨Int.le_refl _, ?_⟩
    show (if R.ever + 1 ≥ R.len then 2 * R.len else R.len) ≤ _
    split <;> omega
theorem cStPushFront (h : StL H n S L r a s ta ts fv x) (o : SOk x) (q : Int) {k : Int} (hk : Key k) :
    HCalls Try.prog 54 [.ptr S 4 0 0, .sc (.int .i64 q), .sc (.int .u64 k), .fn 55 []] H n fun y H' n' => y = .sc (.bool (psOk x q k)) ∧ StTo H n S L r a s ta ts fv H' n' (psfS x q k) := by
  have hS := h.hS
  have hln := o.ln
  by_cases a0 : q < 0
  · have e1 : psOk x q k = false := by unfold psOk; rw [decide_eq_false (by omega)]; rfl
    have e2 : psfS x q k = x := if_neg (by rw [e1]; simp)
    rw [e1, e2]
    refine HCalls.walk Try.func54 rfl rfl Try.ntmps54 Try.results54 (by simp) ?_; simp (maxSteps := 400000) (dsimp := false) only [a0, axs, AThen, ABlock, dstsOk, AStep, callsF, AWant, aop, AS.ev, AS.put, upd, AS.bound, abin, aint, aload, astore, cellsAt, AV.cells, alen, elems, AV.int?, FPost, aresL, ares1, pack, afill, splice, Value.oneCell', Nat.reduceLT, Nat.reduceLeDiff, Nat.reduceEqDiff, Nat.reduceAdd, Nat.reduceMul, Nat.reduceSub, Nat.reduceBEq, Int.reduceLE, Int.reduceLT, Int.reduceToNat, Int.reduceNeg, Int.reduceEq, axt, ftK, ft3, pickP, AScope, AAll, pickQ, ftQ, inHeap, Nd.cells, getF, tys]
    exact ⟨_, rfl, rfl, StTo.same h⟩
  · by_cases a1 : q ≥ x.rows.length
    · have e1 : psOk x q k = false := by unfold psOk; rw [decide_eq_false (by omega)]; rfl
      have e2 : psfS x q k = x := if_neg (by rw [e1]; simp)
      rw [e1, e2]
      refine HCalls.walk Try.func54 rfl rfl Try.ntmps54 Try.results54 (by simp) ?_; simp (maxSteps := 400000) (dsimp := false) only [a0, a1, hS, axs, AThen, ABlock, dstsOk, AStep, callsF, AWant, aop, AS.ev, AS.put, upd, AS.bound, abin, aint, aload, astore, cellsAt, AV.cells, alen, elems, AV.int?, FPost, aresL, ares1, pack, afill, splice, Value.oneCell', Nat.reduceLT, Nat.reduceLeDiff, Nat.reduceEqDiff, Nat.reduceAdd, Nat.reduceMul, Nat.reduceSub, Nat.reduceBEq, Int.reduceLE, Int.reduceLT, Int.reduceToNat, Int.reduceNeg, Int.reduceEq, axt, ftK, ft3, pickP, AScope, AAll, pickQ, ftQ, inHeap, Nd.cells, getF, tys]
      exact ⟨_, rfl, rfl, StTo.same h⟩
    · have hq : 0 ≤ q ∧ q < x.rows.length := by omega
      by_cases h0 : nodeI x.T k = 0
      · have e1 : psOk x q k = true := by unfold psOk; rw [decide_eq_true hq, decide_eq_true h0]; rfl
        have e2 : psfS x q k = ⟨(layS (pshR x.R k) x.rows q 0 (raAlloc x.R).2 (frontR x.rows q)).1, (layS (pshR x.R k) x.rows q 0 (raAlloc x.R).2 (frontR x.rows q)).2, pushL x.ls q (raAlloc x.R).2 true, hPut x.T k (raAlloc x.R).2⟩ := if_pos e1
        rw [e1, e2]
        have ok := o.i.inv.ok
        obtain ⟨al1, al2, _⟩ := raAlloc_all ok
        have hev := o.ev
        have hi : I32ok (raAlloc x.R).2 := ⟨by omega, by omega⟩
        have okA := (arAlloc_of ok).2.1
        have hlo := psh_ok o.i k hq
        have hfi : Fine (pshR x.R k) x.rows (raAlloc x.R).2 := (o.i.inv.psh k).fine (by have := o.q; omega) (by have := (pshR_ever x.R k).1; omega) _ hi
        refine HCalls.walk Try.func54 rfl rfl Try.ntmps54 Try.results54 (by simp) ?_; simp (maxSteps := 400000) (dsimp := false) only [a0, a1, hS, axs, AThen, ABlock, dstsOk, AStep, callsF, AWant, aop, AS.ev, AS.put, upd, AS.bound, abin, aint, aload, astore, cellsAt, AV.cells, alen, elems, AV.int?, FPost, aresL, ares1, pack, afill, splice, Value.oneCell', Nat.reduceLT, Nat.reduceLeDiff, Nat.reduceEqDiff, Nat.reduceAdd, Nat.reduceMul, Nat.reduceSub, Nat.reduceBEq, Int.reduceLE, Int.reduceLT, Int.reduceToNat, Int.reduceNeg, Int.reduceEq, axt, ftK, ft3, pickP, AScope, AAll, pickQ, ftQ, inHeap, Nd.cells, getF, tys]
        refine ACallK.heap _ rfl (cStNode h o hk) ?_
        rintro v H2 n2 ⟨rfl, kp⟩
        have kp : Keeps H n H2 n2 := kp
        have h2 := h.keeps kp
        have hS2 := h2.hS
        simp (maxSteps := 400000) (dsimp := false) only [h0, hS2, axs, AThen, ABlock, dstsOk, AStep, callsF, AWant, aop, AS.ev, AS.put, upd, AS.bound, abin, aint, aload, astore, cellsAt, AV.cells, alen, elems, AV.int?, FPost, aresL, ares1, pack, afill, splice, Value.oneCell', Nat.reduceLT, Nat.reduceLeDiff, Nat.reduceEqDiff, Nat.reduceAdd, Nat.reduceMul, Nat.reduceSub, Nat.reduceBEq, Int.reduceLE, Int.reduceLT, Int.reduceToNat, Int.reduceNeg, Int.reduceEq, axt, ftK, ft3, pickP, AScope, AAll, pickQ, ftQ, inHeap, Nd.cells, getF, tys]
        refine ACallK.heap _ rfl (cRAlloc h2.l.ar ok (by omega)) ?_
        rintro v H3 n3 ⟨rfl, to3⟩
        obtain ⟨le3, kp3, s3, ts3, fv3, h3, own3⟩ := h2.nodes to3
        have le3 : n2 ≤ n3 := le3
        have hS3 := h3.hS
        have cs := (cRSet h3.l.ar okA (raAlloc x.R).2 hi ⟨k, 0, 0, 0, 0, 0⟩).mono (R' := fun y H' n' => y = .sc (.bool (raSet (raAlloc x.R).1 (raAlloc x.R).2 ⟨k, 0, 0, 0, 0, 0⟩).2) ∧ ArTo H3 n3 a s3 fv3 H' n' (arnOf (pshR x.R k))) (fun y H' n' ⟨q1, q2, q3⟩ => ⟨q1, by rw [q2, q3]; exact ArTo.setR h3.l.ar okA _ _⟩)
        simp (maxSteps := 400000) (dsimp := false) only [hS3, axs, AThen, ABlock, dstsOk, AStep, callsF, AWant, aop, AS.ev, AS.put, upd, AS.bound, abin, aint, aload, astore, cellsAt, AV.cells, alen, elems, AV.int?, FPost, aresL, ares1, pack, afill, splice, Value.oneCell', Nat.reduceLT, Nat.reduceLeDiff, Nat.reduceEqDiff, Nat.reduceAdd, Nat.reduceMul, Nat.reduceSub, Nat.reduceBEq, Int.reduceLE, Int.reduceLT, Int.reduceToNat, Int.reduceNeg, Int.reduceEq, axt, ftK, ft3, pickP, AScope, AAll, pickQ, ftQ, inHeap, Nd.cells, getF, tys]
        refine ACallK.heap _ rfl cs ?_
        rintro v H4 n4 ⟨rfl, to4⟩
        obtain ⟨le4, kp4, s4, ts4, fv4, h4, own4⟩ := h3.nodes to4
        have le4 : n3 ≤ n4 := le4
        have hS4 := h4.hS
        simp (maxSteps := 400000) (dsimp := false) only [hS4, axs, AThen, ABlock, dstsOk, AStep, callsF, AWant, aop, AS.ev, AS.put, upd, AS.bound, abin, aint, aload, astore, cellsAt, AV.cells, alen, elems, AV.int?, FPost, aresL, ares1, pack, afill, splice, Value.oneCell', Nat.reduceLT, Nat.reduceLeDiff, Nat.reduceEqDiff, Nat.reduceAdd, Nat.reduceMul, Nat.reduceSub, Nat.reduceBEq, Int.reduceLE, Int.reduceLT, Int.reduceToNat, Int.reduceNeg, Int.reduceEq, axt, ftK, ft3, pickP, AScope, AAll, pickQ, ftQ, inHeap, Nd.cells, getF, tys]
        refine ACallK.heap _ rfl (cHtPut h4.t o.i.ok o.tl hk (raAlloc x.R).2) ?_
        rintro v H5 n5 ⟨rfl, to5⟩
        obtain ⟨le5, kp5, s5, ts5, fv5, h5, own5⟩ := h4.table to5
        have le5 : n4 ≤ n5 := le5
        have hS5 := h5.hS
        simp (maxSteps := 400000) (dsimp := false) only [hS5, axs, AThen, ABlock, dstsOk, AStep, callsF, AWant, aop, AS.ev, AS.put, upd, AS.bound, abin, aint, aload, astore, cellsAt, AV.cells, alen, elems, AV.int?, FPost, aresL, ares1, pack, afill, splice, Value.oneCell', Nat.reduceLT, Nat.reduceLeDiff, Nat.reduceEqDiff, Nat.reduceAdd, Nat.reduceMul, Nat.reduceSub, Nat.reduceBEq, Int.reduceLE, Int.reduceLT, Int.reduceToNat, Int.reduceNeg, Int.reduceEq, axt, ftK, ft3, pickP, AScope, AAll, pickQ, ftQ, inHeap, Nd.cells, getF, tys]
        refine ACallK.heap _ rfl (cLsPushFront h5.l q (raAlloc x.R).2 hfi) ?_
        rintro v H6 n6 ⟨rfl, to6⟩
        simp (maxSteps := 400000) (dsimp := false) only [hlo, axs, AThen, ABlock, dstsOk, AStep, callsF, AWant, aop, AS.ev, AS.put, upd, AS.bound, abin, aint, aload, astore, cellsAt, AV.cells, alen, elems, AV.int?, FPost, aresL, ares1, pack, afill, splice, Value.oneCell', Nat.reduceLT, Nat.reduceLeDiff, Nat.reduceEqDiff, Nat.reduceAdd, Nat.reduceMul, Nat.reduceSub, Nat.reduceBEq, Int.reduceLE, Int.reduceLT, Int.reduceToNat, Int.reduceNeg, Int.reduceEq, axt, ftK, ft3, pickP, AScope, AAll, pickQ, ftQ, inHeap, Nd.cells, getF, tys]
        exact ⟨_, rfl, rfl, StTo.after kp (StTo.then le3 kp3 own3 (StTo.then le4 kp4 own4 (StTo.then le5 kp5 own5 (h5.lists to6 (layS_len _ _ _ _ _ _) _))))⟩
      · have e1 : psOk x q k = false := by unfold psOk; rw [decide_eq_false h0, Bool.and_false]
        have e2 : psfS x q k = x := if_neg (by rw [e1]; simp)
        rw [e1, e2]
        refine HCalls.walk Try.func54 rfl rfl Try.ntmps54 Try.results54 (by simp) ?_; simp (maxSteps := 400000) (dsimp := false) only [a0, a1, hS, axs, AThen, ABlock, dstsOk, AStep, callsF, AWant, aop, AS.ev, AS.put, upd, AS.bound, abin, aint, aload, astore, cellsAt, AV.cells, alen, elems, AV.int?, FPost, aresL, ares1, pack, afill, splice, Value.oneCell', Nat.reduceLT, Nat.reduceLeDiff, Nat.reduceEqDiff, Nat.reduceAdd, Nat.reduceMul, Nat.reduceSub, Nat.reduceBEq, Int.reduceLE, Int.reduceLT, Int.reduceToNat, Int.reduceNeg, Int.reduceEq, axt, ftK, ft3, pickP, AScope, AAll, pickQ, ftQ, inHeap, Nd.cells, getF, tys]
        refine ACallK.heap _ rfl (cStNode h o hk) ?_
        rintro v H2 n2 ⟨rfl, kp⟩
        have kp : Keeps H n H2 n2 := kp
        have h2 := h.keeps kp
        simp (maxSteps := 400000) (dsimp := false) only [h0, axs, AThen, ABlock, dstsOk, AStep, callsF, AWant, aop, AS.ev, AS.put, upd, AS.bound, abin, aint, aload, astore, cellsAt, AV.cells, alen, elems, AV.int?, FPost, aresL, ares1, pack, afill, splice, Value.oneCell', Nat.reduceLT, Nat.reduceLeDiff, Nat.reduceEqDiff, Nat.reduceAdd, Nat.reduceMul, Nat.reduceSub, Nat.reduceBEq, Int.reduceLE, Int.reduceLT, Int.reduceToNat, Int.reduceNeg, Int.reduceEq, axt, ftK, ft3, pickP, AScope, AAll, pickQ, ftQ, inHeap, Nd.cells, getF, tys]
        exact ⟨_, rfl, rfl, StTo.after kp (StTo.same h2)⟩
theorem cStPFront (h : StL H n S L r a s ta ts fv x) (o : SOk x) (q : Int) {k : Int} (hk : Key k) :
    HCalls Try.prog 25 [.ptr S 4 0 0, .sc (.int .i64 q), .sc (.int .u64 k)] H n fun y H' n' => y = .sc (.bool (psOk x q k)) ∧ StTo H n S L r a s ta ts fv H' n' (psfS x q k) := by
  refine HCalls.walk Try.func25 rfl rfl Try.ntmps25 Try.results25 (by simp) ?_; simp (maxSteps := 400000) (dsimp := false) only [axs, AThen, ABlock, dstsOk, AStep, callsF, AWant, aop, AS.ev, AS.put, upd, AS.bound, abin, aint, aload, astore, cellsAt, AV.cells, alen, elems, AV.int?, FPost, aresL, ares1, pack, afill, splice, Value.oneCell', Nat.reduceLT, Nat.reduceLeDiff, Nat.reduceEqDiff, Nat.reduceAdd, Nat.reduceMul, Nat.reduceSub, Nat.reduceBEq, Int.reduceLE, Int.reduceLT, Int.reduceToNat, Int.reduceNeg, Int.reduceEq, axt, ftK, ft3, pickP, AScope, AAll, pickQ, ftQ, inHeap, Nd.cells, getF, tys]
  refine ACallK.heap _ rfl (cStPushFront h o q hk) ?_
  rintro v H2 n2 ⟨rfl, to⟩
  simp (maxSteps := 400000) (dsimp := false) only [axs, AThen, ABlock, dstsOk, AStep, callsF, AWant, aop, AS.ev, AS.put, upd, AS.bound, abin, aint, aload, astore, cellsAt, AV.cells, alen, elems, AV.int?, FPost, aresL, ares1, pack, afill, splice, Value.oneCell', Nat.reduceLT, Nat.reduceLeDiff, Nat.reduceEqDiff, Nat.reduceAdd, Nat.reduceMul, Nat.reduceSub, Nat.reduceBEq, Int.reduceLE, Int.reduceLT, Int.reduceToNat, Int.reduceNeg, Int.reduceEq, axt, ftK, ft3, pickP, AScope, AAll, pickQ, ftQ, inHeap, Nd.cells, getF, tys]
  exact ⟨_, rfl, rfl, to⟩
theorem cStPushBack (h : StL H n S L r a s ta ts fv x) (o : SOk x) (q : Int) {k : Int} (hk : Key k) :
    HCalls Try.prog 54 [.ptr S 4 0 0, .sc (.int .i64 q), .sc (.int .u64 k), .fn 56 []] H n fun y H' n' => y = .sc (.bool (psOk x q k)) ∧ StTo H n S L r a s ta ts fv H' n' (psbS x q k) := by
  have hS := h.hS
  have hln := o.ln
  by_cases a0 : q < 0
  · have e1 : psOk x q k = false := by unfold psOk; rw [decide_eq_false (by omega)]; rfl
    have e2 : psbS x q k = x := if_neg (by rw [e1]; simp)
    rw [e1, e2]
    refine HCalls.walk Try.func54 rfl rfl Try.ntmps54 Try.results54 (by simp) ?_; simp (maxSteps := 400000) (dsimp := false) only [a0, axs, AThen, ABlock, dstsOk, AStep, callsF, AWant, aop, AS.ev, AS.put, upd, AS.bound, abin, aint, aload, astore, cellsAt, AV.cells, alen, elems, AV.int?, FPost, aresL, ares1, pack, afill, splice, Value.oneCell', Nat.reduceLT, Nat.reduceLeDiff, Nat.reduceEqDiff, Nat.reduceAdd, Nat.reduceMul, Nat.reduceSub, Nat.reduceBEq, Int.reduceLE, Int.reduceLT, Int.reduceToNat, Int.reduceNeg, Int.reduceEq, axt, ftK, ft3, pickP, AScope, AAll, pickQ, ftQ, inHeap, Nd.cells, getF, tys]
    exact ⟨_, rfl, rfl, StTo.same h⟩
  · by_cases a1 : q ≥ x.rows.length
    · have e1 : psOk x q k = false := by unfold psOk; rw [decide_eq_false (by omega)]; rfl
      have e2 : psbS x q k = x := if_neg (by rw [e1]; simp)
      rw [e1, e2]
      refine HCalls.walk Try.func54 rfl rfl Try.ntmps54 Try.results54 (by simp) ?_; simp (maxSteps := 400000) (dsimp := false) only [a0, a1, hS, axs, AThen, ABlock, dstsOk, AStep, callsF, AWant, aop, AS.ev, AS.put, upd, AS.bound, abin, aint, aload, astore, cellsAt, AV.cells, alen, elems, AV.int?, FPost, aresL, ares1, pack, afill, splice, Value.oneCell', Nat.reduceLT, Nat.reduceLeDiff, Nat.reduceEqDiff, Nat.reduceAdd, Nat.reduceMul, Nat.reduceSub, Nat.reduceBEq, Int.reduceLE, Int.reduceLT, Int.reduceToNat, Int.reduceNeg, Int.reduceEq, axt, ftK, ft3, pickP, AScope, AAll, pickQ, ftQ, inHeap, Nd.cells, getF, tys]
      exact ⟨_, rfl, rfl, StTo.same h⟩
    · have hq : 0 ≤ q ∧ q < x.rows.length := by omega
      by_cases h0 : nodeI x.T k = 0
      · have e1 : psOk x q k = true := by unfold psOk; rw [decide_eq_true hq, decide_eq_true h0]; rfl
        have e2 : psbS x q k = ⟨(layS (pshR x.R k) x.rows q (backR x.rows q) (raAlloc x.R).2 0).1, (layS (pshR x.R k) x.rows q (backR x.rows q) (raAlloc x.R).2 0).2, pushL x.ls q (raAlloc x.R).2 false, hPut x.T k (raAlloc x.R).2⟩ := if_pos e1
        rw [e1, e2]
        have ok := o.i.inv.ok
        obtain ⟨al1, al2, _⟩ := raAlloc_all ok
        have hev := o.ev
        have hi : I32ok (raAlloc x.R).2 := ⟨by omega, by omega⟩
        have okA := (arAlloc_of ok).2.1
        have hlo := psh_ok o.i k hq
        have hfi : Fine (pshR x.R k) x.rows (raAlloc x.R).2 := (o.i.inv.psh k).fine (by have := o.q; omega) (by have := (pshR_ever x.R k).1; omega) _ hi
        refine HCalls.walk Try.func54 rfl rfl Try.ntmps54 Try.results54 (by simp) ?_; simp (maxSteps := 400000) (dsimp := false) only [a0, a1, hS, axs, AThen, ABlock, dstsOk, AStep, callsF, AWant, aop, AS.ev, AS.put, upd, AS.bound, abin, aint, aload, astore, cellsAt, AV.cells, alen, elems, AV.int?, FPost, aresL, ares1, pack, afill, splice, Value.oneCell', Nat.reduceLT, Nat.reduceLeDiff, Nat.reduceEqDiff, Nat.reduceAdd, Nat.reduceMul, Nat.reduceSub, Nat.reduceBEq, Int.reduceLE, Int.reduceLT, Int.reduceToNat, Int.reduceNeg, Int.reduceEq, axt, ftK, ft3, pickP, AScope, AAll, pickQ, ftQ, inHeap, Nd.cells, getF, tys]
        refine ACallK.heap _ rfl (cStNode h o hk) ?_
        rintro v H2 n2 ⟨rfl, kp⟩
        have kp : Keeps H n H2 n2 := kp
        have h2 := h.keeps kp
        have hS2 := h2.hS
        simp (maxSteps := 400000) (dsimp := false) only [h0, hS2, axs, AThen, ABlock, dstsOk, AStep, callsF, AWant, aop, AS.ev, AS.put, upd, AS.bound, abin, aint, aload, astore, cellsAt, AV.cells, alen, elems, AV.int?, FPost, aresL, ares1, pack, afill, splice, Value.oneCell', Nat.reduceLT, Nat.reduceLeDiff, Nat.reduceEqDiff, Nat.reduceAdd, Nat.reduceMul, Nat.reduceSub, Nat.reduceBEq, Int.reduceLE, Int.reduceLT, Int.reduceToNat, Int.reduceNeg, Int.reduceEq, axt, ftK, ft3, pickP, AScope, AAll, pickQ, ftQ, inHeap, Nd.cells, getF, tys]
        refine ACallK.heap _ rfl (cRAlloc h2.l.ar ok (by omega)) ?_
        rintro v H3 n3 ⟨rfl, to3⟩
        obtain ⟨le3, kp3, s3, ts3, fv3, h3, own3⟩ := h2.nodes to3
        have le3 : n2 ≤ n3 := le3
        have hS3 := h3.hS
        have cs := (cRSet h3.l.ar okA (raAlloc x.R).2 hi ⟨k, 0, 0, 0, 0, 0⟩).mono (R' := fun y H' n' => y = .sc (.bool (raSet (raAlloc x.R).1 (raAlloc x.R).2 ⟨k, 0, 0, 0, 0, 0⟩).2) ∧ ArTo H3 n3 a s3 fv3 H' n' (arnOf (pshR x.R k))) (fun y H' n' ⟨q1, q2, q3⟩ => ⟨q1, by rw [q2, q3]; exact ArTo.setR h3.l.ar okA _ _⟩)
        simp (maxSteps := 400000) (dsimp := false) only [hS3, axs, AThen, ABlock, dstsOk, AStep, callsF, AWant, aop, AS.ev, AS.put, upd, AS.bound, abin, aint, aload, astore, cellsAt, AV.cells, alen, elems, AV.int?, FPost, aresL, ares1, pack, afill, splice, Value.oneCell', Nat.reduceLT, Nat.reduceLeDiff, Nat.reduceEqDiff, Nat.reduceAdd, Nat.reduceMul, Nat.reduceSub, Nat.reduceBEq, Int.reduceLE, Int.reduceLT, Int.reduceToNat, Int.reduceNeg, Int.reduceEq, axt, ftK, ft3, pickP, AScope, AAll, pickQ, ftQ, inHeap, Nd.cells, getF, tys]
        refine ACallK.heap _ rfl cs ?_
        rintro v H4 n4 ⟨rfl, to4⟩
        obtain ⟨le4, kp4, s4, ts4, fv4, h4, own4⟩ := h3.nodes to4
        have le4 : n3 ≤ n4 := le4
        have hS4 := h4.hS
        simp (maxSteps := 400000) (dsimp := false) only [hS4, axs, AThen, ABlock, dstsOk, AStep, callsF, AWant, aop, AS.ev, AS.put, upd, AS.bound, abin, aint, aload, astore, cellsAt, AV.cells, alen, elems, AV.int?, FPost, aresL, ares1, pack, afill, splice, Value.oneCell', Nat.reduceLT, Nat.reduceLeDiff, Nat.reduceEqDiff, Nat.reduceAdd, Nat.reduceMul, Nat.reduceSub, Nat.reduceBEq, Int.reduceLE, Int.reduceLT, Int.reduceToNat, Int.reduceNeg, Int.reduceEq, axt, ftK, ft3, pickP, AScope, AAll, pickQ, ftQ, inHeap, Nd.cells, getF, tys]
        refine ACallK.heap _ rfl (cHtPut h4.t o.i.ok o.tl hk (raAlloc x.R).2) ?_
        rintro v H5 n5 ⟨rfl, to5⟩
        obtain ⟨le5, kp5, s5, ts5, fv5, h5, own5⟩ := h4.table to5
        have le5 : n4 ≤ n5 := le5
        have hS5 := h5.hS
        simp (maxSteps := 400000) (dsimp := false) only [hS5, axs, AThen, ABlock, dstsOk, AStep, callsF, AWant, aop, AS.ev, AS.put, upd, AS.bound, abin, aint, aload, astore, cellsAt, AV.cells, alen, elems, AV.int?, FPost, aresL, ares1, pack, afill, splice, Value.oneCell', Nat.reduceLT, Nat.reduceLeDiff, Nat.reduceEqDiff, Nat.reduceAdd, Nat.reduceMul, Nat.reduceSub, Nat.reduceBEq, Int.reduceLE, Int.reduceLT, Int.reduceToNat, Int.reduceNeg, Int.reduceEq, axt, ftK, ft3, pickP, AScope, AAll, pickQ, ftQ, inHeap, Nd.cells, getF, tys]
        refine ACallK.heap _ rfl (cLsPushBack h5.l q (raAlloc x.R).2 hfi) ?_
        rintro v H6 n6 ⟨rfl, to6⟩
        simp (maxSteps := 400000) (dsimp := false) only [hlo, axs, AThen, ABlock, dstsOk, AStep, callsF, AWant, aop, AS.ev, AS.put, upd, AS.bound, abin, aint, aload, astore, cellsAt, AV.cells, alen, elems, AV.int?, FPost, aresL, ares1, pack, afill, splice, Value.oneCell', Nat.reduceLT, Nat.reduceLeDiff, Nat.reduceEqDiff, Nat.reduceAdd, Nat.reduceMul, Nat.reduceSub, Nat.reduceBEq, Int.reduceLE, Int.reduceLT, Int.reduceToNat, Int.reduceNeg, Int.reduceEq, axt, ftK, ft3, pickP, AScope, AAll, pickQ, ftQ, inHeap, Nd.cells, getF, tys]
        exact ⟨_, rfl, rfl, StTo.after kp (StTo.then le3 kp3 own3 (StTo.then le4 kp4 own4 (StTo.then le5 kp5 own5 (h5.lists to6 (layS_len _ _ _ _ _ _) _))))⟩
      · have e1 : psOk x q k = false := by unfold psOk; rw [decide_eq_false h0, Bool.and_false]
        have e2 : psbS x q k = x := if_neg (by rw [e1]; simp)
        rw [e1, e2]
        refine HCalls.walk Try.func54 rfl rfl Try.ntmps54 Try.results54 (by simp) ?_; simp (maxSteps := 400000) (dsimp := false) only [a0, a1, hS, axs, AThen, ABlock, dstsOk, AStep, callsF, AWant, aop, AS.ev, AS.put, upd, AS.bound, abin, aint, aload, astore, cellsAt, AV.cells, alen, elems, AV.int?, FPost, aresL, ares1, pack, afill, splice, Value.oneCell', Nat.reduceLT, Nat.reduceLeDiff, Nat.reduceEqDiff, Nat.reduceAdd, Nat.reduceMul, Nat.reduceSub, Nat.reduceBEq, Int.reduceLE, Int.reduceLT, Int.reduceToNat, Int.reduceNeg, Int.reduceEq, axt, ftK, ft3, pickP, AScope, AAll, pickQ, ftQ, inHeap, Nd.cells, getF, tys]
        refine ACallK.heap _ rfl (cStNode h o hk) ?_
        rintro v H2 n2 ⟨rfl, kp⟩
        have kp : Keeps H n H2 n2 := kp
        have h2 := h.keeps kp
        simp (maxSteps := 400000) (dsimp := false) only [h0, axs, AThen, ABlock, dstsOk, AStep, callsF, AWant, aop, AS.ev, AS.put, upd, AS.bound, abin, aint, aload, astore, cellsAt, AV.cells, alen, elems, AV.int?, FPost, aresL, ares1, pack, afill, splice, Value.oneCell', Nat.reduceLT, Nat.reduceLeDiff, Nat.reduceEqDiff, Nat.reduceAdd, Nat.reduceMul, Nat.reduceSub, Nat.reduceBEq, Int.reduceLE, Int.reduceLT, Int.reduceToNat, Int.reduceNeg, Int.reduceEq, axt, ftK, ft3, pickP, AScope, AAll, pickQ, ftQ, inHeap, Nd.cells, getF, tys]
        exact ⟨_, rfl, rfl, StTo.after kp (StTo.same h2)⟩
theorem cStPBack (h : StL H n S L r a s ta ts fv x) (o : SOk x) (q : Int) {k : Int} (hk : Key k) :
    HCalls Try.prog 26 [.ptr S 4 0 0, .sc (.int .i64 q), .sc (.int .u64 k)] H n fun y H' n' => y = .sc (.bool (psOk x q k)) ∧ StTo H n S L r a s ta ts fv H' n' (psbS x q k) := by
  refine HCalls.walk Try.func26 rfl rfl Try.ntmps26 Try.results26 (by simp) ?_; simp (maxSteps := 400000) (dsimp := false) only [axs, AThen, ABlock, dstsOk, AStep, callsF, AWant, aop, AS.ev, AS.put, upd, AS.bound, abin, aint, aload, astore, cellsAt, AV.cells, alen, elems, AV.int?, FPost, aresL, ares1, pack, afill, splice, Value.oneCell', Nat.reduceLT, Nat.reduceLeDiff, Nat.reduceEqDiff, Nat.reduceAdd, Nat.reduceMul, Nat.reduceSub, Nat.reduceBEq, Int.reduceLE, Int.reduceLT, Int.reduceToNat, Int.reduceNeg, Int.reduceEq, axt, ftK, ft3, pickP, AScope, AAll, pickQ, ftQ, inHeap, Nd.cells, getF, tys]
  refine ACallK.heap _ rfl (cStPushBack h o q hk) ?_
  rintro v H2 n2 ⟨rfl, to⟩
  simp (maxSteps := 400000) (dsimp := false) only [axs, AThen, ABlock, dstsOk, AStep, callsF, AWant, aop, AS.ev, AS.put, upd, AS.bound, abin, aint, aload, astore, cellsAt, AV.cells, alen, elems, AV.int?, FPost, aresL, ares1, pack, afill, splice, Value.oneCell', Nat.reduceLT, Nat.reduceLeDiff, Nat.reduceEqDiff, Nat.reduceAdd, Nat.reduceMul, Nat.reduceSub, Nat.reduceBEq, Int.reduceLE, Int.reduceLT, Int.reduceToNat, Int.reduceNeg, Int.reduceEq, axt, ftK, ft3, pickP, AScope, AAll, pickQ, ftQ, inHeap, Nd.cells, getF, tys]
  exact ⟨_, rfl, rfl, to⟩
end
end Go.Al
