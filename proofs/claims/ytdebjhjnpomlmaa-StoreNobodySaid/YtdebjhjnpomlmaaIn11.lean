/- Lists of places, by the program: pushed, taken out, moved. Conditions: the rows are short. -/
import Derived.Test.YtdebjhjnpomlmaaIn10
set_option linter.unusedVariables false
set_option linter.unusedSimpArgs false
set_option maxRecDepth 20000
set_option maxHeartbeats 1600000
-- axs, AThen, ABlock, dstsOk, AStep, callsF, AWant, aop, AS.ev, AS.put, upd, AS.bound, abin, aint, aload, astore, cellsAt, AV.cells, alen, elems, AV.int?, FPost, aresL, ares1, pack, afill, splice, Value.oneCell', Nat.reduceLT, Nat.reduceLeDiff, Nat.reduceEqDiff, Nat.reduceAdd, Nat.reduceMul, Nat.reduceSub, Nat.reduceBEq, Int.reduceLE, Int.reduceLT, Int.reduceToNat, Int.reduceNeg, Int.reduceEq, axt, ftK, ft3, pickP, AScope, AAll, pickQ, ftQ, inHeap, Nd.cells, tys: Nd.cells
namespace Go.Al
open Go.Proofs
/-- What is told of nodes and rows ahead of an act on place i. -/
structure Fine (R : RA) (rows : List Rw) (i : Int) : Prop where
  ok : RaOk R
  ii : I32ok i
  t0 : 0 ≤ (raAt R i).tag
  t1 : (raAt R i).tag ≤ 1000
  p : I32ok (raAt R i).prev
  q : I32ok (raAt R i).next
  hl : rows.length ≤ 1000
  hm : ∀ w ∈ rows, (0 ≤ w.n ∧ w.n ≤ 1000) ∧ I32ok w.f ∧ I32ok w.b
def frontR (rows : List Rw) (t : Int) : Int := if 0 ≤ t ∧ t < rows.length then (rows.getD t.toNat r0).f else 0
def backR (rows : List Rw) (t : Int) : Int := if 0 ≤ t ∧ t < rows.length then (rows.getD t.toNat r0).b else 0
theorem i32_0 : I32ok 0 := ⟨by omega, by omega⟩
theorem getD_mem {rows : List Rw} {t : Int} (h : 0 ≤ t ∧ t < rows.length) : rows[t.toNat]? = some (rows.getD t.toNat r0) := by
  have hlt : t.toNat < rows.length := by omega
  rw [List.getD_eq_getElem?_getD, List.getElem?_eq_getElem hlt]; rfl
theorem Fine.front {R : RA} {rows : List Rw} {i : Int} (h : Fine R rows i) (t : Int) : I32ok (frontR rows t) := by
  unfold frontR
  split
  · rename_i hc; exact (h.hm _ (List.mem_of_getElem? (getD_mem hc))).2.1
  · exact i32_0
theorem Fine.back {R : RA} {rows : List Rw} {i : Int} (h : Fine R rows i) (t : Int) : I32ok (backR rows t) := by
  unfold backR
  split
  · rename_i hc; exact (h.hm _ (List.mem_of_getElem? (getD_mem hc))).2.2
  · exact i32_0
theorem cLsPushFront {H : AH} {n L r a s : Nat} {fv : AV} {R : RA} {rows : List Rw} (h : LsH H n L r a s fv R rows) (t i : Int) (g : Fine R rows i) :
    HCalls Try.prog 55 [.ptr L 2 0 0, .sc (.int .i64 t), .sc (.int .i32 i)] H n fun v H' n' => v = .sc (.bool (layOk R rows t i)) ∧ LsTo H n L r a s fv H' n' (layS R rows t 0 i (frontR rows t)).1 (layS R rows t 0 i (frontR rows t)).2 := by
  refine HCalls.walk Try.func55 rfl rfl Try.ntmps55 Try.results55 (by simp) ?_; simp (maxSteps := 400000) (dsimp := false) only [axs, AThen, ABlock, dstsOk, AStep, callsF, AWant, aop, AS.ev, AS.put, upd, AS.bound, abin, aint, aload, astore, cellsAt, AV.cells, alen, elems, AV.int?, FPost, aresL, ares1, pack, afill, splice, Value.oneCell', Nat.reduceLT, Nat.reduceLeDiff, Nat.reduceEqDiff, Nat.reduceAdd, Nat.reduceMul, Nat.reduceSub, Nat.reduceBEq, Int.reduceLE, Int.reduceLT, Int.reduceToNat, Int.reduceNeg, Int.reduceEq, axt, ftK, ft3, pickP, AScope, AAll, pickQ, ftQ, inHeap, Nd.cells, tys]
  refine ACallK.heap _ rfl (cLsFront h t) ?_; rintro r' H' n' ⟨rfl, eH, en⟩; obtain rfl := eH.symm; obtain rfl := en.symm; clear eH en; simp (maxSteps := 400000) (dsimp := false) only [axs, AThen, ABlock, dstsOk, AStep, callsF, AWant, aop, AS.ev, AS.put, upd, AS.bound, abin, aint, aload, astore, cellsAt, AV.cells, alen, elems, AV.int?, FPost, aresL, ares1, pack, afill, splice, Value.oneCell', Nat.reduceLT, Nat.reduceLeDiff, Nat.reduceEqDiff, Nat.reduceAdd, Nat.reduceMul, Nat.reduceSub, Nat.reduceBEq, Int.reduceLE, Int.reduceLT, Int.reduceToNat, Int.reduceNeg, Int.reduceEq, axt, ftK, ft3, pickP, AScope, AAll, pickQ, ftQ, inHeap, Nd.cells, tys]
  refine ACallK.heap _ rfl (cLsLay h g.ok t 0 i (frontR rows t) i32_0 g.ii (g.front t) g.t0 g.t1 g.hl fun w hw => (g.hm w hw).1) ?_
  rintro v H' n' ⟨rfl, to⟩
  simp (maxSteps := 400000) (dsimp := false) only [axs, AThen, ABlock, dstsOk, AStep, callsF, AWant, aop, AS.ev, AS.put, upd, AS.bound, abin, aint, aload, astore, cellsAt, AV.cells, alen, elems, AV.int?, FPost, aresL, ares1, pack, afill, splice, Value.oneCell', Nat.reduceLT, Nat.reduceLeDiff, Nat.reduceEqDiff, Nat.reduceAdd, Nat.reduceMul, Nat.reduceSub, Nat.reduceBEq, Int.reduceLE, Int.reduceLT, Int.reduceToNat, Int.reduceNeg, Int.reduceEq, axt, ftK, ft3, pickP, AScope, AAll, pickQ, ftQ, inHeap, Nd.cells, tys]
  exact ⟨_, rfl, rfl, to⟩
theorem cLsPushBack {H : AH} {n L r a s : Nat} {fv : AV} {R : RA} {rows : List Rw} (h : LsH H n L r a s fv R rows) (t i : Int) (g : Fine R rows i) :
    HCalls Try.prog 56 [.ptr L 2 0 0, .sc (.int .i64 t), .sc (.int .i32 i)] H n fun v H' n' => v = .sc (.bool (layOk R rows t i)) ∧ LsTo H n L r a s fv H' n' (layS R rows t (backR rows t) i 0).1 (layS R rows t (backR rows t) i 0).2 := by
  refine HCalls.walk Try.func56 rfl rfl Try.ntmps56 Try.results56 (by simp) ?_; simp (maxSteps := 400000) (dsimp := false) only [axs, AThen, ABlock, dstsOk, AStep, callsF, AWant, aop, AS.ev, AS.put, upd, AS.bound, abin, aint, aload, astore, cellsAt, AV.cells, alen, elems, AV.int?, FPost, aresL, ares1, pack, afill, splice, Value.oneCell', Nat.reduceLT, Nat.reduceLeDiff, Nat.reduceEqDiff, Nat.reduceAdd, Nat.reduceMul, Nat.reduceSub, Nat.reduceBEq, Int.reduceLE, Int.reduceLT, Int.reduceToNat, Int.reduceNeg, Int.reduceEq, axt, ftK, ft3, pickP, AScope, AAll, pickQ, ftQ, inHeap, Nd.cells, tys]
  refine ACallK.heap _ rfl (cLsBack h t) ?_; rintro r' H' n' ⟨rfl, eH, en⟩; obtain rfl := eH.symm; obtain rfl := en.symm; clear eH en; simp (maxSteps := 400000) (dsimp := false) only [axs, AThen, ABlock, dstsOk, AStep, callsF, AWant, aop, AS.ev, AS.put, upd, AS.bound, abin, aint, aload, astore, cellsAt, AV.cells, alen, elems, AV.int?, FPost, aresL, ares1, pack, afill, splice, Value.oneCell', Nat.reduceLT, Nat.reduceLeDiff, Nat.reduceEqDiff, Nat.reduceAdd, Nat.reduceMul, Nat.reduceSub, Nat.reduceBEq, Int.reduceLE, Int.reduceLT, Int.reduceToNat, Int.reduceNeg, Int.reduceEq, axt, ftK, ft3, pickP, AScope, AAll, pickQ, ftQ, inHeap, Nd.cells, tys]
  refine ACallK.heap _ rfl (cLsLay h g.ok t (backR rows t) i 0 (g.back t) g.ii i32_0 g.t0 g.t1 g.hl fun w hw => (g.hm w hw).1) ?_
  rintro v H' n' ⟨rfl, to⟩
  simp (maxSteps := 400000) (dsimp := false) only [axs, AThen, ABlock, dstsOk, AStep, callsF, AWant, aop, AS.ev, AS.put, upd, AS.bound, abin, aint, aload, astore, cellsAt, AV.cells, alen, elems, AV.int?, FPost, aresL, ares1, pack, afill, splice, Value.oneCell', Nat.reduceLT, Nat.reduceLeDiff, Nat.reduceEqDiff, Nat.reduceAdd, Nat.reduceMul, Nat.reduceSub, Nat.reduceBEq, Int.reduceLE, Int.reduceLT, Int.reduceToNat, Int.reduceNeg, Int.reduceEq, axt, ftK, ft3, pickP, AScope, AAll, pickQ, ftQ, inHeap, Nd.cells, tys]
  exact ⟨_, rfl, rfl, to⟩
def offOk (R : RA) (rows : List Rw) (i : Int) : Bool := decide (1 ≤ (raAt R i).tag ∧ (raAt R i).tag - 1 < rows.length)
def offS (R : RA) (rows : List Rw) (i : Int) : RA × List Rw :=
  if offOk R rows i then ((offR R (rows.getD ((raAt R i).tag - 1).toNat r0) i).1, rows.set ((raAt R i).tag - 1).toNat (offR R (rows.getD ((raAt R i).tag - 1).toNat r0) i).2) else (R, rows)
theorem cLsRemove {H : AH} {n L r a s : Nat} {fv : AV} {R : RA} {rows : List Rw} (h : LsH H n L r a s fv R rows) (i : Int) (g : Fine R rows i) :
    HCalls Try.prog 58 [.ptr L 2 0 0, .sc (.int .i32 i)] H n fun v H' n' => v = .sc (.bool (offOk R rows i)) ∧ LsTo H n L r a s fv H' n' (offS R rows i).1 (offS R rows i).2 := by
  have hL := h.hL
  have nL := h.lL
  have nr := h.lr
  have ne1 : ¬ L = n := by omega
  have ne2 : ¬ L = n + 1 := by omega
  have ne3 : ¬ L = n + 2 := by omega
  have ok := g.ok
  have hi := g.ii
  have hs := h.ar.slt
  have h1 := h.new (x := some (.obj 82 6 [(raAt R i).cells] false))
  by_cases hc : 1 ≤ (raAt R i).tag ∧ (raAt R i).tag - 1 < rows.length
  · have hlo : offOk R rows i = true := decide_eq_true hc
    have hc' : 0 ≤ (raAt R i).tag - 1 ∧ (raAt R i).tag - 1 < rows.length := ⟨by omega, hc.2⟩
    have hp : lsP r rows.length ((raAt R i).tag - 1) = .ptr r 3 ((raAt R i).tag - 1).toNat 0 := if_pos hc'
    have hw := getD_mem hc'
    have hwm := g.hm _ (List.mem_of_getElem? hw)
    have hlt : ((raAt R i).tag - 1).toNat < rows.length := by omega
    unfold offS
    rw [if_pos hlo, hlo]
    have hA : offR R (rows.getD ((raAt R i).tag - 1).toNat r0) i = (wth (joinR R (rows.getD ((raAt R i).tag - 1).toNat r0) (raAt R i).prev (raAt R i).next).1 i gOff, ⟨(joinR R (rows.getD ((raAt R i).tag - 1).toNat r0) (raAt R i).prev (raAt R i).next).2.f, (joinR R (rows.getD ((raAt R i).tag - 1).toNat r0) (raAt R i).prev (raAt R i).next).2.b, (joinR R (rows.getD ((raAt R i).tag - 1).toNat r0) (raAt R i).prev (raAt R i).next).2.n - 1⟩) := rfl
    rw [hA]
    generalize hwe : rows.getD ((raAt R i).tag - 1).toNat r0 = w at *
    have h3 := (h1.new (x := some (.obj 82 6 [(raAt R i).cells] false))).new (x := some (.obj 82 6 [(raAt R i).cells] false))
    have cj := cLsJoin h3 ok hw (raAt R i).prev (raAt R i).next g.p g.q
    have ok2 := (joinR_ok ok w (raAt R i).prev (raAt R i).next).1
    have hnA := joinR_n R w (raAt R i).prev (raAt R i).next
    generalize joinR R w (raAt R i).prev (raAt R i).next = A at *
    refine HCalls.walk Try.func58 rfl rfl Try.ntmps58 Try.results58 (by simp) ?_; simp (maxSteps := 400000) (dsimp := false) only [axs, AThen, ABlock, dstsOk, AStep, callsF, AWant, aop, AS.ev, AS.put, upd, AS.bound, abin, aint, aload, astore, cellsAt, AV.cells, alen, elems, AV.int?, FPost, aresL, ares1, pack, afill, splice, Value.oneCell', Nat.reduceLT, Nat.reduceLeDiff, Nat.reduceEqDiff, Nat.reduceAdd, Nat.reduceMul, Nat.reduceSub, Nat.reduceBEq, Int.reduceLE, Int.reduceLT, Int.reduceToNat, Int.reduceNeg, Int.reduceEq, axt, ftK, ft3, pickP, AScope, AAll, pickQ, ftQ, inHeap, Nd.cells, tys]
    refine ACallK.heap _ rfl (cLsTag h ok i hi g.t0 g.t1) ?_; rintro r' H' n' ⟨rfl, eH, en⟩; obtain rfl := eH.symm; obtain rfl := en.symm; clear eH en; simp (maxSteps := 400000) (dsimp := false) only [axs, AThen, ABlock, dstsOk, AStep, callsF, AWant, aop, AS.ev, AS.put, upd, AS.bound, abin, aint, aload, astore, cellsAt, AV.cells, alen, elems, AV.int?, FPost, aresL, ares1, pack, afill, splice, Value.oneCell', Nat.reduceLT, Nat.reduceLeDiff, Nat.reduceEqDiff, Nat.reduceAdd, Nat.reduceMul, Nat.reduceSub, Nat.reduceBEq, Int.reduceLE, Int.reduceLT, Int.reduceToNat, Int.reduceNeg, Int.reduceEq, axt, ftK, ft3, pickP, AScope, AAll, pickQ, ftQ, inHeap, Nd.cells, tys]
    refine ACallK.heap _ rfl (cLsList h1 ((raAt R i).tag - 1)) ?_; rintro r' H' n' ⟨rfl, eH, en⟩; obtain rfl := eH.symm; obtain rfl := en.symm; clear eH en; simp (maxSteps := 400000) (dsimp := false) only [hp, hL, ne1, ne2, ne3, axs, AThen, ABlock, dstsOk, AStep, callsF, AWant, aop, AS.ev, AS.put, upd, AS.bound, abin, aint, aload, astore, cellsAt, AV.cells, alen, elems, AV.int?, FPost, aresL, ares1, pack, afill, splice, Value.oneCell', Nat.reduceLT, Nat.reduceLeDiff, Nat.reduceEqDiff, Nat.reduceAdd, Nat.reduceMul, Nat.reduceSub, Nat.reduceBEq, Int.reduceLE, Int.reduceLT, Int.reduceToNat, Int.reduceNeg, Int.reduceEq, axt, ftK, ft3, pickP, AScope, AAll, pickQ, ftQ, inHeap, Nd.cells, tys]
    refine ACallK.heap _ rfl (cRAt h1.ar ok i hi) ?_; rintro r' H' n' ⟨rfl, eH, en⟩; obtain rfl := eH.symm; obtain rfl := en.symm; clear eH en; simp (maxSteps := 400000) (dsimp := false) only [hL, ne1, ne2, ne3, upd_upd, axs, AThen, ABlock, dstsOk, AStep, callsF, AWant, aop, AS.ev, AS.put, upd, AS.bound, abin, aint, aload, astore, cellsAt, AV.cells, alen, elems, AV.int?, FPost, aresL, ares1, pack, afill, splice, Value.oneCell', Nat.reduceLT, Nat.reduceLeDiff, Nat.reduceEqDiff, Nat.reduceAdd, Nat.reduceMul, Nat.reduceSub, Nat.reduceBEq, Int.reduceLE, Int.reduceLT, Int.reduceToNat, Int.reduceNeg, Int.reduceEq, axt, ftK, ft3, pickP, AScope, AAll, pickQ, ftQ, inHeap, Nd.cells, tys]
    refine ACallK.heap _ rfl cj ?_
    rintro v H2 n2 ⟨rfl, to2⟩
    have to2 : LsTo _ (n + 1 + 1 + 1) L r a s fv H2 n2 A.1 (rows.set ((raAt R i).tag - 1).toNat A.2) := to2
    have hw3 : (rows.set ((raAt R i).tag - 1).toNat A.2)[((raAt R i).tag - 1).toNat]? = some A.2 := List.getElem?_set_self hlt
    have hg3 := RW_get hw3
    have hr3 := to2.ls.hr
    have wr : IntKind.i64.wrap (A.2.n - 1) = A.2.n - 1 := IntWalk.i64_in _ ⟨by omega, by omega⟩
    have e3 : (RW (rows.set ((raAt R i).tag - 1).toNat A.2)).set ((raAt R i).tag - 1).toNat [.sc (.int .i32 A.2.f), .sc (.int .i32 A.2.b), .sc (.int .i64 (A.2.n - 1))] = RW (rows.set ((raAt R i).tag - 1).toNat ⟨A.2.f, A.2.b, A.2.n - 1⟩) :=
      (RW_set (rows.set ((raAt R i).tag - 1).toNat A.2) ((raAt R i).tag - 1).toNat ⟨A.2.f, A.2.b, A.2.n - 1⟩).trans (by rw [List.set_set])
    have to3 := LsTo.row to2.ls (rows' := rows.set ((raAt R i).tag - 1).toNat ⟨A.2.f, A.2.b, A.2.n - 1⟩) (by simp)
    simp (maxSteps := 400000) (dsimp := false) only [hr3, hg3, wr, e3, axs, AThen, ABlock, dstsOk, AStep, callsF, AWant, aop, AS.ev, AS.put, upd, AS.bound, abin, aint, aload, astore, cellsAt, AV.cells, alen, elems, AV.int?, FPost, aresL, ares1, pack, afill, splice, Value.oneCell', Nat.reduceLT, Nat.reduceLeDiff, Nat.reduceEqDiff, Nat.reduceAdd, Nat.reduceMul, Nat.reduceSub, Nat.reduceBEq, Int.reduceLE, Int.reduceLT, Int.reduceToNat, Int.reduceNeg, Int.reduceEq, axt, ftK, ft3, pickP, AScope, AAll, pickQ, ftQ, inHeap, Nd.cells, tys]
    refine ACallK.heap _ rfl (cLsWithT to3.ls ok2 i hi tOff) ?_
    rintro v H4 n4 ⟨rfl, to4⟩
    simp (maxSteps := 400000) (dsimp := false) only [axs, AThen, ABlock, dstsOk, AStep, callsF, AWant, aop, AS.ev, AS.put, upd, AS.bound, abin, aint, aload, astore, cellsAt, AV.cells, alen, elems, AV.int?, FPost, aresL, ares1, pack, afill, splice, Value.oneCell', Nat.reduceLT, Nat.reduceLeDiff, Nat.reduceEqDiff, Nat.reduceAdd, Nat.reduceMul, Nat.reduceSub, Nat.reduceBEq, Int.reduceLE, Int.reduceLT, Int.reduceToNat, Int.reduceNeg, Int.reduceEq, axt, ftK, ft3, pickP, AScope, AAll, pickQ, ftQ, inHeap, Nd.cells, tys]
    exact ⟨_, rfl, rfl, (((to2.trans (to3.trans to4)).new).new).new⟩
  · have hlo : offOk R rows i = false := decide_eq_false hc
    have hp : lsP r rows.length ((raAt R i).tag - 1) = .sc (.pointer none) := if_neg (by omega)
    unfold offS
    rw [if_neg (by rw [hlo]; simp), hlo]
    refine HCalls.walk Try.func58 rfl rfl Try.ntmps58 Try.results58 (by simp) ?_; simp (maxSteps := 400000) (dsimp := false) only [axs, AThen, ABlock, dstsOk, AStep, callsF, AWant, aop, AS.ev, AS.put, upd, AS.bound, abin, aint, aload, astore, cellsAt, AV.cells, alen, elems, AV.int?, FPost, aresL, ares1, pack, afill, splice, Value.oneCell', Nat.reduceLT, Nat.reduceLeDiff, Nat.reduceEqDiff, Nat.reduceAdd, Nat.reduceMul, Nat.reduceSub, Nat.reduceBEq, Int.reduceLE, Int.reduceLT, Int.reduceToNat, Int.reduceNeg, Int.reduceEq, axt, ftK, ft3, pickP, AScope, AAll, pickQ, ftQ, inHeap, Nd.cells, tys]
    refine ACallK.heap _ rfl (cLsTag h ok i hi g.t0 g.t1) ?_; rintro r' H' n' ⟨rfl, eH, en⟩; obtain rfl := eH.symm; obtain rfl := en.symm; clear eH en; simp (maxSteps := 400000) (dsimp := false) only [axs, AThen, ABlock, dstsOk, AStep, callsF, AWant, aop, AS.ev, AS.put, upd, AS.bound, abin, aint, aload, astore, cellsAt, AV.cells, alen, elems, AV.int?, FPost, aresL, ares1, pack, afill, splice, Value.oneCell', Nat.reduceLT, Nat.reduceLeDiff, Nat.reduceEqDiff, Nat.reduceAdd, Nat.reduceMul, Nat.reduceSub, Nat.reduceBEq, Int.reduceLE, Int.reduceLT, Int.reduceToNat, Int.reduceNeg, Int.reduceEq, axt, ftK, ft3, pickP, AScope, AAll, pickQ, ftQ, inHeap, Nd.cells, tys]
    refine ACallK.heap _ rfl (cLsList h1 ((raAt R i).tag - 1)) ?_; rintro r' H' n' ⟨rfl, eH, en⟩; obtain rfl := eH.symm; obtain rfl := en.symm; clear eH en; simp (maxSteps := 400000) (dsimp := false) only [hp, axs, AThen, ABlock, dstsOk, AStep, callsF, AWant, aop, AS.ev, AS.put, upd, AS.bound, abin, aint, aload, astore, cellsAt, AV.cells, alen, elems, AV.int?, FPost, aresL, ares1, pack, afill, splice, Value.oneCell', Nat.reduceLT, Nat.reduceLeDiff, Nat.reduceEqDiff, Nat.reduceAdd, Nat.reduceMul, Nat.reduceSub, Nat.reduceBEq, Int.reduceLE, Int.reduceLT, Int.reduceToNat, Int.reduceNeg, Int.reduceEq, axt, ftK, ft3, pickP, AScope, AAll, pickQ, ftQ, inHeap, Nd.cells, tys]
    exact ⟨_, rfl, rfl, (LsTo.same h1).new⟩
def mvOk (R : RA) (rows : List Rw) (t i : Int) : Bool := decide (0 ≤ t ∧ t < rows.length) && (offOk R rows i && layOk (offS R rows i).1 (offS R rows i).2 t i)
def mvS (R : RA) (rows : List Rw) (t i : Int) : RA × List Rw :=
  if 0 ≤ t ∧ t < rows.length then (if offOk R rows i then layS (offS R rows i).1 (offS R rows i).2 t 0 i (frontR (offS R rows i).2 t) else (R, rows)) else (R, rows)
theorem cLsMove {H : AH} {n L r a s : Nat} {fv : AV} {R : RA} {rows : List Rw} (h : LsH H n L r a s fv R rows) (t i : Int) (g : Fine R rows i) (g2 : Fine (offS R rows i).1 (offS R rows i).2 i) :
    HCalls Try.prog 57 [.ptr L 2 0 0, .sc (.int .i64 t), .sc (.int .i32 i)] H n fun v H' n' => v = .sc (.bool (mvOk R rows t i)) ∧ LsTo H n L r a s fv H' n' (mvS R rows t i).1 (mvS R rows t i).2 := by
  by_cases hc : 0 ≤ t ∧ t < rows.length
  · have hp : lsP r rows.length t = .ptr r 3 t.toNat 0 := if_pos hc
    by_cases ho : offOk R rows i = true
    · have hk : mvOk R rows t i = layOk (offS R rows i).1 (offS R rows i).2 t i := by unfold mvOk; simp [hc, ho]
      have hS : mvS R rows t i = layS (offS R rows i).1 (offS R rows i).2 t 0 i (frontR (offS R rows i).2 t) := by unfold mvS; rw [if_pos hc, if_pos ho]
      rw [hk, hS]
      refine HCalls.walk Try.func57 rfl rfl Try.ntmps57 Try.results57 (by simp) ?_; simp (maxSteps := 400000) (dsimp := false) only [axs, AThen, ABlock, dstsOk, AStep, callsF, AWant, aop, AS.ev, AS.put, upd, AS.bound, abin, aint, aload, astore, cellsAt, AV.cells, alen, elems, AV.int?, FPost, aresL, ares1, pack, afill, splice, Value.oneCell', Nat.reduceLT, Nat.reduceLeDiff, Nat.reduceEqDiff, Nat.reduceAdd, Nat.reduceMul, Nat.reduceSub, Nat.reduceBEq, Int.reduceLE, Int.reduceLT, Int.reduceToNat, Int.reduceNeg, Int.reduceEq, axt, ftK, ft3, pickP, AScope, AAll, pickQ, ftQ, inHeap, Nd.cells, tys]
      refine ACallK.heap _ rfl (cLsList h t) ?_; rintro r' H' n' ⟨rfl, eH, en⟩; obtain rfl := eH.symm; obtain rfl := en.symm; clear eH en; simp (maxSteps := 400000) (dsimp := false) only [hp, axs, AThen, ABlock, dstsOk, AStep, callsF, AWant, aop, AS.ev, AS.put, upd, AS.bound, abin, aint, aload, astore, cellsAt, AV.cells, alen, elems, AV.int?, FPost, aresL, ares1, pack, afill, splice, Value.oneCell', Nat.reduceLT, Nat.reduceLeDiff, Nat.reduceEqDiff, Nat.reduceAdd, Nat.reduceMul, Nat.reduceSub, Nat.reduceBEq, Int.reduceLE, Int.reduceLT, Int.reduceToNat, Int.reduceNeg, Int.reduceEq, axt, ftK, ft3, pickP, AScope, AAll, pickQ, ftQ, inHeap, Nd.cells, tys]
      refine ACallK.heap _ rfl (cLsRemove h i g) ?_
      rintro v H2 n2 ⟨rfl, to2⟩
      simp (maxSteps := 400000) (dsimp := false) only [ho, axs, AThen, ABlock, dstsOk, AStep, callsF, AWant, aop, AS.ev, AS.put, upd, AS.bound, abin, aint, aload, astore, cellsAt, AV.cells, alen, elems, AV.int?, FPost, aresL, ares1, pack, afill, splice, Value.oneCell', Nat.reduceLT, Nat.reduceLeDiff, Nat.reduceEqDiff, Nat.reduceAdd, Nat.reduceMul, Nat.reduceSub, Nat.reduceBEq, Int.reduceLE, Int.reduceLT, Int.reduceToNat, Int.reduceNeg, Int.reduceEq, axt, ftK, ft3, pickP, AScope, AAll, pickQ, ftQ, inHeap, Nd.cells, tys]
      refine ACallK.heap _ rfl (cLsPushFront to2.ls t i g2) ?_
      rintro v H3 n3 ⟨rfl, to3⟩
      simp (maxSteps := 400000) (dsimp := false) only [axs, AThen, ABlock, dstsOk, AStep, callsF, AWant, aop, AS.ev, AS.put, upd, AS.bound, abin, aint, aload, astore, cellsAt, AV.cells, alen, elems, AV.int?, FPost, aresL, ares1, pack, afill, splice, Value.oneCell', Nat.reduceLT, Nat.reduceLeDiff, Nat.reduceEqDiff, Nat.reduceAdd, Nat.reduceMul, Nat.reduceSub, Nat.reduceBEq, Int.reduceLE, Int.reduceLT, Int.reduceToNat, Int.reduceNeg, Int.reduceEq, axt, ftK, ft3, pickP, AScope, AAll, pickQ, ftQ, inHeap, Nd.cells, tys]
      exact ⟨_, rfl, rfl, to2.trans to3⟩
    · have ho : offOk R rows i = false := by simpa using ho
      have hk : mvOk R rows t i = false := by unfold mvOk; simp [ho]
      have hS : mvS R rows t i = (R, rows) := by unfold mvS; rw [if_pos hc, if_neg (by rw [ho]; simp)]
      have hO : offS R rows i = (R, rows) := by unfold offS; rw [if_neg (by rw [ho]; simp)]
      rw [hk, hS]
      refine HCalls.walk Try.func57 rfl rfl Try.ntmps57 Try.results57 (by simp) ?_; simp (maxSteps := 400000) (dsimp := false) only [axs, AThen, ABlock, dstsOk, AStep, callsF, AWant, aop, AS.ev, AS.put, upd, AS.bound, abin, aint, aload, astore, cellsAt, AV.cells, alen, elems, AV.int?, FPost, aresL, ares1, pack, afill, splice, Value.oneCell', Nat.reduceLT, Nat.reduceLeDiff, Nat.reduceEqDiff, Nat.reduceAdd, Nat.reduceMul, Nat.reduceSub, Nat.reduceBEq, Int.reduceLE, Int.reduceLT, Int.reduceToNat, Int.reduceNeg, Int.reduceEq, axt, ftK, ft3, pickP, AScope, AAll, pickQ, ftQ, inHeap, Nd.cells, tys]
      refine ACallK.heap _ rfl (cLsList h t) ?_; rintro r' H' n' ⟨rfl, eH, en⟩; obtain rfl := eH.symm; obtain rfl := en.symm; clear eH en; simp (maxSteps := 400000) (dsimp := false) only [hp, axs, AThen, ABlock, dstsOk, AStep, callsF, AWant, aop, AS.ev, AS.put, upd, AS.bound, abin, aint, aload, astore, cellsAt, AV.cells, alen, elems, AV.int?, FPost, aresL, ares1, pack, afill, splice, Value.oneCell', Nat.reduceLT, Nat.reduceLeDiff, Nat.reduceEqDiff, Nat.reduceAdd, Nat.reduceMul, Nat.reduceSub, Nat.reduceBEq, Int.reduceLE, Int.reduceLT, Int.reduceToNat, Int.reduceNeg, Int.reduceEq, axt, ftK, ft3, pickP, AScope, AAll, pickQ, ftQ, inHeap, Nd.cells, tys]
      refine ACallK.heap _ rfl (cLsRemove h i g) ?_
      rintro v H2 n2 ⟨rfl, to2⟩
      rw [hO] at to2
      simp (maxSteps := 400000) (dsimp := false) only [ho, axs, AThen, ABlock, dstsOk, AStep, callsF, AWant, aop, AS.ev, AS.put, upd, AS.bound, abin, aint, aload, astore, cellsAt, AV.cells, alen, elems, AV.int?, FPost, aresL, ares1, pack, afill, splice, Value.oneCell', Nat.reduceLT, Nat.reduceLeDiff, Nat.reduceEqDiff, Nat.reduceAdd, Nat.reduceMul, Nat.reduceSub, Nat.reduceBEq, Int.reduceLE, Int.reduceLT, Int.reduceToNat, Int.reduceNeg, Int.reduceEq, axt, ftK, ft3, pickP, AScope, AAll, pickQ, ftQ, inHeap, Nd.cells, tys]
      exact ⟨_, rfl, rfl, to2⟩
  · have hp : lsP r rows.length t = .sc (.pointer none) := if_neg hc
    have hk : mvOk R rows t i = false := by unfold mvOk; simp [hc]
    have hS : mvS R rows t i = (R, rows) := by unfold mvS; rw [if_neg hc]
    rw [hk, hS]
    refine HCalls.walk Try.func57 rfl rfl Try.ntmps57 Try.results57 (by simp) ?_; simp (maxSteps := 400000) (dsimp := false) only [axs, AThen, ABlock, dstsOk, AStep, callsF, AWant, aop, AS.ev, AS.put, upd, AS.bound, abin, aint, aload, astore, cellsAt, AV.cells, alen, elems, AV.int?, FPost, aresL, ares1, pack, afill, splice, Value.oneCell', Nat.reduceLT, Nat.reduceLeDiff, Nat.reduceEqDiff, Nat.reduceAdd, Nat.reduceMul, Nat.reduceSub, Nat.reduceBEq, Int.reduceLE, Int.reduceLT, Int.reduceToNat, Int.reduceNeg, Int.reduceEq, axt, ftK, ft3, pickP, AScope, AAll, pickQ, ftQ, inHeap, Nd.cells, tys]
    refine ACallK.heap _ rfl (cLsList h t) ?_; rintro r' H' n' ⟨rfl, eH, en⟩; obtain rfl := eH.symm; obtain rfl := en.symm; clear eH en; simp (maxSteps := 400000) (dsimp := false) only [hp, axs, AThen, ABlock, dstsOk, AStep, callsF, AWant, aop, AS.ev, AS.put, upd, AS.bound, abin, aint, aload, astore, cellsAt, AV.cells, alen, elems, AV.int?, FPost, aresL, ares1, pack, afill, splice, Value.oneCell', Nat.reduceLT, Nat.reduceLeDiff, Nat.reduceEqDiff, Nat.reduceAdd, Nat.reduceMul, Nat.reduceSub, Nat.reduceBEq, Int.reduceLE, Int.reduceLT, Int.reduceToNat, Int.reduceNeg, Int.reduceEq, axt, ftK, ft3, pickP, AScope, AAll, pickQ, ftQ, inHeap, Nd.cells, tys]
    exact ⟨_, rfl, rfl, LsTo.same h⟩
end Go.Al
