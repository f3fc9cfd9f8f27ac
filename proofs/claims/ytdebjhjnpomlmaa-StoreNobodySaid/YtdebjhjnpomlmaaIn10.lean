/- Lists of places, by the program: a place is laid between two, taken out, moved. Conditions: the rows are short. -/
import Derived.Test.YtdebjhjnpomlmaaIn9
set_option linter.unusedVariables false
set_option linter.unusedSimpArgs false
set_option maxRecDepth 20000
set_option maxHeartbeats 1600000
-- axs, AThen, ABlock, dstsOk, AStep, callsF, AWant, aop, AS.ev, AS.put, upd, AS.bound, abin, aint, aload, astore, cellsAt, AV.cells, alen, elems, AV.int?, FPost, aresL, ares1, pack, afill, splice, Value.oneCell', Nat.reduceLT, Nat.reduceLeDiff, Nat.reduceEqDiff, Nat.reduceAdd, Nat.reduceMul, Nat.reduceSub, Nat.reduceBEq, Int.reduceLE, Int.reduceLT, Int.reduceToNat, Int.reduceNeg, Int.reduceEq, axt, ftK, ft3, pickP, AScope, AAll, pickQ, ftQ, inHeap, Nd.cells, tys: Nd.cells
namespace Go.Al
open Go.Proofs
def layOk (R : RA) (rows : List Rw) (t i : Int) : Bool := decide (0 ≤ t ∧ t < rows.length) && raIs R i && decide ((raAt R i).tag = 0)
def layS (R : RA) (rows : List Rw) (t p i n : Int) : RA × List Rw :=
  if layOk R rows t i then ((layR R (rows.getD t.toNat r0) t p i n).1, rows.set t.toNat (layR R (rows.getD t.toNat r0) t p i n).2) else (R, rows)
theorem joinR_n (R : RA) (w : Rw) (p i : Int) : (joinR R w p i).2.n = w.n := by
  unfold joinR
  by_cases p0 : p = 0 <;> by_cases i0 : i = 0 <;> simp [p0, i0]
theorem cLsWithT {H : AH} {n L r a s : Nat} {fv : AV} {R : RA} {rows : List Rw} (h : LsH H n L r a s fv R rows) (ok : RaOk R) (i : Int) (hi : I32ok i) {f : Nat} {caps : List AV} {g : Nd → Nd} (hg : Turns H n f caps g) :
    HCalls Try.prog 78 [.ptr L 2 0 0, .sc (.int .i32 i), .fn f caps] H n fun v H' n' => v = .tup [] ∧ LsTo H n L r a s fv H' n' (wth R i g) rows :=
  (cLsWith h ok i hi hg).mono fun v H' n' ⟨e1, e2, e3⟩ => ⟨e1, by rw [e2, e3]; exact LsTo.wth h ok i g⟩
theorem cLsLay {H : AH} {n L r a s : Nat} {fv : AV} {R : RA} {rows : List Rw} (h : LsH H n L r a s fv R rows) (ok : RaOk R) (t p i q : Int) (hp : I32ok p) (hi : I32ok i) (hq : I32ok q) (h0 : 0 ≤ (raAt R i).tag) (h1 : (raAt R i).tag ≤ 1000) (hl : rows.length ≤ 1000)
    (hm : ∀ w ∈ rows, 0 ≤ w.n ∧ w.n ≤ 1000) :
    HCalls Try.prog 76 [.ptr L 2 0 0, .sc (.int .i64 t), .sc (.int .i32 p), .sc (.int .i32 i), .sc (.int .i32 q)] H n fun v H' n' => v = .sc (.bool (layOk R rows t i)) ∧ LsTo H n L r a s fv H' n' (layS R rows t p i q).1 (layS R rows t p i q).2 := by
  have hL := h.hL
  have nL := h.lL
  have nr := h.lr
  have ne1 : ¬ L = n := by omega
  have ne2 : ¬ L = n + 1 := by omega
  have ne3 : ¬ L = n + 2 := by omega
  have hs := h.ar.slt
  have hb := ((h.new (x := some (.obj 3 1 [[.sc (.int .i64 t)]] false))).new (x := some (.obj 21 1 [[.sc (.int .i32 p)]] false))).new (x := some (.obj 21 1 [[.sc (.int .i32 q)]] false))
  by_cases hc : 0 ≤ t ∧ t < rows.length
  · have hpt : lsP r rows.length t = .ptr r 3 t.toNat 0 := if_pos hc
    by_cases his : raIs R i = true
    · by_cases htg : (raAt R i).tag = 0
      · have hlo : layOk R rows t i = true := by unfold layOk; simp [hc, his, htg]
        have htg1 : (raAt R i).tag - 1 = -1 := by omega
        unfold layS
        rw [if_pos hlo, hlo]
        have hlt : t.toNat < rows.length := by omega
        have hw : rows[t.toNat]? = some (rows.getD t.toNat r0) := by rw [List.getD_eq_getElem?_getD, List.getElem?_eq_getElem hlt]; rfl
        have hwm := hm _ (List.mem_of_getElem? hw)
        generalize hwe : rows.getD t.toNat r0 = w at *
        have hb2 := hb.new (x := some (.obj 82 6 [(raAt R i).cells] false))
        have bx0 : ∀ (x y z u : Option AO), (upd (upd (upd (upd H n x) (n + 1) y) (n + 1 + 1) z) (n + 1 + 1 + 1) u) n = x := fun x y z u => by rw [upd_ne _ _ (by omega), upd_ne _ _ (by omega), upd_ne _ _ (by omega), upd_same]
        have bx1 : ∀ (x y z u : Option AO), (upd (upd (upd (upd H n x) (n + 1) y) (n + 1 + 1) z) (n + 1 + 1 + 1) u) (n + 1) = y := fun x y z u => by rw [upd_ne _ _ (by omega), upd_ne _ _ (by omega), upd_same]
        have bx2 : ∀ (x y z u : Option AO), (upd (upd (upd (upd H n x) (n + 1) y) (n + 1 + 1) z) (n + 1 + 1 + 1) u) (n + 1 + 1) = z := fun x y z u => by rw [upd_ne _ _ (by omega), upd_same]
        have ok1 := wth_ok ok i (gLay t p q)
        have ok2 := (joinR_ok ok1 w p i).1
        have hA : layR R w t p i q = ((joinR (joinR (wth R i (gLay t p q)) w p i).1 (joinR (wth R i (gLay t p q)) w p i).2 i q).1, ⟨(joinR (joinR (wth R i (gLay t p q)) w p i).1 (joinR (wth R i (gLay t p q)) w p i).2 i q).2.f, (joinR (joinR (wth R i (gLay t p q)) w p i).1 (joinR (wth R i (gLay t p q)) w p i).2 i q).2.b, (joinR (joinR (wth R i (gLay t p q)) w p i).1 (joinR (wth R i (gLay t p q)) w p i).2 i q).2.n + 1⟩) := rfl
        have cj := fun (H1 : AH) (n1 : Nat) (h1 : LsH H1 n1 L r a s fv (wth R i (gLay t p q)) rows) => cLsJoin h1 ok1 hw p i hp hi
        have hnA := joinR_n (wth R i (gLay t p q)) w p i
        rw [hA]
        generalize joinR (wth R i (gLay t p q)) w p i = A at *
        have hw2 : (rows.set t.toNat A.2)[t.toNat]? = some A.2 := List.getElem?_set_self hlt
        have hnB := (joinR_n A.1 A.2 i q).trans hnA
        refine HCalls.walk Try.func76 rfl rfl Try.ntmps76 Try.results76 (by simp) ?_; simp (maxSteps := 400000) (dsimp := false) only [axs, AThen, ABlock, dstsOk, AStep, callsF, AWant, aop, AS.ev, AS.put, upd, AS.bound, abin, aint, aload, astore, cellsAt, AV.cells, alen, elems, AV.int?, FPost, aresL, ares1, pack, afill, splice, Value.oneCell', Nat.reduceLT, Nat.reduceLeDiff, Nat.reduceEqDiff, Nat.reduceAdd, Nat.reduceMul, Nat.reduceSub, Nat.reduceBEq, Int.reduceLE, Int.reduceLT, Int.reduceToNat, Int.reduceNeg, Int.reduceEq, axt, ftK, ft3, pickP, AScope, AAll, pickQ, ftQ, inHeap, Nd.cells, tys]
        refine ACallK.heap _ rfl (cLsList hb t) ?_; rintro r' H' n' ⟨rfl, eH, en⟩; obtain rfl := eH.symm; obtain rfl := en.symm; clear eH en; simp (maxSteps := 400000) (dsimp := false) only [hpt, hL, ne1, ne2, ne3, axs, AThen, ABlock, dstsOk, AStep, callsF, AWant, aop, AS.ev, AS.put, upd, AS.bound, abin, aint, aload, astore, cellsAt, AV.cells, alen, elems, AV.int?, FPost, aresL, ares1, pack, afill, splice, Value.oneCell', Nat.reduceLT, Nat.reduceLeDiff, Nat.reduceEqDiff, Nat.reduceAdd, Nat.reduceMul, Nat.reduceSub, Nat.reduceBEq, Int.reduceLE, Int.reduceLT, Int.reduceToNat, Int.reduceNeg, Int.reduceEq, axt, ftK, ft3, pickP, AScope, AAll, pickQ, ftQ, inHeap, Nd.cells, tys]
        refine ACallK.heap _ rfl (cRIs hb.ar ok i hi) ?_; rintro r' H' n' ⟨rfl, eH, en⟩; obtain rfl := eH.symm; obtain rfl := en.symm; clear eH en; simp (maxSteps := 400000) (dsimp := false) only [his, axs, AThen, ABlock, dstsOk, AStep, callsF, AWant, aop, AS.ev, AS.put, upd, AS.bound, abin, aint, aload, astore, cellsAt, AV.cells, alen, elems, AV.int?, FPost, aresL, ares1, pack, afill, splice, Value.oneCell', Nat.reduceLT, Nat.reduceLeDiff, Nat.reduceEqDiff, Nat.reduceAdd, Nat.reduceMul, Nat.reduceSub, Nat.reduceBEq, Int.reduceLE, Int.reduceLT, Int.reduceToNat, Int.reduceNeg, Int.reduceEq, axt, ftK, ft3, pickP, AScope, AAll, pickQ, ftQ, inHeap, Nd.cells, tys]
        refine ACallK.heap _ rfl (cLsTag hb ok i hi h0 h1) ?_; rintro r' H' n' ⟨rfl, eH, en⟩; obtain rfl := eH.symm; obtain rfl := en.symm; clear eH en; simp (maxSteps := 400000) (dsimp := false) only [htg1, axs, AThen, ABlock, dstsOk, AStep, callsF, AWant, aop, AS.ev, AS.put, upd, AS.bound, abin, aint, aload, astore, cellsAt, AV.cells, alen, elems, AV.int?, FPost, aresL, ares1, pack, afill, splice, Value.oneCell', Nat.reduceLT, Nat.reduceLeDiff, Nat.reduceEqDiff, Nat.reduceAdd, Nat.reduceMul, Nat.reduceSub, Nat.reduceBEq, Int.reduceLE, Int.reduceLT, Int.reduceToNat, Int.reduceNeg, Int.reduceEq, axt, ftK, ft3, pickP, AScope, AAll, pickQ, ftQ, inHeap, Nd.cells, tys]
        refine ACallK.heap _ rfl (cLsWithT hb2 ok i hi (tLay (b := n) (c := n + 1) (d := n + 1 + 1) (p := p) (q := q) hc.1 (by omega) (bx0 _ _ _ _) (bx1 _ _ _ _) (bx2 _ _ _ _) (by omega) (by omega) (by omega))) ?_
        rintro v H1 n1 ⟨rfl, to1⟩
        have b1 := (to1.keep (n + 1) (by omega) (by omega) (by omega)).trans (bx1 _ _ _ _)
        have b2 := (to1.keep (n + 1 + 1) (by omega) (by omega) (by omega)).trans (bx2 _ _ _ _)
        simp (maxSteps := 400000) (dsimp := false) only [b1, axs, AThen, ABlock, dstsOk, AStep, callsF, AWant, aop, AS.ev, AS.put, upd, AS.bound, abin, aint, aload, astore, cellsAt, AV.cells, alen, elems, AV.int?, FPost, aresL, ares1, pack, afill, splice, Value.oneCell', Nat.reduceLT, Nat.reduceLeDiff, Nat.reduceEqDiff, Nat.reduceAdd, Nat.reduceMul, Nat.reduceSub, Nat.reduceBEq, Int.reduceLE, Int.reduceLT, Int.reduceToNat, Int.reduceNeg, Int.reduceEq, axt, ftK, ft3, pickP, AScope, AAll, pickQ, ftQ, inHeap, Nd.cells, tys]
        refine ACallK.heap _ rfl (cj _ _ to1.ls) ?_
        rintro v H2 n2 ⟨rfl, to2⟩
        have to2 : LsTo H1 n1 L r a s fv H2 n2 A.1 (rows.set t.toNat A.2) := to2
        have b3 := (to2.keep (n + 1 + 1) (by have := to1.le; omega) (by omega) (by omega)).trans b2
        have cj2 := cLsJoin to2.ls ok2 hw2 i q hi hq
        generalize joinR A.1 A.2 i q = B at *
        simp (maxSteps := 400000) (dsimp := false) only [b3, axs, AThen, ABlock, dstsOk, AStep, callsF, AWant, aop, AS.ev, AS.put, upd, AS.bound, abin, aint, aload, astore, cellsAt, AV.cells, alen, elems, AV.int?, FPost, aresL, ares1, pack, afill, splice, Value.oneCell', Nat.reduceLT, Nat.reduceLeDiff, Nat.reduceEqDiff, Nat.reduceAdd, Nat.reduceMul, Nat.reduceSub, Nat.reduceBEq, Int.reduceLE, Int.reduceLT, Int.reduceToNat, Int.reduceNeg, Int.reduceEq, axt, ftK, ft3, pickP, AScope, AAll, pickQ, ftQ, inHeap, Nd.cells, tys]
        refine ACallK.heap _ rfl cj2 ?_
        rintro v H3 n3 ⟨rfl, to3⟩
        have to3 : LsTo H2 n2 L r a s fv H3 n3 B.1 ((rows.set t.toNat A.2).set t.toNat B.2) := to3
        have hw3 : ((rows.set t.toNat A.2).set t.toNat B.2)[t.toNat]? = some B.2 := List.getElem?_set_self (by simp; omega)
        have hg3 := RW_get hw3
        have hr3 := to3.ls.hr
        have wr : IntKind.i64.wrap (B.2.n + 1) = B.2.n + 1 := IntWalk.i64_in _ ⟨by omega, by omega⟩
        have e3 : (RW ((rows.set t.toNat A.2).set t.toNat B.2)).set t.toNat [.sc (.int .i32 B.2.f), .sc (.int .i32 B.2.b), .sc (.int .i64 (B.2.n + 1))] = RW (rows.set t.toNat ⟨B.2.f, B.2.b, B.2.n + 1⟩) := by
          exact (RW_set ((rows.set t.toNat A.2).set t.toNat B.2) t.toNat ⟨B.2.f, B.2.b, B.2.n + 1⟩).trans (by rw [List.set_set, List.set_set])
        have to4 := LsTo.row to3.ls (rows' := rows.set t.toNat ⟨B.2.f, B.2.b, B.2.n + 1⟩) (by simp)
        simp (maxSteps := 400000) (dsimp := false) only [hr3, hg3, wr, e3, axs, AThen, ABlock, dstsOk, AStep, callsF, AWant, aop, AS.ev, AS.put, upd, AS.bound, abin, aint, aload, astore, cellsAt, AV.cells, alen, elems, AV.int?, FPost, aresL, ares1, pack, afill, splice, Value.oneCell', Nat.reduceLT, Nat.reduceLeDiff, Nat.reduceEqDiff, Nat.reduceAdd, Nat.reduceMul, Nat.reduceSub, Nat.reduceBEq, Int.reduceLE, Int.reduceLT, Int.reduceToNat, Int.reduceNeg, Int.reduceEq, axt, ftK, ft3, pickP, AScope, AAll, pickQ, ftQ, inHeap, Nd.cells, tys]
        exact ⟨_, rfl, rfl, ((((to1.trans (to2.trans (to3.trans to4))).new).new).new).new⟩
      · have hlo : layOk R rows t i = false := by unfold layOk; simp [htg]
        have htg1 : ¬ (raAt R i).tag - 1 = -1 := by omega
        unfold layS
        rw [if_neg (by rw [hlo]; simp), hlo]
        refine HCalls.walk Try.func76 rfl rfl Try.ntmps76 Try.results76 (by simp) ?_; simp (maxSteps := 400000) (dsimp := false) only [axs, AThen, ABlock, dstsOk, AStep, callsF, AWant, aop, AS.ev, AS.put, upd, AS.bound, abin, aint, aload, astore, cellsAt, AV.cells, alen, elems, AV.int?, FPost, aresL, ares1, pack, afill, splice, Value.oneCell', Nat.reduceLT, Nat.reduceLeDiff, Nat.reduceEqDiff, Nat.reduceAdd, Nat.reduceMul, Nat.reduceSub, Nat.reduceBEq, Int.reduceLE, Int.reduceLT, Int.reduceToNat, Int.reduceNeg, Int.reduceEq, axt, ftK, ft3, pickP, AScope, AAll, pickQ, ftQ, inHeap, Nd.cells, tys]
        refine ACallK.heap _ rfl (cLsList hb t) ?_; rintro r' H' n' ⟨rfl, eH, en⟩; obtain rfl := eH.symm; obtain rfl := en.symm; clear eH en; simp (maxSteps := 400000) (dsimp := false) only [hpt, hL, ne1, ne2, ne3, axs, AThen, ABlock, dstsOk, AStep, callsF, AWant, aop, AS.ev, AS.put, upd, AS.bound, abin, aint, aload, astore, cellsAt, AV.cells, alen, elems, AV.int?, FPost, aresL, ares1, pack, afill, splice, Value.oneCell', Nat.reduceLT, Nat.reduceLeDiff, Nat.reduceEqDiff, Nat.reduceAdd, Nat.reduceMul, Nat.reduceSub, Nat.reduceBEq, Int.reduceLE, Int.reduceLT, Int.reduceToNat, Int.reduceNeg, Int.reduceEq, axt, ftK, ft3, pickP, AScope, AAll, pickQ, ftQ, inHeap, Nd.cells, tys]
        refine ACallK.heap _ rfl (cRIs hb.ar ok i hi) ?_; rintro r' H' n' ⟨rfl, eH, en⟩; obtain rfl := eH.symm; obtain rfl := en.symm; clear eH en; simp (maxSteps := 400000) (dsimp := false) only [his, axs, AThen, ABlock, dstsOk, AStep, callsF, AWant, aop, AS.ev, AS.put, upd, AS.bound, abin, aint, aload, astore, cellsAt, AV.cells, alen, elems, AV.int?, FPost, aresL, ares1, pack, afill, splice, Value.oneCell', Nat.reduceLT, Nat.reduceLeDiff, Nat.reduceEqDiff, Nat.reduceAdd, Nat.reduceMul, Nat.reduceSub, Nat.reduceBEq, Int.reduceLE, Int.reduceLT, Int.reduceToNat, Int.reduceNeg, Int.reduceEq, axt, ftK, ft3, pickP, AScope, AAll, pickQ, ftQ, inHeap, Nd.cells, tys]
        refine ACallK.heap _ rfl (cLsTag hb ok i hi h0 h1) ?_; rintro r' H' n' ⟨rfl, eH, en⟩; obtain rfl := eH.symm; obtain rfl := en.symm; clear eH en; simp (maxSteps := 400000) (dsimp := false) only [htg1, axs, AThen, ABlock, dstsOk, AStep, callsF, AWant, aop, AS.ev, AS.put, upd, AS.bound, abin, aint, aload, astore, cellsAt, AV.cells, alen, elems, AV.int?, FPost, aresL, ares1, pack, afill, splice, Value.oneCell', Nat.reduceLT, Nat.reduceLeDiff, Nat.reduceEqDiff, Nat.reduceAdd, Nat.reduceMul, Nat.reduceSub, Nat.reduceBEq, Int.reduceLE, Int.reduceLT, Int.reduceToNat, Int.reduceNeg, Int.reduceEq, axt, ftK, ft3, pickP, AScope, AAll, pickQ, ftQ, inHeap, Nd.cells, tys]
        exact ⟨_, rfl, rfl, ((((LsTo.same hb.new).new).new).new).new⟩
    · have his : raIs R i = false := by simpa using his
      have hlo : layOk R rows t i = false := by unfold layOk; simp [his]
      unfold layS
      rw [if_neg (by rw [hlo]; simp), hlo]
      refine HCalls.walk Try.func76 rfl rfl Try.ntmps76 Try.results76 (by simp) ?_; simp (maxSteps := 400000) (dsimp := false) only [axs, AThen, ABlock, dstsOk, AStep, callsF, AWant, aop, AS.ev, AS.put, upd, AS.bound, abin, aint, aload, astore, cellsAt, AV.cells, alen, elems, AV.int?, FPost, aresL, ares1, pack, afill, splice, Value.oneCell', Nat.reduceLT, Nat.reduceLeDiff, Nat.reduceEqDiff, Nat.reduceAdd, Nat.reduceMul, Nat.reduceSub, Nat.reduceBEq, Int.reduceLE, Int.reduceLT, Int.reduceToNat, Int.reduceNeg, Int.reduceEq, axt, ftK, ft3, pickP, AScope, AAll, pickQ, ftQ, inHeap, Nd.cells, tys]
      refine ACallK.heap _ rfl (cLsList hb t) ?_; rintro r' H' n' ⟨rfl, eH, en⟩; obtain rfl := eH.symm; obtain rfl := en.symm; clear eH en; simp (maxSteps := 400000) (dsimp := false) only [hpt, hL, ne1, ne2, ne3, axs, AThen, ABlock, dstsOk, AStep, callsF, AWant, aop, AS.ev, AS.put, upd, AS.bound, abin, aint, aload, astore, cellsAt, AV.cells, alen, elems, AV.int?, FPost, aresL, ares1, pack, afill, splice, Value.oneCell', Nat.reduceLT, Nat.reduceLeDiff, Nat.reduceEqDiff, Nat.reduceAdd, Nat.reduceMul, Nat.reduceSub, Nat.reduceBEq, Int.reduceLE, Int.reduceLT, Int.reduceToNat, Int.reduceNeg, Int.reduceEq, axt, ftK, ft3, pickP, AScope, AAll, pickQ, ftQ, inHeap, Nd.cells, tys]
      refine ACallK.heap _ rfl (cRIs hb.ar ok i hi) ?_; rintro r' H' n' ⟨rfl, eH, en⟩; obtain rfl := eH.symm; obtain rfl := en.symm; clear eH en; simp (maxSteps := 400000) (dsimp := false) only [his, axs, AThen, ABlock, dstsOk, AStep, callsF, AWant, aop, AS.ev, AS.put, upd, AS.bound, abin, aint, aload, astore, cellsAt, AV.cells, alen, elems, AV.int?, FPost, aresL, ares1, pack, afill, splice, Value.oneCell', Nat.reduceLT, Nat.reduceLeDiff, Nat.reduceEqDiff, Nat.reduceAdd, Nat.reduceMul, Nat.reduceSub, Nat.reduceBEq, Int.reduceLE, Int.reduceLT, Int.reduceToNat, Int.reduceNeg, Int.reduceEq, axt, ftK, ft3, pickP, AScope, AAll, pickQ, ftQ, inHeap, Nd.cells, tys]
      exact ⟨_, rfl, rfl, (((LsTo.same hb).new).new).new⟩
  · have hpt : lsP r rows.length t = .sc (.pointer none) := if_neg hc
    have hlo : layOk R rows t i = false := by unfold layOk; simp [hc]
    unfold layS
    rw [if_neg (by rw [hlo]; simp), hlo]
    refine HCalls.walk Try.func76 rfl rfl Try.ntmps76 Try.results76 (by simp) ?_; simp (maxSteps := 400000) (dsimp := false) only [axs, AThen, ABlock, dstsOk, AStep, callsF, AWant, aop, AS.ev, AS.put, upd, AS.bound, abin, aint, aload, astore, cellsAt, AV.cells, alen, elems, AV.int?, FPost, aresL, ares1, pack, afill, splice, Value.oneCell', Nat.reduceLT, Nat.reduceLeDiff, Nat.reduceEqDiff, Nat.reduceAdd, Nat.reduceMul, Nat.reduceSub, Nat.reduceBEq, Int.reduceLE, Int.reduceLT, Int.reduceToNat, Int.reduceNeg, Int.reduceEq, axt, ftK, ft3, pickP, AScope, AAll, pickQ, ftQ, inHeap, Nd.cells, tys]
    refine ACallK.heap _ rfl (cLsList hb t) ?_; rintro r' H' n' ⟨rfl, eH, en⟩; obtain rfl := eH.symm; obtain rfl := en.symm; clear eH en; simp (maxSteps := 400000) (dsimp := false) only [hpt, axs, AThen, ABlock, dstsOk, AStep, callsF, AWant, aop, AS.ev, AS.put, upd, AS.bound, abin, aint, aload, astore, cellsAt, AV.cells, alen, elems, AV.int?, FPost, aresL, ares1, pack, afill, splice, Value.oneCell', Nat.reduceLT, Nat.reduceLeDiff, Nat.reduceEqDiff, Nat.reduceAdd, Nat.reduceMul, Nat.reduceSub, Nat.reduceBEq, Int.reduceLE, Int.reduceLT, Int.reduceToNat, Int.reduceNeg, Int.reduceEq, axt, ftK, ft3, pickP, AScope, AAll, pickQ, ftQ, inHeap, Nd.cells, tys]
    exact ⟨_, rfl, rfl, (((LsTo.same hb).new).new).new⟩
end Go.Al
