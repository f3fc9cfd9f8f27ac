/- Lists of places, by the program: lengths, neighbours; a node turned by a function. Conditions: the rows are short. -/
import Derived.Test.YtdebjhjnpomlmaaIn6
set_option linter.unusedVariables false
set_option linter.unusedSimpArgs false
set_option maxRecDepth 20000
set_option maxHeartbeats 1600000
-- axs, AThen, ABlock, dstsOk, AStep, callsF, AWant, aop, AS.ev, AS.put, upd, AS.bound, abin, aint, aload, astore, cellsAt, AV.cells, alen, elems, AV.int?, FPost, aresL, ares1, pack, afill, splice, Value.oneCell', Nat.reduceLT, Nat.reduceLeDiff, Nat.reduceEqDiff, Nat.reduceAdd, Nat.reduceMul, Nat.reduceSub, Nat.reduceBEq, Int.reduceLE, Int.reduceLT, Int.reduceToNat, Int.reduceNeg, Int.reduceEq, axt, ftK, ft3, pickP, AScope, AAll, pickQ, ftQ, inHeap, Nd.cells, tys: Nd.cells
namespace Go.Al
open Go.Proofs
theorem cLsLen {H : AH} {n L r a s : Nat} {fv : AV} {R : RA} {rows : List Rw} (h : LsH H n L r a s fv R rows) (t : Int) :
    HCalls Try.prog 64 [.ptr L 2 0 0, .sc (.int .i64 t)] H n fun v H' n' => v = .sc (.int .i64 (if 0 ≤ t ∧ t < rows.length then (rows.getD t.toNat r0).n else 0)) ∧ H' = H ∧ n' = n := by
  have hr := h.hr
  by_cases hc : 0 ≤ t ∧ t < rows.length
  · have hp : lsP r rows.length t = .ptr r 3 t.toNat 0 := if_pos hc
    have hlt : t.toNat < rows.length := by omega
    have hg := RW_get (l := rows) (p := t.toNat) (x := rows.getD t.toNat r0) (by rw [List.getD_eq_getElem?_getD, List.getElem?_eq_getElem hlt]; rfl)
    rw [if_pos hc]
    refine HCalls.walk Try.func64 rfl rfl Try.ntmps64 Try.results64 (by simp) ?_; simp (maxSteps := 400000) (dsimp := false) only [axs, AThen, ABlock, dstsOk, AStep, callsF, AWant, aop, AS.ev, AS.put, upd, AS.bound, abin, aint, aload, astore, cellsAt, AV.cells, alen, elems, AV.int?, FPost, aresL, ares1, pack, afill, splice, Value.oneCell', Nat.reduceLT, Nat.reduceLeDiff, Nat.reduceEqDiff, Nat.reduceAdd, Nat.reduceMul, Nat.reduceSub, Nat.reduceBEq, Int.reduceLE, Int.reduceLT, Int.reduceToNat, Int.reduceNeg, Int.reduceEq, axt, ftK, ft3, pickP, AScope, AAll, pickQ, ftQ, inHeap, Nd.cells, tys]
    refine ACallK.heap _ rfl (cLsList h t) ?_; rintro r' H' n' ⟨rfl, eH, en⟩; obtain rfl := eH.symm; obtain rfl := en.symm; clear eH en; simp (maxSteps := 400000) (dsimp := false) only [hp, hr, hg, axs, AThen, ABlock, dstsOk, AStep, callsF, AWant, aop, AS.ev, AS.put, upd, AS.bound, abin, aint, aload, astore, cellsAt, AV.cells, alen, elems, AV.int?, FPost, aresL, ares1, pack, afill, splice, Value.oneCell', Nat.reduceLT, Nat.reduceLeDiff, Nat.reduceEqDiff, Nat.reduceAdd, Nat.reduceMul, Nat.reduceSub, Nat.reduceBEq, Int.reduceLE, Int.reduceLT, Int.reduceToNat, Int.reduceNeg, Int.reduceEq, axt, ftK, ft3, pickP, AScope, AAll, pickQ, ftQ, inHeap, Nd.cells, tys]
    exact ⟨_, rfl, rfl⟩
  · have hp : lsP r rows.length t = .sc (.pointer none) := if_neg hc
    rw [if_neg hc]
    refine HCalls.walk Try.func64 rfl rfl Try.ntmps64 Try.results64 (by simp) ?_; simp (maxSteps := 400000) (dsimp := false) only [axs, AThen, ABlock, dstsOk, AStep, callsF, AWant, aop, AS.ev, AS.put, upd, AS.bound, abin, aint, aload, astore, cellsAt, AV.cells, alen, elems, AV.int?, FPost, aresL, ares1, pack, afill, splice, Value.oneCell', Nat.reduceLT, Nat.reduceLeDiff, Nat.reduceEqDiff, Nat.reduceAdd, Nat.reduceMul, Nat.reduceSub, Nat.reduceBEq, Int.reduceLE, Int.reduceLT, Int.reduceToNat, Int.reduceNeg, Int.reduceEq, axt, ftK, ft3, pickP, AScope, AAll, pickQ, ftQ, inHeap, Nd.cells, tys]
    refine ACallK.heap _ rfl (cLsList h t) ?_; rintro r' H' n' ⟨rfl, eH, en⟩; obtain rfl := eH.symm; obtain rfl := en.symm; clear eH en; simp (maxSteps := 400000) (dsimp := false) only [hp, axs, AThen, ABlock, dstsOk, AStep, callsF, AWant, aop, AS.ev, AS.put, upd, AS.bound, abin, aint, aload, astore, cellsAt, AV.cells, alen, elems, AV.int?, FPost, aresL, ares1, pack, afill, splice, Value.oneCell', Nat.reduceLT, Nat.reduceLeDiff, Nat.reduceEqDiff, Nat.reduceAdd, Nat.reduceMul, Nat.reduceSub, Nat.reduceBEq, Int.reduceLE, Int.reduceLT, Int.reduceToNat, Int.reduceNeg, Int.reduceEq, axt, ftK, ft3, pickP, AScope, AAll, pickQ, ftQ, inHeap, Nd.cells, tys]
    exact ⟨_, rfl, rfl⟩
theorem LsH.new {H : AH} {n L r a s : Nat} {fv : AV} {R : RA} {rows : List Rw} {x : Option AO} (h : LsH H n L r a s fv R rows) : LsH (upd H n x) (n + 1) L r a s fv R rows :=
  ⟨by rw [upd_ne _ _ (by have := h.lL; omega)]; exact h.hL, by rw [upd_ne _ _ (by have := h.lr; omega)]; exact h.hr, h.ar.new, by have := h.lL; omega, by have := h.lr; omega, h.nL, h.nr⟩
/-- What a node is turned by: it lies at p, its turned one is laid there. -/
def Turns (H : AH) (n f : Nat) (caps : List AV) (g : Nd → Nd) : Prop :=
  ∀ (x : Nd) (H1 : AH) (n1 p : Nat), Keeps H n H1 n1 → n ≤ p → p < n1 → H1 p = some (.obj 82 6 [x.cells] false) → HCalls Try.prog f (.ptr p 6 0 0 :: caps) H1 n1 fun v H' n' => v = .tup [] ∧ H' = upd H1 p (some (.obj 82 6 [(g x).cells] false)) ∧ n' = n1
def wH (H : AH) (n s : Nat) (R : RA) (i : Int) (g : Nd → Nd) : AH :=
  setH (upd (upd H n (some (.obj 82 6 [(raAt R i).cells] false))) (n + 1) (some (.obj 82 6 [(g (raAt R i)).cells] false))) (n + 1 + 1) s (arnOf (wth R i g)) (g (raAt R i))
theorem cLsWith {H : AH} {n L r a s : Nat} {fv : AV} {R : RA} {rows : List Rw} (h : LsH H n L r a s fv R rows) (ok : RaOk R) (i : Int) (hi : I32ok i) {f : Nat} {caps : List AV} {g : Nd → Nd} (hg : Turns H n f caps g) :
    HCalls Try.prog 78 [.ptr L 2 0 0, .sc (.int .i32 i), .fn f caps] H n fun v H' n' => v = .tup [] ∧ H' = wH H n s R i g ∧ n' = n + 1 + 1 + 1 := by
  have hL := h.hL
  have ne1 : ¬ L = n := by have := h.lL; omega
  have ne2 : ¬ L = n + 1 := by have := h.lL; omega
  refine HCalls.walk Try.func78 rfl rfl Try.ntmps78 Try.results78 (by simp) ?_; simp (maxSteps := 400000) (dsimp := false) only [hL, axs, AThen, ABlock, dstsOk, AStep, callsF, AWant, aop, AS.ev, AS.put, upd, AS.bound, abin, aint, aload, astore, cellsAt, AV.cells, alen, elems, AV.int?, FPost, aresL, ares1, pack, afill, splice, Value.oneCell', Nat.reduceLT, Nat.reduceLeDiff, Nat.reduceEqDiff, Nat.reduceAdd, Nat.reduceMul, Nat.reduceSub, Nat.reduceBEq, Int.reduceLE, Int.reduceLT, Int.reduceToNat, Int.reduceNeg, Int.reduceEq, axt, ftK, ft3, pickP, AScope, AAll, pickQ, ftQ, inHeap, Nd.cells, tys]
  refine ACallK.heap _ rfl (cRAt h.ar ok i hi) ?_; rintro r' H' n' ⟨rfl, eH, en⟩; obtain rfl := eH.symm; obtain rfl := en.symm; clear eH en; simp (maxSteps := 400000) (dsimp := false) only [hL, ne1, ne2, axs, AThen, ABlock, dstsOk, AStep, callsF, AWant, aop, AS.ev, AS.put, upd, AS.bound, abin, aint, aload, astore, cellsAt, AV.cells, alen, elems, AV.int?, FPost, aresL, ares1, pack, afill, splice, Value.oneCell', Nat.reduceLT, Nat.reduceLeDiff, Nat.reduceEqDiff, Nat.reduceAdd, Nat.reduceMul, Nat.reduceSub, Nat.reduceBEq, Int.reduceLE, Int.reduceLT, Int.reduceToNat, Int.reduceNeg, Int.reduceEq, axt, ftK, ft3, pickP, AScope, AAll, pickQ, ftQ, inHeap, Nd.cells, tys]
  simp only [upd_upd]
  refine ACallK.heap _ rfl (hg (raAt R i) _ _ (n + 1) (Keeps.refl _ _).upd.upd (by omega) (Nat.lt_succ_self _) (by simp [upd, neS]; rfl)) ?_
  rintro v H' n' ⟨rfl, rfl, rfl⟩
  rw [upd_upd]
  simp (maxSteps := 400000) (dsimp := false) only [axs, AThen, ABlock, dstsOk, AStep, callsF, AWant, aop, AS.ev, AS.put, upd, AS.bound, abin, aint, aload, astore, cellsAt, AV.cells, alen, elems, AV.int?, FPost, aresL, ares1, pack, afill, splice, Value.oneCell', Nat.reduceLT, Nat.reduceLeDiff, Nat.reduceEqDiff, Nat.reduceAdd, Nat.reduceMul, Nat.reduceSub, Nat.reduceBEq, Int.reduceLE, Int.reduceLT, Int.reduceToNat, Int.reduceNeg, Int.reduceEq, axt, ftK, ft3, pickP, AScope, AAll, pickQ, ftQ, inHeap, Nd.cells, tys]
  refine ADraw.planQR [6] [] [(0, true), (1, true), (2, true), (3, true), (4, true), (5, true), (6, true)] [(0, 0), (0, 0), (0, 0), (0, 0), (0, 0), (0, 0), (0, 1)] mixed (by kernel_rfl) (by kernel_rfl) ?_
  simp (maxSteps := 400000) (dsimp := false) only [hL, ne1, ne2, axs, AThen, ABlock, dstsOk, AStep, callsF, AWant, aop, AS.ev, AS.put, upd, AS.bound, abin, aint, aload, astore, cellsAt, AV.cells, alen, elems, AV.int?, FPost, aresL, ares1, pack, afill, splice, Value.oneCell', Nat.reduceLT, Nat.reduceLeDiff, Nat.reduceEqDiff, Nat.reduceAdd, Nat.reduceMul, Nat.reduceSub, Nat.reduceBEq, Int.reduceLE, Int.reduceLT, Int.reduceToNat, Int.reduceNeg, Int.reduceEq, axt, ftK, ft3, pickP, AScope, AAll, pickQ, ftQ, inHeap, Nd.cells, tys]
  refine ASoloK.heap rfl rfl (cRSet h.new.new.ar ok i hi (g (raAt R i))) ?_; simp (maxSteps := 400000) (dsimp := false) only [axs, AThen, ABlock, dstsOk, AStep, callsF, AWant, aop, AS.ev, AS.put, upd, AS.bound, abin, aint, aload, astore, cellsAt, AV.cells, alen, elems, AV.int?, FPost, aresL, ares1, pack, afill, splice, Value.oneCell', Nat.reduceLT, Nat.reduceLeDiff, Nat.reduceEqDiff, Nat.reduceAdd, Nat.reduceMul, Nat.reduceSub, Nat.reduceBEq, Int.reduceLE, Int.reduceLT, Int.reduceToNat, Int.reduceNeg, Int.reduceEq, axt, ftK, ft3, pickP, AScope, AAll, pickQ, ftQ, inHeap, Nd.cells, tys]
  exact ⟨_, rfl, rfl, rfl⟩
end Go.Al
