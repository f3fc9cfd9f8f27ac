/- Keys in queues: the awakening; a store that is nil. Conditions: the numbers fit their kinds. -/
import Derived.Test.YtdebjhjnpomlmaaSt8
set_option linter.unusedVariables false
set_option linter.unusedSimpArgs false
set_option maxRecDepth 20000
set_option maxHeartbeats 3200000
-- axs, AThen, ABlock, dstsOk, AStep, callsF, AWant, aop, AS.ev, AS.put, upd, AS.bound, abin, aint, aload, astore, cellsAt, AV.cells, alen, elems, AV.int?, FPost, aresL, ares1, pack, afill, splice, Value.oneCell', Nat.reduceLT, Nat.reduceLeDiff, Nat.reduceEqDiff, Nat.reduceAdd, Nat.reduceMul, Nat.reduceSub, Nat.reduceBEq, Int.reduceLE, Int.reduceLT, Int.reduceToNat, Int.reduceNeg, Int.reduceEq, axt, ftK, ft3, pickP, AScope, AAll, pickQ, ftQ, inHeap, Nd.cells, tys: Nd.cells
namespace Go.Al
open Go.Proofs
def w0 : SS := newS 2
def w1 : SS := psfS w0 0 1
def w2 : SS := setS w1 1 (gVal 7)
def w3 : SS := movS w2 1 1
def w4 : SS := remS w3 1
theorem one_key : Key 1 := ⟨by omega, by omega⟩
theorem w_vals : psOk w0 0 1 = true ∧ isIn w1 1 = true ∧ movOk w2 1 1 = true ∧ nodeI w3.T 1 = 1 ∧ (raAt w3.R 1).tag = 2 ∧ (raAt w3.R (backR w3.rows 1)).key = 1 ∧ backR w3.rows 1 = 1 ∧ w3.R.len = 8 ∧ w3.T.length = 8 ∧ (raAt w3.R 1).val = 7 ∧ lenQ w3.rows 1 = 1 ∧ cnt w3.T = 1 ∧ psOk w3 0 1 = false ∧ isIn w3 1 = true ∧ isIn w4 1 = false := by decide +kernel
theorem w_ok : SB w0 1 ∧ SB w1 1 ∧ SB w2 1 ∧ SB w3 1 ∧ SB w4 1 := by
  have h0 : SB w0 0 := newS_ok 2
  have h1 := h0.push (by omega) one_key true w_vals.1
  have e : tot w0.ls = 0 := tot_rep _
  rw [if_pos rfl, e] at h1
  have h1 : SB w1 1 := h1.1
  have h2 : SB w2 1 := (h1.setg (g := gVal 7) (by omega) 1 (fun y => ⟨rfl, rfl, rfl, rfl⟩)).1
  have h3 : SB w3 1 := (h2.move (by omega) 1 1).1
  exact ⟨h0.mono (by omega), h1, h2, h3, (h3.remove (by omega) 1).1⟩
end Go.Al
