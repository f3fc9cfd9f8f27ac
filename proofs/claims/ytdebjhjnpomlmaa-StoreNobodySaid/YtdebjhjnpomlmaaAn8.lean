/- Slots that are taken and freed: the reference's acts, and the program's. Conditions: the rows are short. -/
import Derived.Test.YtdebjhjnpomlmaaAn7
set_option linter.unusedVariables false
set_option linter.unusedSimpArgs false
set_option maxRecDepth 20000
set_option maxHeartbeats 1600000
-- axs, AThen, ABlock, dstsOk, AStep, callsF, AWant, aop, AS.ev, AS.put, upd, AS.bound, abin, aint, aload, astore, cellsAt, AV.cells, alen, elems, AV.int?, FPost, aresL, ares1, pack, afill, splice, Value.oneCell', Nat.reduceLT, Nat.reduceLeDiff, Nat.reduceEqDiff, Nat.reduceAdd, Nat.reduceMul, Nat.reduceSub, Nat.reduceBEq, Int.reduceLE, Int.reduceLT, Int.reduceToNat, Int.reduceNeg, Int.reduceEq, axt, ftK, ft3, pickP, AScope, AAll, pickQ, ftQ, inHeap, RV, Nd.cells, tys: RV, Nd.cells
-- NOIDS: noIdsE_I32, noIdsE_ND
-- LENS: I32_len, ND_len
namespace Go.Al
open Go.Proofs
/-- An act: its kind, a slot, a node. -/
structure AAct where
  kind : Int
  i : Int
  nd : Nd
def AAct.cells (a : AAct) : List AV := [.sc (.int .u8 a.kind), .sc (.int .i32 a.i), .sc (.int .u64 a.nd.key), .sc (.int .u64 a.nd.val), .sc (.int .i64 a.nd.flag), .sc (.int .i64 a.nd.tag), .sc (.int .i32 a.nd.prev), .sc (.int .i32 a.nd.next)]
def raDo (R : RA) (a : AAct) : RA × Int × Bool :=
  if a.kind.tmod 3 = 0 then ((raAlloc R).1, (raAlloc R).2, false)
  else if a.kind.tmod 3 = 1 then ((raFree R a.i).1, 0, (raFree R a.i).2)
  else ((raSet R a.i a.nd).1, 0, (raSet R a.i a.nd).2)
def arDo (A : AR) (a : AAct) : AR × Int × Bool :=
  if a.kind.tmod 3 = 0 then ((arAlloc A).1, (arAlloc A).2, false)
  else if a.kind.tmod 3 = 1 then ((arFree A a.i).1, 0, (arFree A a.i).2)
  else ((arSet A a.i a.nd).1, 0, (arSet A a.i a.nd).2)
theorem arDo_of {R : RA} (h : RaOk R) (a : AAct) : arDo (arnOf R) a = (arnOf (raDo R a).1, (raDo R a).2) ∧ RaOk (raDo R a).1 := by
  unfold arDo raDo
  split
  · obtain ⟨h1, h2, _⟩ := arAlloc_of h
    rw [h1]
    exact ⟨rfl, h2⟩
  · split
    · obtain ⟨h1, h2⟩ := arFree_of h a.i
      rw [h1]
      exact ⟨rfl, h2⟩
    · obtain ⟨h1, h2⟩ := arSet_of h a.i a.nd
      rw [h1]
      exact ⟨rfl, h2⟩
end Go.Al
