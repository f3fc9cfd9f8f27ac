/- Slots that are taken and freed: the reference. Conditions: the rows are short. -/
import Derived.Test.YtdebjhjnpomlmaaAn6
set_option linter.unusedVariables false
set_option linter.unusedSimpArgs false
set_option maxRecDepth 20000
set_option maxHeartbeats 1600000
-- axs, AThen, ABlock, dstsOk, AStep, callsF, AWant, aop, AS.ev, AS.put, upd, AS.bound, abin, aint, aload, astore, cellsAt, AV.cells, alen, elems, AV.int?, FPost, aresL, ares1, pack, afill, splice, Value.oneCell', Nat.reduceLT, Nat.reduceLeDiff, Nat.reduceEqDiff, Nat.reduceAdd, Nat.reduceMul, Nat.reduceSub, Nat.reduceBEq, Int.reduceLE, Int.reduceLT, Int.reduceToNat, Int.reduceNeg, Int.reduceEq, axt, ftK, ft3, pickP, AScope, AAll, pickQ, ftQ, inHeap, RV, Nd.cells, tys: RV, Nd.cells
-- NOIDS: noIdsE_I32, noIdsE_ND
-- LENS: I32_len, ND_len
namespace Go.Al
open Go.Proofs
def ND (l : List Nd) : List (List AV) := l.map Nd.cells
theorem ND_len (l : List Nd) : (ND l).length = l.length := by simp [ND]
theorem ND_get {l : List Nd} {p : Nat} {x : Nd} (h : l[p]? = some x) : (ND l)[p]? = some [.sc (.int .u64 x.key), .sc (.int .u64 x.val), .sc (.int .i64 x.flag), .sc (.int .i64 x.tag), .sc (.int .i32 x.prev), .sc (.int .i32 x.next)] := by simp [ND, h, Nd.cells]
theorem ND_set (l : List Nd) (p : Nat) (x : Nd) : (ND l).set p [.sc (.int .u64 x.key), .sc (.int .u64 x.val), .sc (.int .i64 x.flag), .sc (.int .i64 x.tag), .sc (.int .i32 x.prev), .sc (.int .i32 x.next)] = ND (l.set p x) := by simp [ND, List.map_set, Nd.cells]
theorem ND_append (a b : List Nd) : ND (a ++ b) = ND a ++ ND b := by simp [ND]
theorem noIdsE_ND (l : List Nd) : noIdsE (ND l) = true := noIdsE_map _ (fun x => by simp [Nd.cells, noIdsL, noIds]) l
/-- The reference's arena. -/
def RV (R : RA) : AV := .agg [.sc (.int .i64 R.len), .sc (.int .i64 R.ever), .lst 1 (I32 R.freed), .lst 6 (ND R.nodes)]
end Go.Al
