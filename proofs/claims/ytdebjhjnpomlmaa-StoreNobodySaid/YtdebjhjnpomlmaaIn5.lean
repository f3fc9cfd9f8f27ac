/- Lists of places, by the program: where they lie, and what is told of them. Conditions: the rows are short. -/
import Derived.Test.YtdebjhjnpomlmaaIn4
set_option linter.unusedVariables false
set_option linter.unusedSimpArgs false
set_option maxRecDepth 20000
set_option maxHeartbeats 1600000
namespace Go.Al
open Go.Proofs
def RW (l : List Rw) : List (List AV) := l.map fun x => [.sc (.int .i32 x.f), .sc (.int .i32 x.b), .sc (.int .i64 x.n)]
theorem RW_len (l : List Rw) : (RW l).length = l.length := by simp [RW]
theorem RW_get {l : List Rw} {p : Nat} {x : Rw} (h : l[p]? = some x) : (RW l)[p]? = some [.sc (.int .i32 x.f), .sc (.int .i32 x.b), .sc (.int .i64 x.n)] := by simp [RW, h]
theorem RW_set (l : List Rw) (p : Nat) (x : Rw) : (RW l).set p [.sc (.int .i32 x.f), .sc (.int .i32 x.b), .sc (.int .i64 x.n)] = RW (l.set p x) := by simp [RW, List.map_set]
theorem RW_rep (m : Nat) : List.replicate m [.sc (.int .i32 0), .sc (.int .i32 0), .sc (.int .i64 0)] = RW (List.replicate m r0) := by simp [RW, r0]
/-- Where lists lie: their struct at L, their rows at r, their arena at a, s, fv; all below n. -/
structure LsH (H : AH) (n L r a s : Nat) (fv : AV) (R : RA) (rows : List Rw) : Prop where
  hL : H L = some (.obj 103 2 [[.ptr a 4 0 0, .sl r 3 0 rows.length]] false)
  hr : H r = some (.obj 122 3 (RW rows) false)
  ar : ArH H n a s fv (arnOf R)
  lL : L < n
  lr : r < n
  nL : ¬ ArOwn a s fv L
  nr : ¬ ArOwn a s fv r
/-- The pointer at a list's row, or nobody. -/
def lsP (r k : Nat) (t : Int) : AV := if 0 ≤ t ∧ t < k then .ptr r 3 t.toNat 0 else .sc (.pointer none)
theorem cLsList {H : AH} {n L r a s : Nat} {fv : AV} {R : RA} {rows : List Rw} (h : LsH H n L r a s fv R rows) (t : Int) :
    HCalls Try.prog 72 [.ptr L 2 0 0, .sc (.int .i64 t)] H n fun v H' n' => v = lsP r rows.length t ∧ H' = H ∧ n' = n := by
  have hL := h.hL
  refine HCalls.walk Try.func72 rfl rfl Try.ntmps72 Try.results72 (by simp) ?_; simp (maxSteps := 400000) (dsimp := false) only [axs, AThen, ABlock, dstsOk, AStep, callsF, AWant, aop, AS.ev, AS.put, upd, AS.bound, abin, aint, aload, astore, cellsAt, AV.cells, alen, elems, AV.int?, FPost, aresL, ares1, pack, afill, splice, Value.oneCell', Nat.reduceLT, Nat.reduceLeDiff, Nat.reduceEqDiff, Nat.reduceAdd, Nat.reduceMul, Nat.reduceSub, Nat.reduceBEq, Int.reduceLE, Int.reduceLT, Int.reduceToNat, Int.reduceNeg, Int.reduceEq, axt, ftK, ft3, pickP, AScope, AAll, pickQ, ftQ, inHeap, tys]
  by_cases h0 : t < 0
  · have hc : lsP r rows.length t = .sc (.pointer none) := if_neg (by omega)
    rw [hc]
    simp (maxSteps := 400000) (dsimp := false) only [h0, axs, AThen, ABlock, dstsOk, AStep, callsF, AWant, aop, AS.ev, AS.put, upd, AS.bound, abin, aint, aload, astore, cellsAt, AV.cells, alen, elems, AV.int?, FPost, aresL, ares1, pack, afill, splice, Value.oneCell', Nat.reduceLT, Nat.reduceLeDiff, Nat.reduceEqDiff, Nat.reduceAdd, Nat.reduceMul, Nat.reduceSub, Nat.reduceBEq, Int.reduceLE, Int.reduceLT, Int.reduceToNat, Int.reduceNeg, Int.reduceEq, axt, ftK, ft3, pickP, AScope, AAll, pickQ, ftQ, inHeap, tys]
    exact ⟨_, rfl, rfl⟩
  · by_cases h1 : t ≥ rows.length
    · have hc : lsP r rows.length t = .sc (.pointer none) := if_neg (by omega)
      rw [hc]
      simp (maxSteps := 400000) (dsimp := false) only [h0, h1, hL, axs, AThen, ABlock, dstsOk, AStep, callsF, AWant, aop, AS.ev, AS.put, upd, AS.bound, abin, aint, aload, astore, cellsAt, AV.cells, alen, elems, AV.int?, FPost, aresL, ares1, pack, afill, splice, Value.oneCell', Nat.reduceLT, Nat.reduceLeDiff, Nat.reduceEqDiff, Nat.reduceAdd, Nat.reduceMul, Nat.reduceSub, Nat.reduceBEq, Int.reduceLE, Int.reduceLT, Int.reduceToNat, Int.reduceNeg, Int.reduceEq, axt, ftK, ft3, pickP, AScope, AAll, pickQ, ftQ, inHeap, tys]
      exact ⟨_, rfl, rfl⟩
    · have h2 : 0 ≤ t := by omega
      have h3 : t < rows.length := by omega
      have hc : lsP r rows.length t = .ptr r 3 t.toNat 0 := if_pos ⟨h2, h3⟩
      rw [hc]
      simp (maxSteps := 400000) (dsimp := false) only [h0, h1, h2, h3, hL, axs, AThen, ABlock, dstsOk, AStep, callsF, AWant, aop, AS.ev, AS.put, upd, AS.bound, abin, aint, aload, astore, cellsAt, AV.cells, alen, elems, AV.int?, FPost, aresL, ares1, pack, afill, splice, Value.oneCell', Nat.reduceLT, Nat.reduceLeDiff, Nat.reduceEqDiff, Nat.reduceAdd, Nat.reduceMul, Nat.reduceSub, Nat.reduceBEq, Int.reduceLE, Int.reduceLT, Int.reduceToNat, Int.reduceNeg, Int.reduceEq, axt, ftK, ft3, pickP, AScope, AAll, pickQ, ftQ, inHeap, tys]
      exact ⟨_, rfl, rfl⟩
end Go.Al
