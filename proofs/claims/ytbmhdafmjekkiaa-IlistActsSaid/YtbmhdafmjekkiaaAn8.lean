/- Slots that are taken and freed: the reference's acts, and the program's. Conditions: the rows are short. -/
import Derived.Test.YtbmhdafmjekkiaaAn7
set_option linter.unusedVariables false
set_option linter.unusedSimpArgs false
set_option maxRecDepth 20000
set_option maxHeartbeats 1600000
-- axs, AThen, ABlock, dstsOk, AStep, callsF, AWant, aop, AS.ev, AS.put, upd, AS.bound, abin, aint, aload, astore, cellsAt, AV.cells, alen, elems, AV.int?, FPost, aresL, ares1, pack, afill, splice, Value.oneCell', Nat.reduceLT, Nat.reduceLeDiff, Nat.reduceEqDiff, Nat.reduceAdd, Nat.reduceMul, Nat.reduceSub, Nat.reduceBEq, Int.reduceLE, Int.reduceLT, Int.reduceToNat, Int.reduceNeg, Int.reduceEq, axt, ftK, ft3, pickP, AScope, AAll, pickQ, ftQ, inHeap, RV, Nd.cells, tys: RV, Nd.cells
-- NOIDS: noIdsE_I32, noIdsE_ND
-- LENS: I32_len, ND_len
namespace Go.Al
open Go.Proofs
theorem rArFree (R : RA) (i : Int) (hi : I32ok i) (hl : R.freed.length ≤ 1000000) : PCalls Try.prog 34 [RV R, .sc (.int .i32 i)] (.tup [RV (raFree R i).1, .sc (.bool (raFree R i).2)]) := by
  have his := rArIs R i hi hl
  unfold raFree
  refine PCalls.intro2 Try.func34 rfl rfl Try.ntmps34 Try.results34 (by simp) fun n => ?_; simp (maxSteps := 400000) (dsimp := false) only [axs, AThen, ABlock, dstsOk, AStep, callsF, AWant, aop, AS.ev, AS.put, upd, AS.bound, abin, aint, aload, astore, cellsAt, AV.cells, alen, elems, AV.int?, FPost, aresL, ares1, pack, afill, splice, Value.oneCell', Nat.reduceLT, Nat.reduceLeDiff, Nat.reduceEqDiff, Nat.reduceAdd, Nat.reduceMul, Nat.reduceSub, Nat.reduceBEq, Int.reduceLE, Int.reduceLT, Int.reduceToNat, Int.reduceNeg, Int.reduceEq, axt, ftK, ft3, pickP, AScope, AAll, pickQ, ftQ, inHeap, RV, Nd.cells, tys]
  refine ACallK.strict rfl (his) (by simp only [SeesL, axs, axt, AS.ev, AS.put, upd, inHeap, Nat.reduceLT, Nat.reduceEqDiff, Nat.reduceAdd, Nat.reduceBEq, RV, Nd.cells]; repeat' (first | exact True.intro | exact Sees.sc | exact Sees.none | ((with_reducible refine Sees.same ?_) <;> simp [noIds, noIdsL, noIdsE, noIdsE_U, noIdsE_UU, noIdsE_I32, noIdsE_ND] <;> fail) | (refine Live.sees ?_ ?_ <;> first | assumption | (simp [noIdsE_U, noIdsE_UU, noIdsE_I32, noIdsE_ND] <;> fail)) | (refine Sees.obj ?_ ?_ ?_ <;> first | exact ⟨_, _, by assumption, rfl⟩ | (simp [U_len, UU_len, I32_len, ND_len] <;> fail) | (simp [noIdsE_U, noIdsE_UU, noIdsE_I32, noIdsE_ND] <;> fail) | (simp [U, UU, upd] <;> fail) | (simp [U, UU, upd, neS, *] <;> fail)) | (refine Sees.of_seen 3 ?_ <;> simp [seen, upd, noIdsE, noIdsL, noIds, U, UU, Nat.add_assoc] <;> fail) | refine Sees.agg ?_ | refine And.intro ?_ ?_ | simp only [SeesL])) ?_; simp (maxSteps := 400000) (dsimp := false) only [axs, AThen, ABlock, dstsOk, AStep, callsF, AWant, aop, AS.ev, AS.put, upd, AS.bound, abin, aint, aload, astore, cellsAt, AV.cells, alen, elems, AV.int?, FPost, aresL, ares1, pack, afill, splice, Value.oneCell', Nat.reduceLT, Nat.reduceLeDiff, Nat.reduceEqDiff, Nat.reduceAdd, Nat.reduceMul, Nat.reduceSub, Nat.reduceBEq, Int.reduceLE, Int.reduceLT, Int.reduceToNat, Int.reduceNeg, Int.reduceEq, axt, ftK, ft3, pickP, AScope, AAll, pickQ, ftQ, inHeap, RV, Nd.cells, tys]
  by_cases hc : raIs R i = true
  · have b1 : R.freed.length * 4 ≤ 140737488355328 := by omega
    have b2 : R.freed.length ≤ 1099511627776 := by omega
    have b3 : (R.freed.length + 1) * 4 ≤ 140737488355328 ↔ True := by simp; omega
    have b4 : R.freed.length ≤ 1099511627775 := by omega
    have hs := I32_snoc R.freed i
    simp (maxSteps := 400000) (dsimp := false) only [hc, b1, b2, b3, b4, I32_len, axs, AThen, ABlock, dstsOk, AStep, callsF, AWant, aop, AS.ev, AS.put, upd, AS.bound, abin, aint, aload, astore, cellsAt, AV.cells, alen, elems, AV.int?, FPost, aresL, ares1, pack, afill, splice, Value.oneCell', Nat.reduceLT, Nat.reduceLeDiff, Nat.reduceEqDiff, Nat.reduceAdd, Nat.reduceMul, Nat.reduceSub, Nat.reduceBEq, Int.reduceLE, Int.reduceLT, Int.reduceToNat, Int.reduceNeg, Int.reduceEq, axt, ftK, ft3, pickP, AScope, AAll, pickQ, ftQ, inHeap, RV, Nd.cells, tys]
    rw [← hs]
    refine ⟨_, rfl, ?_⟩; simp (maxSteps := 400000) (dsimp := false) only [SeesL, hc, axs, AThen, ABlock, dstsOk, AStep, callsF, AWant, aop, AS.ev, AS.put, upd, AS.bound, abin, aint, aload, astore, cellsAt, AV.cells, alen, elems, AV.int?, FPost, aresL, ares1, pack, afill, splice, Value.oneCell', Nat.reduceLT, Nat.reduceLeDiff, Nat.reduceEqDiff, Nat.reduceAdd, Nat.reduceMul, Nat.reduceSub, Nat.reduceBEq, Int.reduceLE, Int.reduceLT, Int.reduceToNat, Int.reduceNeg, Int.reduceEq, axt, ftK, ft3, pickP, AScope, AAll, pickQ, ftQ, inHeap, RV, Nd.cells, tys] <;> repeat' (first | exact True.intro | exact Sees.sc | exact Sees.none | ((with_reducible refine Sees.same ?_) <;> simp [noIds, noIdsL, noIdsE, noIdsE_U, noIdsE_UU, noIdsE_I32, noIdsE_ND] <;> fail) | (refine Live.sees ?_ ?_ <;> first | assumption | (simp [noIdsE_U, noIdsE_UU, noIdsE_I32, noIdsE_ND] <;> fail)) | (refine Sees.obj ?_ ?_ ?_ <;> first | exact ⟨_, _, by assumption, rfl⟩ | (simp [U_len, UU_len, I32_len, ND_len] <;> fail) | (simp [noIdsE_U, noIdsE_UU, noIdsE_I32, noIdsE_ND] <;> fail) | (simp [U, UU, upd, neS] <;> fail) | (simp [U, UU, upd, neS, *] <;> fail)) | refine Sees.agg ?_ | refine Sees.tup ?_ | refine And.intro ?_ ?_ | simp only [SeesL])
  · have hc : raIs R i = false := by simpa using hc
    simp (maxSteps := 400000) (dsimp := false) only [hc, axs, AThen, ABlock, dstsOk, AStep, callsF, AWant, aop, AS.ev, AS.put, upd, AS.bound, abin, aint, aload, astore, cellsAt, AV.cells, alen, elems, AV.int?, FPost, aresL, ares1, pack, afill, splice, Value.oneCell', Nat.reduceLT, Nat.reduceLeDiff, Nat.reduceEqDiff, Nat.reduceAdd, Nat.reduceMul, Nat.reduceSub, Nat.reduceBEq, Int.reduceLE, Int.reduceLT, Int.reduceToNat, Int.reduceNeg, Int.reduceEq, axt, ftK, ft3, pickP, AScope, AAll, pickQ, ftQ, inHeap, RV, Nd.cells, tys]
    refine ⟨_, rfl, ?_⟩; simp (maxSteps := 400000) (dsimp := false) only [SeesL, hc, axs, AThen, ABlock, dstsOk, AStep, callsF, AWant, aop, AS.ev, AS.put, upd, AS.bound, abin, aint, aload, astore, cellsAt, AV.cells, alen, elems, AV.int?, FPost, aresL, ares1, pack, afill, splice, Value.oneCell', Nat.reduceLT, Nat.reduceLeDiff, Nat.reduceEqDiff, Nat.reduceAdd, Nat.reduceMul, Nat.reduceSub, Nat.reduceBEq, Int.reduceLE, Int.reduceLT, Int.reduceToNat, Int.reduceNeg, Int.reduceEq, axt, ftK, ft3, pickP, AScope, AAll, pickQ, ftQ, inHeap, RV, Nd.cells, tys] <;> repeat' (first | exact True.intro | exact Sees.sc | exact Sees.none | ((with_reducible refine Sees.same ?_) <;> simp [noIds, noIdsL, noIdsE, noIdsE_U, noIdsE_UU, noIdsE_I32, noIdsE_ND] <;> fail) | (refine Live.sees ?_ ?_ <;> first | assumption | (simp [noIdsE_U, noIdsE_UU, noIdsE_I32, noIdsE_ND] <;> fail)) | (refine Sees.obj ?_ ?_ ?_ <;> first | exact ⟨_, _, by assumption, rfl⟩ | (simp [U_len, UU_len, I32_len, ND_len] <;> fail) | (simp [noIdsE_U, noIdsE_UU, noIdsE_I32, noIdsE_ND] <;> fail) | (simp [U, UU, upd, neS] <;> fail) | (simp [U, UU, upd, neS, *] <;> fail)) | refine Sees.agg ?_ | refine Sees.tup ?_ | refine And.intro ?_ ?_ | simp only [SeesL])
theorem rArNew (room : Int) : PCalls Try.prog 18 [.sc (.int .i64 room)] (RV (raNew room)) := by
  have hq : 1 ≤ (if 1048576 < (if 1 > room then 1 else room) then (1048576 : Int) else (if 1 > room then 1 else room)) ∧ (if 1048576 < (if 1 > room then 1 else room) then (1048576 : Int) else (if 1 > room then 1 else room)) ≤ 1048576 := by
    by_cases h : 1 > room <;> simp [h] <;> (try split) <;> omega
  unfold raNew
  generalize hqe : (if 1048576 < (if 1 > room then 1 else room) then (1048576 : Int) else (if 1 > room then 1 else room)) = q at *
  have w1 : IntKind.i64.wrap (1 + q) = 1 + q := wrap_in (by omega) (by omega)
  have hnd : ND [nd0] = [[.sc (.int .u64 0), .sc (.int .u64 0), .sc (.int .i64 0), .sc (.int .i64 0), .sc (.int .i32 0), .sc (.int .i32 0)]] := rfl
  refine PCalls.intro2 Try.func18 rfl rfl Try.ntmps18 Try.results18 (by simp) fun n => ?_; simp (maxSteps := 400000) (dsimp := false) only [hqe, w1, Int.reduceMul, Int.one_mul, axs, AThen, ABlock, dstsOk, AStep, callsF, AWant, aop, AS.ev, AS.put, upd, AS.bound, abin, aint, aload, astore, cellsAt, AV.cells, alen, elems, AV.int?, FPost, aresL, ares1, pack, afill, splice, Value.oneCell', Nat.reduceLT, Nat.reduceLeDiff, Nat.reduceEqDiff, Nat.reduceAdd, Nat.reduceMul, Nat.reduceSub, Nat.reduceBEq, Int.reduceLE, Int.reduceLT, Int.reduceToNat, Int.reduceNeg, Int.reduceEq, axt, ftK, ft3, pickP, AScope, AAll, pickQ, ftQ, inHeap, RV, Nd.cells, tys]
  rw [hnd]
  refine ⟨_, rfl, ?_⟩; simp (maxSteps := 400000) (dsimp := false) only [SeesL, I32_nil, axs, AThen, ABlock, dstsOk, AStep, callsF, AWant, aop, AS.ev, AS.put, upd, AS.bound, abin, aint, aload, astore, cellsAt, AV.cells, alen, elems, AV.int?, FPost, aresL, ares1, pack, afill, splice, Value.oneCell', Nat.reduceLT, Nat.reduceLeDiff, Nat.reduceEqDiff, Nat.reduceAdd, Nat.reduceMul, Nat.reduceSub, Nat.reduceBEq, Int.reduceLE, Int.reduceLT, Int.reduceToNat, Int.reduceNeg, Int.reduceEq, axt, ftK, ft3, pickP, AScope, AAll, pickQ, ftQ, inHeap, RV, Nd.cells, tys] <;> repeat' (first | exact True.intro | exact Sees.sc | exact Sees.none | ((with_reducible refine Sees.same ?_) <;> simp [noIds, noIdsL, noIdsE, noIdsE_U, noIdsE_UU, noIdsE_I32, noIdsE_ND] <;> fail) | (refine Live.sees ?_ ?_ <;> first | assumption | (simp [noIdsE_U, noIdsE_UU, noIdsE_I32, noIdsE_ND] <;> fail)) | (refine Sees.obj ?_ ?_ ?_ <;> first | exact ⟨_, _, by assumption, rfl⟩ | (simp [U_len, UU_len, I32_len, ND_len] <;> fail) | (simp [noIdsE_U, noIdsE_UU, noIdsE_I32, noIdsE_ND] <;> fail) | (simp [U, UU, upd, neS] <;> fail) | (simp [U, UU, upd, neS, *] <;> fail)) | refine Sees.agg ?_ | refine Sees.tup ?_ | refine And.intro ?_ ?_ | simp only [SeesL])
  exact Sees.obj (by simp [upd, neS]) rfl (by simp [noIdsE, noIdsL, noIds])
theorem rArAlloc (R : RA) (ok : RaOk R) (h1 : R.len ≤ 1000000) : PCalls Try.prog 31 [RV R] (.tup [RV (raAlloc R).1, .sc (.int .i32 (raAlloc R).2)]) := by
  have hl := ra_free_len ok
  have e0 := ok.e0
  have e1 := ok.e1
  have hn := ok.nd
  by_cases hf : R.freed = []
  · have hfl : (R.freed.length : Int) > 0 ↔ False := by rw [hf]; simp
    unfold raAlloc
    rw [if_neg (by simp [hf])]
    have w1 : IntKind.i64.wrap (R.ever + 1) = R.ever + 1 := wrap_in (by omega) (by omega)
    have w2 : IntKind.i64.wrap (2 * R.len) = 2 * R.len := wrap_in (by omega) (by omega)
    have w3 : IntKind.i32.wrap (R.ever + 1) = R.ever + 1 := IntWalk.i32_in _ ⟨by omega, by omega⟩
    have b1 : R.nodes.length * 40 ≤ 140737488355328 := by omega
    have b2 : R.nodes.length ≤ 1099511627776 := by omega
    have b3 : (R.nodes.length + 1) * 40 ≤ 140737488355328 ↔ True := by simp; omega
    have b4 : R.nodes.length ≤ 1099511627775 := by omega
    have hs : ND R.nodes ++ [[.sc (.int .u64 0), .sc (.int .u64 0), .sc (.int .i64 0), .sc (.int .i64 0), .sc (.int .i32 0), .sc (.int .i32 0)]] = ND (R.nodes ++ [nd0]) := by rw [ND_append]; rfl
    refine PCalls.intro2 Try.func31 rfl rfl Try.ntmps31 Try.results31 (by simp) fun n => ?_; simp (maxSteps := 400000) (dsimp := false) only [I32_len, hfl, w1, axs, AThen, ABlock, dstsOk, AStep, callsF, AWant, aop, AS.ev, AS.put, upd, AS.bound, abin, aint, aload, astore, cellsAt, AV.cells, alen, elems, AV.int?, FPost, aresL, ares1, pack, afill, splice, Value.oneCell', Nat.reduceLT, Nat.reduceLeDiff, Nat.reduceEqDiff, Nat.reduceAdd, Nat.reduceMul, Nat.reduceSub, Nat.reduceBEq, Int.reduceLE, Int.reduceLT, Int.reduceToNat, Int.reduceNeg, Int.reduceEq, axt, ftK, ft3, pickP, AScope, AAll, pickQ, ftQ, inHeap, RV, Nd.cells, tys]
    by_cases hg : R.ever + 1 ≥ R.len
    · simp (maxSteps := 400000) (dsimp := false) only [hg, w2, b1, b2, b3, b4, ND_len, hs, axs, AThen, ABlock, dstsOk, AStep, callsF, AWant, aop, AS.ev, AS.put, upd, AS.bound, abin, aint, aload, astore, cellsAt, AV.cells, alen, elems, AV.int?, FPost, aresL, ares1, pack, afill, splice, Value.oneCell', Nat.reduceLT, Nat.reduceLeDiff, Nat.reduceEqDiff, Nat.reduceAdd, Nat.reduceMul, Nat.reduceSub, Nat.reduceBEq, Int.reduceLE, Int.reduceLT, Int.reduceToNat, Int.reduceNeg, Int.reduceEq, axt, ftK, ft3, pickP, AScope, AAll, pickQ, ftQ, inHeap, RV, Nd.cells, tys]
      refine ADraw.tree [] [(0, true), (1, true)] 3 (.leaf [(2, true), (3, true), (4, true), (5, true)]) (.leaf [(4, true), (2, true), (3, true), (5, true)]) mixed (by kernel_rfl) ?_
      simp (maxSteps := 400000) (dsimp := false) only [w3, axs, AThen, ABlock, dstsOk, AStep, callsF, AWant, aop, AS.ev, AS.put, upd, AS.bound, abin, aint, aload, astore, cellsAt, AV.cells, alen, elems, AV.int?, FPost, aresL, ares1, pack, afill, splice, Value.oneCell', Nat.reduceLT, Nat.reduceLeDiff, Nat.reduceEqDiff, Nat.reduceAdd, Nat.reduceMul, Nat.reduceSub, Nat.reduceBEq, Int.reduceLE, Int.reduceLT, Int.reduceToNat, Int.reduceNeg, Int.reduceEq, axt, ftK, ft3, pickP, AScope, AAll, pickQ, ftQ, inHeap, RV, Nd.cells, tys]
      repeat' with_reducible refine And.intro ?_ ?_
      all_goals
        refine ⟨_, rfl, ?_⟩; simp (maxSteps := 400000) (dsimp := false) only [SeesL, hg, hf, axs, AThen, ABlock, dstsOk, AStep, callsF, AWant, aop, AS.ev, AS.put, upd, AS.bound, abin, aint, aload, astore, cellsAt, AV.cells, alen, elems, AV.int?, FPost, aresL, ares1, pack, afill, splice, Value.oneCell', Nat.reduceLT, Nat.reduceLeDiff, Nat.reduceEqDiff, Nat.reduceAdd, Nat.reduceMul, Nat.reduceSub, Nat.reduceBEq, Int.reduceLE, Int.reduceLT, Int.reduceToNat, Int.reduceNeg, Int.reduceEq, axt, ftK, ft3, pickP, AScope, AAll, pickQ, ftQ, inHeap, RV, Nd.cells, tys] <;> repeat' (first | exact True.intro | exact Sees.sc | exact Sees.none | ((with_reducible refine Sees.same ?_) <;> simp [noIds, noIdsL, noIdsE, noIdsE_U, noIdsE_UU, noIdsE_I32, noIdsE_ND] <;> fail) | (refine Live.sees ?_ ?_ <;> first | assumption | (simp [noIdsE_U, noIdsE_UU, noIdsE_I32, noIdsE_ND] <;> fail)) | (refine Sees.obj ?_ ?_ ?_ <;> first | exact ⟨_, _, by assumption, rfl⟩ | (simp [U_len, UU_len, I32_len, ND_len] <;> fail) | (simp [noIdsE_U, noIdsE_UU, noIdsE_I32, noIdsE_ND] <;> fail) | (simp [U, UU, upd, neS] <;> fail) | (simp [U, UU, upd, neS, *] <;> fail)) | refine Sees.agg ?_ | refine Sees.tup ?_ | refine And.intro ?_ ?_ | simp only [SeesL])
    · simp (maxSteps := 400000) (dsimp := false) only [hg, b1, b2, b3, b4, ND_len, hs, axs, AThen, ABlock, dstsOk, AStep, callsF, AWant, aop, AS.ev, AS.put, upd, AS.bound, abin, aint, aload, astore, cellsAt, AV.cells, alen, elems, AV.int?, FPost, aresL, ares1, pack, afill, splice, Value.oneCell', Nat.reduceLT, Nat.reduceLeDiff, Nat.reduceEqDiff, Nat.reduceAdd, Nat.reduceMul, Nat.reduceSub, Nat.reduceBEq, Int.reduceLE, Int.reduceLT, Int.reduceToNat, Int.reduceNeg, Int.reduceEq, axt, ftK, ft3, pickP, AScope, AAll, pickQ, ftQ, inHeap, RV, Nd.cells, tys]
      refine ADraw.tree [] [(0, true), (1, true)] 3 (.leaf [(2, true), (3, true), (4, true), (5, true)]) (.leaf [(4, true), (2, true), (3, true), (5, true)]) mixed (by kernel_rfl) ?_
      simp (maxSteps := 400000) (dsimp := false) only [w3, axs, AThen, ABlock, dstsOk, AStep, callsF, AWant, aop, AS.ev, AS.put, upd, AS.bound, abin, aint, aload, astore, cellsAt, AV.cells, alen, elems, AV.int?, FPost, aresL, ares1, pack, afill, splice, Value.oneCell', Nat.reduceLT, Nat.reduceLeDiff, Nat.reduceEqDiff, Nat.reduceAdd, Nat.reduceMul, Nat.reduceSub, Nat.reduceBEq, Int.reduceLE, Int.reduceLT, Int.reduceToNat, Int.reduceNeg, Int.reduceEq, axt, ftK, ft3, pickP, AScope, AAll, pickQ, ftQ, inHeap, RV, Nd.cells, tys]
      repeat' with_reducible refine And.intro ?_ ?_
      all_goals
        refine ⟨_, rfl, ?_⟩; simp (maxSteps := 400000) (dsimp := false) only [SeesL, hg, hf, axs, AThen, ABlock, dstsOk, AStep, callsF, AWant, aop, AS.ev, AS.put, upd, AS.bound, abin, aint, aload, astore, cellsAt, AV.cells, alen, elems, AV.int?, FPost, aresL, ares1, pack, afill, splice, Value.oneCell', Nat.reduceLT, Nat.reduceLeDiff, Nat.reduceEqDiff, Nat.reduceAdd, Nat.reduceMul, Nat.reduceSub, Nat.reduceBEq, Int.reduceLE, Int.reduceLT, Int.reduceToNat, Int.reduceNeg, Int.reduceEq, axt, ftK, ft3, pickP, AScope, AAll, pickQ, ftQ, inHeap, RV, Nd.cells, tys] <;> repeat' (first | exact True.intro | exact Sees.sc | exact Sees.none | ((with_reducible refine Sees.same ?_) <;> simp [noIds, noIdsL, noIdsE, noIdsE_U, noIdsE_UU, noIdsE_I32, noIdsE_ND] <;> fail) | (refine Live.sees ?_ ?_ <;> first | assumption | (simp [noIdsE_U, noIdsE_UU, noIdsE_I32, noIdsE_ND] <;> fail)) | (refine Sees.obj ?_ ?_ ?_ <;> first | exact ⟨_, _, by assumption, rfl⟩ | (simp [U_len, UU_len, I32_len, ND_len] <;> fail) | (simp [noIdsE_U, noIdsE_UU, noIdsE_I32, noIdsE_ND] <;> fail) | (simp [U, UU, upd, neS] <;> fail) | (simp [U, UU, upd, neS, *] <;> fail)) | refine Sees.agg ?_ | refine Sees.tup ?_ | refine And.intro ?_ ?_ | simp only [SeesL])
  · have hlp := List.length_pos_iff.2 hf
    have hfl : (R.freed.length : Int) > 0 := by omega
    have hsp := split_last hf
    have hm := List.mem_of_getElem? (lastI_get hf)
    obtain ⟨q0, q1⟩ := ok.fr _ hm
    have hok : RaOk ⟨R.len, R.ever, R.freed.take (R.freed.length - 1), R.nodes⟩ := by
      have hd := ok.dup
      rw [hsp, List.nodup_append] at hd
      exact ⟨ok.e0, ok.e1, ok.nd, fun i hi => ok.fr i (List.mem_of_mem_take hi), hd.1⟩
    have hset := rArSet ⟨R.len, R.ever, R.freed.take (R.freed.length - 1), R.nodes⟩ (lastI R.freed) nd0 ⟨by omega, by omega⟩ hok (by show (R.freed.take _).length ≤ _; rw [List.length_take]; omega) (by show R.nodes.length ≤ _; omega)
    have hgi := I32_get (lastI_get hf)
    have v1 : IntKind.i64.wrap ((R.freed.length : Int) - 1) = ((R.freed.length - 1 : Nat) : Int) := by rw [wrap_in (by omega) (by omega)]; omega
    have v3 : (0 : Int) ≤ ((R.freed.length - 1 : Nat) : Int) := by omega
    have v4 : ((R.freed.length - 1 : Nat) : Int) < (R.freed.length : Int) := by omega
    have v5 : ((R.freed.length - 1 : Nat) : Int) ≤ (R.freed.length : Int) := by omega
    unfold raAlloc
    rw [if_pos hf]
    generalize raSet ⟨R.len, R.ever, R.freed.take (R.freed.length - 1), R.nodes⟩ (lastI R.freed) nd0 = S at *
    refine PCalls.intro2 Try.func31 rfl rfl Try.ntmps31 Try.results31 (by simp) fun n => ?_; simp (maxSteps := 400000) (dsimp := false) only [I32_len, hfl, v1, v3, v4, v5, hgi, I32_take, axs, AThen, ABlock, dstsOk, AStep, callsF, AWant, aop, AS.ev, AS.put, upd, AS.bound, abin, aint, aload, astore, cellsAt, AV.cells, alen, elems, AV.int?, FPost, aresL, ares1, pack, afill, splice, Value.oneCell', Nat.reduceLT, Nat.reduceLeDiff, Nat.reduceEqDiff, Nat.reduceAdd, Nat.reduceMul, Nat.reduceSub, Nat.reduceBEq, Int.reduceLE, Int.reduceLT, Int.reduceToNat, Int.reduceNeg, Int.reduceEq, axt, ftK, ft3, pickP, AScope, AAll, pickQ, ftQ, inHeap, RV, Nd.cells, tys]
    refine ACallK.strict rfl (hset) (by simp only [SeesL, I32_take, nd0, axs, axt, AS.ev, AS.put, upd, inHeap, Nat.reduceLT, Nat.reduceEqDiff, Nat.reduceAdd, Nat.reduceBEq, RV, Nd.cells]; repeat' (first | exact True.intro | exact Sees.sc | exact Sees.none | ((with_reducible refine Sees.same ?_) <;> simp [noIds, noIdsL, noIdsE, noIdsE_U, noIdsE_UU, noIdsE_I32, noIdsE_ND] <;> fail) | (refine Live.sees ?_ ?_ <;> first | assumption | (simp [noIdsE_U, noIdsE_UU, noIdsE_I32, noIdsE_ND] <;> fail)) | (refine Sees.obj ?_ ?_ ?_ <;> first | exact ⟨_, _, by assumption, rfl⟩ | (simp [U_len, UU_len, I32_len, ND_len] <;> fail) | (simp [noIdsE_U, noIdsE_UU, noIdsE_I32, noIdsE_ND] <;> fail) | (simp [U, UU, upd] <;> fail) | (simp [U, UU, upd, neS, *] <;> fail)) | (refine Sees.of_seen 3 ?_ <;> simp [seen, upd, noIdsE, noIdsL, noIds, U, UU, Nat.add_assoc] <;> fail) | refine Sees.agg ?_ | refine And.intro ?_ ?_ | simp only [SeesL])) ?_; simp (maxSteps := 400000) (dsimp := false) only [I32_take, nd0, axs, AThen, ABlock, dstsOk, AStep, callsF, AWant, aop, AS.ev, AS.put, upd, AS.bound, abin, aint, aload, astore, cellsAt, AV.cells, alen, elems, AV.int?, FPost, aresL, ares1, pack, afill, splice, Value.oneCell', Nat.reduceLT, Nat.reduceLeDiff, Nat.reduceEqDiff, Nat.reduceAdd, Nat.reduceMul, Nat.reduceSub, Nat.reduceBEq, Int.reduceLE, Int.reduceLT, Int.reduceToNat, Int.reduceNeg, Int.reduceEq, axt, ftK, ft3, pickP, AScope, AAll, pickQ, ftQ, inHeap, RV, Nd.cells, tys]
    refine ⟨_, rfl, ?_⟩; simp (maxSteps := 400000) (dsimp := false) only [SeesL, axs, AThen, ABlock, dstsOk, AStep, callsF, AWant, aop, AS.ev, AS.put, upd, AS.bound, abin, aint, aload, astore, cellsAt, AV.cells, alen, elems, AV.int?, FPost, aresL, ares1, pack, afill, splice, Value.oneCell', Nat.reduceLT, Nat.reduceLeDiff, Nat.reduceEqDiff, Nat.reduceAdd, Nat.reduceMul, Nat.reduceSub, Nat.reduceBEq, Int.reduceLE, Int.reduceLT, Int.reduceToNat, Int.reduceNeg, Int.reduceEq, axt, ftK, ft3, pickP, AScope, AAll, pickQ, ftQ, inHeap, RV, Nd.cells, tys] <;> repeat' (first | exact True.intro | exact Sees.sc | exact Sees.none | ((with_reducible refine Sees.same ?_) <;> simp [noIds, noIdsL, noIdsE, noIdsE_U, noIdsE_UU, noIdsE_I32, noIdsE_ND] <;> fail) | (refine Live.sees ?_ ?_ <;> first | assumption | (simp [noIdsE_U, noIdsE_UU, noIdsE_I32, noIdsE_ND] <;> fail)) | (refine Sees.obj ?_ ?_ ?_ <;> first | exact ⟨_, _, by assumption, rfl⟩ | (simp [U_len, UU_len, I32_len, ND_len] <;> fail) | (simp [noIdsE_U, noIdsE_UU, noIdsE_I32, noIdsE_ND] <;> fail) | (simp [U, UU, upd, neS] <;> fail) | (simp [U, UU, upd, neS, *] <;> fail)) | refine Sees.agg ?_ | refine Sees.tup ?_ | refine And.intro ?_ ?_ | simp only [SeesL])
/-- An act: its kind, a slot, a node. -/
structure AAct where
  kind : Int
  i : Int
  nd : Nd
def AAct.cells (a : AAct) : List AV := [.sc (.int .u8 a.kind), .sc (.int .i32 a.i), .sc (.int .u64 a.nd.key), .sc (.int .u64 a.nd.val), .sc (.int .i64 a.nd.flag), .sc (.int .i64 a.nd.tag), .sc (.int .i32 a.nd.prev), .sc (.int .i32 a.nd.next)]
def raDo (R : RA) (a : AAct) : RA × Int × Bool :=
  if a.kind.tmod 3 = 0 then ((raAlloc R).1, (raAlloc R).2, false)
  else if a.kind.tmod 3 = 1 then ((raFree R a.i).1, 0, (raFree R a.i).2)
  else ((raSet R a.i a.nd).1, 0, (raSet R a.i a.nd).2)
def arDo (A : AR) (a : AAct) : AR × Int × Bool :=
  if a.kind.tmod 3 = 0 then ((arAlloc A).1, (arAlloc A).2, false)
  else if a.kind.tmod 3 = 1 then ((arFree A a.i).1, 0, (arFree A a.i).2)
  else ((arSet A a.i a.nd).1, 0, (arSet A a.i a.nd).2)
theorem arDo_of {R : RA} (h : RaOk R) (a : AAct) : arDo (arnOf R) a = (arnOf (raDo R a).1, (raDo R a).2) ∧ RaOk (raDo R a).1 := by
  unfold arDo raDo
  split
  · obtain ⟨h1, h2, _⟩ := arAlloc_of h
    rw [h1]
    exact ⟨rfl, h2⟩
  · split
    · obtain ⟨h1, h2⟩ := arFree_of h a.i
      rw [h1]
      exact ⟨rfl, h2⟩
    · obtain ⟨h1, h2⟩ := arSet_of h a.i a.nd
      rw [h1]
      exact ⟨rfl, h2⟩
end Go.Al
