/- slices.Insert at the front of a row. Conditions: the row has a million elements at most. -/
import Derived.Test.YtbdcmgcphhbpiaaSq5
set_option linter.unusedVariables false
set_option linter.unusedSimpArgs false
namespace Go.Al
open Go.Proofs
theorem cInsertRow (a : List Int) (v : Int) (ha : a ≠ []) (hl : a.length ≤ 1000000) (H : AH) (n iv id : Nat) (hne : id ≠ iv) (hiv : iv < n) (hidn : id < n) (hid : H id = some (.obj 34 1 (U a) false)) (hv : H iv = some (.obj 34 1 [[.sc (.int .u64 v)]] false)) :
    HCalls Try.prog 51 [.sl id 1 0 a.length, .sc (.int .i64 0), .sl iv 1 0 1] H n
      fun r H' n' => ∃ id, r = .sl id 1 0 (a.length + 1) ∧ H' id = some (.obj 34 1 (U (v :: a)) false) := by
  refine HCalls.cap (by kernel_rfl) (.inr rfl) fun c hc hcm => ?_
  have hpos : 0 < a.length := List.length_pos_iff.2 ha
  refine HCalls.walk Try.func51 rfl rfl Try.ntmps51 Try.results51 (by simp) ?_; simp (maxSteps := 400000) (dsimp := false) only [hv, axs, AThen, ABlock, dstsOk, AStep, callsF, AWant, aop, AS.ev, AS.put, upd, AS.bound, abin, aint, aload, astore, cellsAt, AV.cells, alen, elems, AV.int?, FPost, aresL, ares1, pack, afill, splice, Value.oneCell', Nat.reduceLT, Nat.reduceLeDiff, Nat.reduceEqDiff, Nat.reduceAdd, Nat.reduceMul, Nat.reduceSub, Nat.reduceBEq, Int.reduceLE, Int.reduceLT, Int.reduceToNat, Int.reduceNeg, Int.reduceEq, axt, ftK, pickP, AScope, AAll, pickQ, ftQ, inHeap, tys]
  refine AStepX.slice (l := 0) (q := a.length) rfl sl22 ty34 rfl rfl rfl rfl (by omega) (by omega) (by omega) (by omega) ?_
  simp (maxSteps := 400000) (dsimp := false) only [axs, AThen, ABlock, dstsOk, AStep, callsF, AWant, aop, AS.ev, AS.put, upd, AS.bound, abin, aint, aload, astore, cellsAt, AV.cells, alen, elems, AV.int?, FPost, aresL, ares1, pack, afill, splice, Value.oneCell', Nat.reduceLT, Nat.reduceLeDiff, Nat.reduceEqDiff, Nat.reduceAdd, Nat.reduceMul, Nat.reduceSub, Nat.reduceBEq, Int.reduceLE, Int.reduceLT, Int.reduceToNat, Int.reduceNeg, Int.reduceEq, axt, ftK, pickP, AScope, AAll, pickQ, ftQ, inHeap, tys]
  refine AStepX.len rfl rfl rfl rfl sl22 rfl ?_
  have h0 : ¬ (0 : Int) = a.length := by omega
  simp (maxSteps := 400000) (dsimp := false) only [h0, axs, AThen, ABlock, dstsOk, AStep, callsF, AWant, aop, AS.ev, AS.put, upd, AS.bound, abin, aint, aload, astore, cellsAt, AV.cells, alen, elems, AV.int?, FPost, aresL, ares1, pack, afill, splice, Value.oneCell', Nat.reduceLT, Nat.reduceLeDiff, Nat.reduceEqDiff, Nat.reduceAdd, Nat.reduceMul, Nat.reduceSub, Nat.reduceBEq, Int.reduceLE, Int.reduceLT, Int.reduceToNat, Int.reduceNeg, Int.reduceEq, axt, ftK, pickP, AScope, AAll, pickQ, ftQ, inHeap, tys]
  refine AStepX.cap rfl rfl rfl rfl sl22 rfl ?_
  have hw : IntKind.i64.wrap ((a.length : Int) + 1) = ((a.length + 1 : Nat) : Int) := by rw [wrap_in (by omega) (by omega)]; rfl
  simp (maxSteps := 400000) (dsimp := false) only [hw, axs, AThen, ABlock, dstsOk, AStep, callsF, AWant, aop, AS.ev, AS.put, upd, AS.bound, abin, aint, aload, astore, cellsAt, AV.cells, alen, elems, AV.int?, FPost, aresL, ares1, pack, afill, splice, Value.oneCell', Nat.reduceLT, Nat.reduceLeDiff, Nat.reduceEqDiff, Nat.reduceAdd, Nat.reduceMul, Nat.reduceSub, Nat.reduceBEq, Int.reduceLE, Int.reduceLT, Int.reduceToNat, Int.reduceNeg, Int.reduceEq, axt, ftK, pickP, AScope, AAll, pickQ, ftQ, inHeap, tys]
  refine ACond.intro _ (fun hg => ?_) (fun hg => ?_)
  · have hroom : c < a.length + 1 := by
      simp at hg; omega
    simp (maxSteps := 400000) (dsimp := false) only [axs, AThen, ABlock, dstsOk, AStep, callsF, AWant, aop, AS.ev, AS.put, upd, AS.bound, abin, aint, aload, astore, cellsAt, AV.cells, alen, elems, AV.int?, FPost, aresL, ares1, pack, afill, splice, Value.oneCell', Nat.reduceLT, Nat.reduceLeDiff, Nat.reduceEqDiff, Nat.reduceAdd, Nat.reduceMul, Nat.reduceSub, Nat.reduceBEq, Int.reduceLE, Int.reduceLT, Int.reduceToNat, Int.reduceNeg, Int.reduceEq, axt, ftK, pickP, AScope, AAll, pickQ, ftQ, inHeap, tys]
    refine AStepX.slice (l := 0) (q := 0) rfl sl22 ty34 rfl rfl rfl rfl (by omega) (by omega) (by omega) (by omega) ?_
    have hw2 : IntKind.i64.wrap (((a.length + 1 : Nat) : Int) - 0) = ((a.length + 1 : Nat) : Int) := by rw [Int.sub_zero, wrap_in (by omega) (by omega)]
    simp (maxSteps := 400000) (dsimp := false) only [hw, hw2, axs, AThen, ABlock, dstsOk, AStep, callsF, AWant, aop, AS.ev, AS.put, upd, AS.bound, abin, aint, aload, astore, cellsAt, AV.cells, alen, elems, AV.int?, FPost, aresL, ares1, pack, afill, splice, Value.oneCell', Nat.reduceLT, Nat.reduceLeDiff, Nat.reduceEqDiff, Nat.reduceAdd, Nat.reduceMul, Nat.reduceSub, Nat.reduceBEq, Int.reduceLE, Int.reduceLT, Int.reduceToNat, Int.reduceNeg, Int.reduceEq, axt, ftK, pickP, AScope, AAll, pickQ, ftQ, inHeap, tys]
    refine AStepX.append_zeros (l := a.length + 1) rfl rfl rfl rfl sl22 in3 ty34 rfl (by decide) rfl rfl rfl rfl rfl (by omega) (by omega) (by show (a.length + 1) * 8 ≤ _; omega) ?_
    have hn0 : (0 : Int) ≤ ((a.length + 1 : Nat) : Int) := by omega
    simp (maxSteps := 400000) (dsimp := false) only [hn0, axs, AThen, ABlock, dstsOk, AStep, callsF, AWant, aop, AS.ev, AS.put, upd, AS.bound, abin, aint, aload, astore, cellsAt, AV.cells, alen, elems, AV.int?, FPost, aresL, ares1, pack, afill, splice, Value.oneCell', Nat.reduceLT, Nat.reduceLeDiff, Nat.reduceEqDiff, Nat.reduceAdd, Nat.reduceMul, Nat.reduceSub, Nat.reduceBEq, Int.reduceLE, Int.reduceLT, Int.reduceToNat, Int.reduceNeg, Int.reduceEq, axt, ftK, pickP, AScope, AAll, pickQ, ftQ, inHeap, tys]
    refine AStepX.copy (L := 1) (ys := [[.sc (.int .u64 v)]]) rfl rfl rfl rfl sl22 ty34 rfl (by decide) (.inl rfl) (upd_same _ _ _) (by simp) ?_ ?_
    · show srcFirst (upd H n _) 1 _ (.sl iv 1 0 1) = _
      have : upd H n (some (.obj 34 1 ([.sc (.int .u64 0)] :: List.replicate a.length [.sc (.int .u64 0)]) false)) iv = some (.obj 34 1 [[.sc (.int .u64 v)]] false) := by rw [upd_ne _ _ (by omega)]; exact hv
      simp [srcFirst, this]
    simp (maxSteps := 400000) (dsimp := false) only [upd_upd, axs, AThen, ABlock, dstsOk, AStep, callsF, AWant, aop, AS.ev, AS.put, upd, AS.bound, abin, aint, aload, astore, cellsAt, AV.cells, alen, elems, AV.int?, FPost, aresL, ares1, pack, afill, splice, Value.oneCell', Nat.reduceLT, Nat.reduceLeDiff, Nat.reduceEqDiff, Nat.reduceAdd, Nat.reduceMul, Nat.reduceSub, Nat.reduceBEq, Int.reduceLE, Int.reduceLT, Int.reduceToNat, Int.reduceNeg, Int.reduceEq, axt, ftK, pickP, AScope, AAll, pickQ, ftQ, inHeap, tys]
    refine ADraw.uncap (i := 0) rfl ?_
    refine ADraw.planR [] [(0, true), (1, true), (2, true), (3, true), (4, true), (5, true), (6, true), (7, true), (8, true)] [(0, false), (0, false), (0, false), (0, false), (0, false), (0, false), (0, false), (0, false), (0, false)] mixed (by kernel_rfl) (by kernel_rfl) ?_
    have h1a : IntKind.i64.wrap (0 + 1) = 1 := by decide
    have h1b : (1 : Int) ≤ ((a.length + 1 : Nat) : Int) := by omega
    have h1c : (0 : Int) ≤ (a.length : Int) := by omega
    have h1d : (0 : Int) ≤ 1 := by omega
    simp (maxSteps := 400000) (dsimp := false) only [hn0, h1a, h1b, h1c, h1d, axs, AThen, ABlock, dstsOk, AStep, callsF, AWant, aop, AS.ev, AS.put, upd, AS.bound, abin, aint, aload, astore, cellsAt, AV.cells, alen, elems, AV.int?, FPost, aresL, ares1, pack, afill, splice, Value.oneCell', Nat.reduceLT, Nat.reduceLeDiff, Nat.reduceEqDiff, Nat.reduceAdd, Nat.reduceMul, Nat.reduceSub, Nat.reduceBEq, Int.reduceLE, Int.reduceLT, Int.reduceToNat, Int.reduceNeg, Int.reduceEq, axt, ftK, pickP, AScope, AAll, pickQ, ftQ, inHeap, tys]
    refine ⟨rfl, _, AStepX.copy (L := a.length) (ys := U a) rfl rfl rfl rfl sl22 ty34 rfl (by decide) (.inl rfl) (upd_same _ _ _) (by first | (simp [over]; done) | (simp [over]; omega)) ?_ rfl, ?_⟩
    · show srcFirst (upd H n _) 1 _ (.sl id 1 0 a.length) = _
      simp only [srcFirst, upd_ne H _ (show id ≠ n by omega), hid]
      simp [U_len]
      rw [← U_len a, List.take_length]
    simp (maxSteps := 400000) (dsimp := false) only [upd_upd, axs, AThen, ABlock, dstsOk, AStep, callsF, AWant, aop, AS.ev, AS.put, upd, AS.bound, abin, aint, aload, astore, cellsAt, AV.cells, alen, elems, AV.int?, FPost, aresL, ares1, pack, afill, splice, Value.oneCell', Nat.reduceLT, Nat.reduceLeDiff, Nat.reduceEqDiff, Nat.reduceAdd, Nat.reduceMul, Nat.reduceSub, Nat.reduceBEq, Int.reduceLE, Int.reduceLT, Int.reduceToNat, Int.reduceNeg, Int.reduceEq, axt, ftK, pickP, AScope, AAll, pickQ, ftQ, inHeap, tys]
    have e : over (over ([.sc (.int .u64 0)] :: List.replicate a.length [.sc (.int .u64 0)]) 0 [[.sc (.int .u64 v)]]) 1 (U a) = U (v :: a) := by
      simp [over, U]; omega
    exact ⟨_, rfl, n, rfl, by rw [if_pos rfl, e]⟩
  · have hroom : a.length + 1 ≤ c := by
      simp at hg; omega
    have hn0 : (0 : Int) ≤ ((a.length + 1 : Nat) : Int) := by omega
    simp (maxSteps := 400000) (dsimp := false) only [hw, axs, AThen, ABlock, dstsOk, AStep, callsF, AWant, aop, AS.ev, AS.put, upd, AS.bound, abin, aint, aload, astore, cellsAt, AV.cells, alen, elems, AV.int?, FPost, aresL, ares1, pack, afill, splice, Value.oneCell', Nat.reduceLT, Nat.reduceLeDiff, Nat.reduceEqDiff, Nat.reduceAdd, Nat.reduceMul, Nat.reduceSub, Nat.reduceBEq, Int.reduceLE, Int.reduceLT, Int.reduceToNat, Int.reduceNeg, Int.reduceEq, axt, ftK, pickP, AScope, AAll, pickQ, ftQ, inHeap, tys]
    refine AStepX.slice (l := 0) (q := ((a.length + 1 : Nat) : Int)) rfl sl22 ty34 rfl rfl rfl rfl (by omega) (by omega) (by omega) (by omega) ?_
    simp (maxSteps := 400000) (dsimp := false) only [hn0, axs, AThen, ABlock, dstsOk, AStep, callsF, AWant, aop, AS.ev, AS.put, upd, AS.bound, abin, aint, aload, astore, cellsAt, AV.cells, alen, elems, AV.int?, FPost, aresL, ares1, pack, afill, splice, Value.oneCell', Nat.reduceLT, Nat.reduceLeDiff, Nat.reduceEqDiff, Nat.reduceAdd, Nat.reduceMul, Nat.reduceSub, Nat.reduceBEq, Int.reduceLE, Int.reduceLT, Int.reduceToNat, Int.reduceNeg, Int.reduceEq, axt, ftK, pickP, AScope, AAll, pickQ, ftQ, inHeap, tys]
    have h1a : IntKind.i64.wrap (0 + 1) = 1 := by decide
    refine AStepX.slice (l := 1) (q := ((a.length + 1 : Nat) : Int)) rfl sl22 ty34 rfl rfl rfl rfl (by omega) (by omega) (by omega) (by omega) ?_
    simp (maxSteps := 400000) (dsimp := false) only [hn0, axs, AThen, ABlock, dstsOk, AStep, callsF, AWant, aop, AS.ev, AS.put, upd, AS.bound, abin, aint, aload, astore, cellsAt, AV.cells, alen, elems, AV.int?, FPost, aresL, ares1, pack, afill, splice, Value.oneCell', Nat.reduceLT, Nat.reduceLeDiff, Nat.reduceEqDiff, Nat.reduceAdd, Nat.reduceMul, Nat.reduceSub, Nat.reduceBEq, Int.reduceLE, Int.reduceLT, Int.reduceToNat, Int.reduceNeg, Int.reduceEq, axt, ftK, pickP, AScope, AAll, pickQ, ftQ, inHeap, tys]
    refine .inr (AStepX.overlaps (fn := Try.f62) (ps := Try.f62.params) (rs := Try.f62.resultTypes) rfl rfl rfl Try.func62 rfl rfl (by kernel_rfl) (by kernel_rfl) rfl sl22 ty34 (by decide) (.inl rfl) (.inr ⟨_, rfl⟩) hne.symm hv hid (by simp) (by simpa [U] using ha) ?_)
    simp (maxSteps := 400000) (dsimp := false) only [axs, AThen, ABlock, dstsOk, AStep, callsF, AWant, aop, AS.ev, AS.put, upd, AS.bound, abin, aint, aload, astore, cellsAt, AV.cells, alen, elems, AV.int?, FPost, aresL, ares1, pack, afill, splice, Value.oneCell', Nat.reduceLT, Nat.reduceLeDiff, Nat.reduceEqDiff, Nat.reduceAdd, Nat.reduceMul, Nat.reduceSub, Nat.reduceBEq, Int.reduceLE, Int.reduceLT, Int.reduceToNat, Int.reduceNeg, Int.reduceEq, axt, ftK, pickP, AScope, AAll, pickQ, ftQ, inHeap, tys]
    have h1b : (1 : Int) ≤ ((a.length + 1 : Nat) : Int) := by omega
    have h1d : (0 : Int) ≤ 1 := by omega
    refine ADraw.uncap (i := 0) rfl ?_
    refine ADraw.planR [] [(0, true), (1, true), (2, true), (3, true), (4, true), (5, true), (6, true), (7, true), (8, true)] [(0, false), (0, false), (0, false), (0, false), (0, false), (0, false), (0, false), (0, false), (0, false)] mixed (by kernel_rfl) (by kernel_rfl) ?_
    simp (maxSteps := 400000) (dsimp := false) only [hn0, h1a, h1b, h1d, axs, AThen, ABlock, dstsOk, AStep, callsF, AWant, aop, AS.ev, AS.put, upd, AS.bound, abin, aint, aload, astore, cellsAt, AV.cells, alen, elems, AV.int?, FPost, aresL, ares1, pack, afill, splice, Value.oneCell', Nat.reduceLT, Nat.reduceLeDiff, Nat.reduceEqDiff, Nat.reduceAdd, Nat.reduceMul, Nat.reduceSub, Nat.reduceBEq, Int.reduceLE, Int.reduceLT, Int.reduceToNat, Int.reduceNeg, Int.reduceEq, axt, ftK, pickP, AScope, AAll, pickQ, ftQ, inHeap, tys]
    refine ⟨rfl, _, AStepX.copy (L := a.length + 1) (ys := U a) rfl rfl rfl rfl sl22 ty34 rfl (by decide) (.inl rfl) hid (by rw [U_len]; omega) ?_ rfl, ?_⟩
    · show srcFirst H 1 _ (.sl id 1 0 (a.length + 1)) = _
      simp only [srcFirst, hid]
      simp [U_len]
      rw [← U_len a, List.take_length]
    simp (maxSteps := 400000) (dsimp := false) only [upd_upd, hn0, axs, AThen, ABlock, dstsOk, AStep, callsF, AWant, aop, AS.ev, AS.put, upd, AS.bound, abin, aint, aload, astore, cellsAt, AV.cells, alen, elems, AV.int?, FPost, aresL, ares1, pack, afill, splice, Value.oneCell', Nat.reduceLT, Nat.reduceLeDiff, Nat.reduceEqDiff, Nat.reduceAdd, Nat.reduceMul, Nat.reduceSub, Nat.reduceBEq, Int.reduceLE, Int.reduceLT, Int.reduceToNat, Int.reduceNeg, Int.reduceEq, axt, ftK, pickP, AScope, AAll, pickQ, ftQ, inHeap, tys]
    refine AStepX.copy (L := 1) (ys := [[.sc (.int .u64 v)]]) rfl rfl rfl rfl sl22 ty34 rfl (by decide) (.inl rfl) (upd_same _ _ _) (by omega) ?_ ?_
    · show srcFirst (upd H id _) 1 _ (.sl iv 1 0 1) = _
      simp only [srcFirst, upd_ne H _ hne.symm, hv]
      simp
    simp (maxSteps := 400000) (dsimp := false) only [upd_upd, axs, AThen, ABlock, dstsOk, AStep, callsF, AWant, aop, AS.ev, AS.put, upd, AS.bound, abin, aint, aload, astore, cellsAt, AV.cells, alen, elems, AV.int?, FPost, aresL, ares1, pack, afill, splice, Value.oneCell', Nat.reduceLT, Nat.reduceLeDiff, Nat.reduceEqDiff, Nat.reduceAdd, Nat.reduceMul, Nat.reduceSub, Nat.reduceBEq, Int.reduceLE, Int.reduceLT, Int.reduceToNat, Int.reduceNeg, Int.reduceEq, axt, ftK, pickP, AScope, AAll, pickQ, ftQ, inHeap, tys]
    have e : over (over (U a) 1 (U a)) 0 [[.sc (.int .u64 v)]] = U (v :: a) := by
      obtain ⟨x, b, rfl⟩ : ∃ x b, a = x :: b := by cases a with | nil => exact absurd rfl ha | cons x b => exact ⟨x, b, rfl⟩
      simp [over, U]
    exact ⟨_, rfl, id, rfl, by rw [if_pos rfl, e]⟩
end Go.Al
