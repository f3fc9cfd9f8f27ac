/- Items in rows: an insertion at the front, by the library. Conditions: the rows are short. -/
import Derived.Test.YthglbfgmohgfdaaKi2
set_option linter.unusedVariables false
set_option linter.unusedSimpArgs false
set_option maxRecDepth 20000
set_option maxHeartbeats 3200000
-- NOIDS: noIdsE_IT
-- LENS: IT_len
namespace Go.Al
open Go.Proofs
theorem cInsNil (v : Int × Int) (H : AH) (n iv : Nat) (hv : H iv = some (.obj 58 2 [[.sc (.int .u64 v.1), .sc (.int .i64 v.2)]] false)) :
    HCalls Try.prog 66 [.sc (.slice none 0 0), .sc (.int .i64 0), .sl iv 2 0 1] H n
      fun r H' n' => Live 58 2 H' (IT [v]) r ∧ (∀ i z o m, r = .sl i z o m → n ≤ i) ∧ Keeps H n H' n' := by
  refine HCalls.walk Try.func66 rfl rfl Try.ntmps66 Try.results66 (by simp) ?_; simp (maxSteps := 400000) (dsimp := false) only [hv, axs, AThen, ABlock, dstsOk, AStep, callsF, AWant, aop, AS.ev, AS.put, upd, AS.bound, abin, aint, aload, astore, cellsAt, AV.cells, alen, elems, AV.int?, FPost, aresL, ares1, pack, afill, splice, Value.oneCell', Nat.reduceLT, Nat.reduceLeDiff, Nat.reduceEqDiff, Nat.reduceAdd, Nat.reduceMul, Nat.reduceSub, Nat.reduceBEq, Int.reduceLE, Int.reduceLT, Int.reduceToNat, Int.reduceNeg, Int.reduceEq, axt, ftK, ft3, pickP, AScope, AAll, pickQ, ftQ, inHeap, tys]
  exact ⟨_, rfl, Live.mk (upd_same _ _ _) rfl, (fun i z o m e => by cases e; omega), (by omega), fun j hj => upd_ne _ _ (by omega)⟩
theorem cInsEmpty (v : Int × Int) (H : AH) (n iv id : Nat) (hne : id ≠ iv) (hid : H id = some (.obj 58 2 [] false)) (hv : H iv = some (.obj 58 2 [[.sc (.int .u64 v.1), .sc (.int .i64 v.2)]] false)) :
    HCalls Try.prog 66 [.sl id 2 0 0, .sc (.int .i64 0), .sl iv 2 0 1] H n
      fun r H' n' => Live 58 2 H' (IT [v]) r ∧ (∀ i z o m, r = .sl i z o m → i = id ∨ n ≤ i) ∧ n ≤ n' ∧ ∀ j, j < n → j ≠ id → H' j = H j := by
  refine HCalls.walk Try.func66 rfl rfl Try.ntmps66 Try.results66 (by simp) ?_; simp (maxSteps := 400000) (dsimp := false) only [hv, hid, axs, AThen, ABlock, dstsOk, AStep, callsF, AWant, aop, AS.ev, AS.put, upd, AS.bound, abin, aint, aload, astore, cellsAt, AV.cells, alen, elems, AV.int?, FPost, aresL, ares1, pack, afill, splice, Value.oneCell', Nat.reduceLT, Nat.reduceLeDiff, Nat.reduceEqDiff, Nat.reduceAdd, Nat.reduceMul, Nat.reduceSub, Nat.reduceBEq, Int.reduceLE, Int.reduceLT, Int.reduceToNat, Int.reduceNeg, Int.reduceEq, axt, ftK, ft3, pickP, AScope, AAll, pickQ, ftQ, inHeap, tys]
  refine ⟨_, rfl, Live.mk (if_pos rfl) rfl, (fun i z o m e => by cases e; omega), (by omega), fun j hj hjn => ?_⟩
  rw [if_neg (by omega), if_neg hjn]
theorem cInsRow (a : List (Int × Int)) (v : Int × Int) (ha : a ≠ []) (hl : a.length ≤ 1000000) (H : AH) (n iv id : Nat) (hne : id ≠ iv) (hiv : iv < n) (hidn : id < n) (hid : H id = some (.obj 58 2 (IT a) false)) (hv : H iv = some (.obj 58 2 [[.sc (.int .u64 v.1), .sc (.int .i64 v.2)]] false)) :
    HCalls Try.prog 66 [.sl id 2 0 a.length, .sc (.int .i64 0), .sl iv 2 0 1] H n
      fun r H' n' => Live 58 2 H' (IT (v :: a)) r ∧ (∀ i z o m, r = .sl i z o m → i = id ∨ n ≤ i) ∧ n ≤ n' ∧ ∀ j, j < n → j ≠ id → H' j = H j := by
  refine HCalls.cap (by kernel_rfl) (.inr rfl) fun c hc hcm => ?_
  have hpos : 0 < a.length := List.length_pos_iff.2 ha
  have q0 : (0 : Int) ≤ (a.length : Int) := by omega
  have q1 : (a.length : Int) ≤ c := by omega
  have q2 : ¬ 0 = c := by omega
  have q3 : (0 : Int) ≤ (c : Int) := by omega
  refine HCalls.walk Try.func66 rfl rfl Try.ntmps66 Try.results66 (by simp) ?_; simp (maxSteps := 400000) (dsimp := false) only [hv, q0, q1, q2, axs, AThen, ABlock, dstsOk, AStep, callsF, AWant, aop, AS.ev, AS.put, upd, AS.bound, abin, aint, aload, astore, cellsAt, AV.cells, alen, elems, AV.int?, FPost, aresL, ares1, pack, afill, splice, Value.oneCell', Nat.reduceLT, Nat.reduceLeDiff, Nat.reduceEqDiff, Nat.reduceAdd, Nat.reduceMul, Nat.reduceSub, Nat.reduceBEq, Int.reduceLE, Int.reduceLT, Int.reduceToNat, Int.reduceNeg, Int.reduceEq, axt, ftK, ft3, pickP, AScope, AAll, pickQ, ftQ, inHeap, tys]
  refine AStepX.len rfl rfl rfl rfl sl24 rfl ?_
  have h0 : ¬ (0 : Int) = a.length := by omega
  simp (maxSteps := 400000) (dsimp := false) only [h0, axs, AThen, ABlock, dstsOk, AStep, callsF, AWant, aop, AS.ev, AS.put, upd, AS.bound, abin, aint, aload, astore, cellsAt, AV.cells, alen, elems, AV.int?, FPost, aresL, ares1, pack, afill, splice, Value.oneCell', Nat.reduceLT, Nat.reduceLeDiff, Nat.reduceEqDiff, Nat.reduceAdd, Nat.reduceMul, Nat.reduceSub, Nat.reduceBEq, Int.reduceLE, Int.reduceLT, Int.reduceToNat, Int.reduceNeg, Int.reduceEq, axt, ftK, ft3, pickP, AScope, AAll, pickQ, ftQ, inHeap, tys]
  refine AStepX.cap rfl rfl rfl rfl sl24 rfl ?_
  have hw : IntKind.i64.wrap ((a.length : Int) + 1) = ((a.length + 1 : Nat) : Int) := by rw [wrap_in (by omega) (by omega)]; rfl
  simp (maxSteps := 400000) (dsimp := false) only [hw, axs, AThen, ABlock, dstsOk, AStep, callsF, AWant, aop, AS.ev, AS.put, upd, AS.bound, abin, aint, aload, astore, cellsAt, AV.cells, alen, elems, AV.int?, FPost, aresL, ares1, pack, afill, splice, Value.oneCell', Nat.reduceLT, Nat.reduceLeDiff, Nat.reduceEqDiff, Nat.reduceAdd, Nat.reduceMul, Nat.reduceSub, Nat.reduceBEq, Int.reduceLE, Int.reduceLT, Int.reduceToNat, Int.reduceNeg, Int.reduceEq, axt, ftK, ft3, pickP, AScope, AAll, pickQ, ftQ, inHeap, tys]
  refine ACond.intro _ (fun hg => ?_) (fun hg => ?_)
  · have hroom : c < a.length + 1 := by
      simp at hg; omega
    have hw2 : IntKind.i64.wrap (((a.length + 1 : Nat) : Int) - 0) = ((a.length + 1 : Nat) : Int) := by rw [Int.sub_zero, wrap_in (by omega) (by omega)]
    simp (maxSteps := 400000) (dsimp := false) only [q2, q3, hw, hw2, axs, AThen, ABlock, dstsOk, AStep, callsF, AWant, aop, AS.ev, AS.put, upd, AS.bound, abin, aint, aload, astore, cellsAt, AV.cells, alen, elems, AV.int?, FPost, aresL, ares1, pack, afill, splice, Value.oneCell', Nat.reduceLT, Nat.reduceLeDiff, Nat.reduceEqDiff, Nat.reduceAdd, Nat.reduceMul, Nat.reduceSub, Nat.reduceBEq, Int.reduceLE, Int.reduceLT, Int.reduceToNat, Int.reduceNeg, Int.reduceEq, axt, ftK, ft3, pickP, AScope, AAll, pickQ, ftQ, inHeap, tys]
    refine AStepX.append_zeros (l := a.length + 1) rfl rfl rfl rfl sl24 in3 ty58 rfl (by decide) rfl rfl rfl rfl rfl (by omega) (by omega) (by show (a.length + 1) * 16 ≤ _; omega) ?_
    have hn0 : (0 : Int) ≤ ((a.length + 1 : Nat) : Int) := by omega
    simp (maxSteps := 400000) (dsimp := false) only [hn0, axs, AThen, ABlock, dstsOk, AStep, callsF, AWant, aop, AS.ev, AS.put, upd, AS.bound, abin, aint, aload, astore, cellsAt, AV.cells, alen, elems, AV.int?, FPost, aresL, ares1, pack, afill, splice, Value.oneCell', Nat.reduceLT, Nat.reduceLeDiff, Nat.reduceEqDiff, Nat.reduceAdd, Nat.reduceMul, Nat.reduceSub, Nat.reduceBEq, Int.reduceLE, Int.reduceLT, Int.reduceToNat, Int.reduceNeg, Int.reduceEq, axt, ftK, ft3, pickP, AScope, AAll, pickQ, ftQ, inHeap, tys]
    refine AStepX.copy (L := 1) (ys := [[.sc (.int .u64 v.1), .sc (.int .i64 v.2)]]) rfl rfl rfl rfl sl24 ty58 rfl (by decide) (.inl rfl) (upd_same _ _ _) (by simp) ?_ ?_
    · show srcFirst (upd H n _) 2 _ (.sl iv 2 0 1) = _
      have : upd H n (some (.obj 58 2 ([.sc (.int .u64 0), .sc (.int .i64 0)] :: List.replicate a.length [.sc (.int .u64 0), .sc (.int .i64 0)]) false)) iv = some (.obj 58 2 [[.sc (.int .u64 v.1), .sc (.int .i64 v.2)]] false) := by rw [upd_ne _ _ (by omega)]; exact hv
      simp [srcFirst, this]
    simp (maxSteps := 400000) (dsimp := false) only [upd_upd, axs, AThen, ABlock, dstsOk, AStep, callsF, AWant, aop, AS.ev, AS.put, upd, AS.bound, abin, aint, aload, astore, cellsAt, AV.cells, alen, elems, AV.int?, FPost, aresL, ares1, pack, afill, splice, Value.oneCell', Nat.reduceLT, Nat.reduceLeDiff, Nat.reduceEqDiff, Nat.reduceAdd, Nat.reduceMul, Nat.reduceSub, Nat.reduceBEq, Int.reduceLE, Int.reduceLT, Int.reduceToNat, Int.reduceNeg, Int.reduceEq, axt, ftK, ft3, pickP, AScope, AAll, pickQ, ftQ, inHeap, tys]
    refine ADraw.uncap (i := 0) rfl ?_
    refine ADraw.planR [] [(0, true), (1, true), (2, true), (3, true), (4, true), (5, true), (6, true), (7, true), (8, true)] [(0, false), (0, false), (0, false), (0, false), (0, false), (0, false), (0, false), (0, false), (0, false)] mixed (by kernel_rfl) (by kernel_rfl) ?_
    have h1a : IntKind.i64.wrap (0 + 1) = 1 := by decide
    have h1b : (1 : Int) ≤ ((a.length + 1 : Nat) : Int) := by omega
    have h1c : (0 : Int) ≤ (a.length : Int) := by omega
    have h1d : (0 : Int) ≤ 1 := by omega
    simp (maxSteps := 400000) (dsimp := false) only [hn0, h1a, h1b, h1c, h1d, axs, AThen, ABlock, dstsOk, AStep, callsF, AWant, aop, AS.ev, AS.put, upd, AS.bound, abin, aint, aload, astore, cellsAt, AV.cells, alen, elems, AV.int?, FPost, aresL, ares1, pack, afill, splice, Value.oneCell', Nat.reduceLT, Nat.reduceLeDiff, Nat.reduceEqDiff, Nat.reduceAdd, Nat.reduceMul, Nat.reduceSub, Nat.reduceBEq, Int.reduceLE, Int.reduceLT, Int.reduceToNat, Int.reduceNeg, Int.reduceEq, axt, ftK, ft3, pickP, AScope, AAll, pickQ, ftQ, inHeap, tys]
    refine ⟨rfl, _, AStepX.copy (L := a.length) (ys := IT a) rfl rfl rfl rfl sl24 ty58 rfl (by decide) (.inl rfl) (upd_same _ _ _) (by first | (simp [over]; done) | (simp [over]; omega)) ?_ rfl, ?_⟩
    · show srcFirst (upd H n _) 2 _ (.sl id 2 0 a.length) = _
      simp only [srcFirst, upd_ne H _ (show id ≠ n by omega), hid]
      simp [IT_len]
      rw [← IT_len a, List.take_length]
    simp (maxSteps := 400000) (dsimp := false) only [upd_upd, axs, AThen, ABlock, dstsOk, AStep, callsF, AWant, aop, AS.ev, AS.put, upd, AS.bound, abin, aint, aload, astore, cellsAt, AV.cells, alen, elems, AV.int?, FPost, aresL, ares1, pack, afill, splice, Value.oneCell', Nat.reduceLT, Nat.reduceLeDiff, Nat.reduceEqDiff, Nat.reduceAdd, Nat.reduceMul, Nat.reduceSub, Nat.reduceBEq, Int.reduceLE, Int.reduceLT, Int.reduceToNat, Int.reduceNeg, Int.reduceEq, axt, ftK, ft3, pickP, AScope, AAll, pickQ, ftQ, inHeap, tys]
    have e : over (over ([.sc (.int .u64 0), .sc (.int .i64 0)] :: List.replicate a.length [.sc (.int .u64 0), .sc (.int .i64 0)]) 0 [[.sc (.int .u64 v.1), .sc (.int .i64 v.2)]]) 1 (IT a) = IT (v :: a) := by
      simp [over, IT]; omega
    exact ⟨_, rfl, Live.mk (by rw [upd_same, e]) (by rw [IT_len]; rfl), (fun i z o m e => by cases e; omega), by omega, fun j hj hjn => if_neg (by omega)⟩
  · have hroom : a.length + 1 ≤ c := by
      simp at hg; omega
    have hn0 : (0 : Int) ≤ ((a.length + 1 : Nat) : Int) := by omega
    have q5 : ((a.length + 1 : Nat) : Int) ≤ c := by omega
    have q6 : ¬ 1 = c := by omega
    have h1a : IntKind.i64.wrap (0 + 1) = 1 := by decide
    have h1d : (0 : Int) ≤ 1 := by omega
    have h1b : (1 : Int) ≤ ((a.length + 1 : Nat) : Int) := by omega
    simp (maxSteps := 400000) (dsimp := false) only [hw, hn0, q5, q2, q6, h1a, h1d, h1b, axs, AThen, ABlock, dstsOk, AStep, callsF, AWant, aop, AS.ev, AS.put, upd, AS.bound, abin, aint, aload, astore, cellsAt, AV.cells, alen, elems, AV.int?, FPost, aresL, ares1, pack, afill, splice, Value.oneCell', Nat.reduceLT, Nat.reduceLeDiff, Nat.reduceEqDiff, Nat.reduceAdd, Nat.reduceMul, Nat.reduceSub, Nat.reduceBEq, Int.reduceLE, Int.reduceLT, Int.reduceToNat, Int.reduceNeg, Int.reduceEq, axt, ftK, ft3, pickP, AScope, AAll, pickQ, ftQ, inHeap, tys]
    refine .inr (AStepX.overlaps (fn := Try.f77) (ps := Try.f77.params) (rs := Try.f77.resultTypes) rfl rfl rfl Try.func77 rfl rfl (by kernel_rfl) (by kernel_rfl) rfl sl24 ty58 (by decide) (.inl rfl) (.inr ⟨_, rfl⟩) hne.symm hv hid (by simp) (by simpa [IT] using ha) ?_)
    simp (maxSteps := 400000) (dsimp := false) only [axs, AThen, ABlock, dstsOk, AStep, callsF, AWant, aop, AS.ev, AS.put, upd, AS.bound, abin, aint, aload, astore, cellsAt, AV.cells, alen, elems, AV.int?, FPost, aresL, ares1, pack, afill, splice, Value.oneCell', Nat.reduceLT, Nat.reduceLeDiff, Nat.reduceEqDiff, Nat.reduceAdd, Nat.reduceMul, Nat.reduceSub, Nat.reduceBEq, Int.reduceLE, Int.reduceLT, Int.reduceToNat, Int.reduceNeg, Int.reduceEq, axt, ftK, ft3, pickP, AScope, AAll, pickQ, ftQ, inHeap, tys]
    refine ADraw.uncap (i := 0) rfl ?_
    refine ADraw.planR [] [(0, true), (1, true), (2, true), (3, true), (4, true), (5, true), (6, true), (7, true), (8, true)] [(0, false), (0, false), (0, false), (0, false), (0, false), (0, false), (0, false), (0, false), (0, false)] mixed (by kernel_rfl) (by kernel_rfl) ?_
    simp (maxSteps := 400000) (dsimp := false) only [hn0, h1a, h1b, h1d, axs, AThen, ABlock, dstsOk, AStep, callsF, AWant, aop, AS.ev, AS.put, upd, AS.bound, abin, aint, aload, astore, cellsAt, AV.cells, alen, elems, AV.int?, FPost, aresL, ares1, pack, afill, splice, Value.oneCell', Nat.reduceLT, Nat.reduceLeDiff, Nat.reduceEqDiff, Nat.reduceAdd, Nat.reduceMul, Nat.reduceSub, Nat.reduceBEq, Int.reduceLE, Int.reduceLT, Int.reduceToNat, Int.reduceNeg, Int.reduceEq, axt, ftK, ft3, pickP, AScope, AAll, pickQ, ftQ, inHeap, tys]
    refine ⟨rfl, _, AStepX.copy (L := a.length + 1) (ys := IT a) rfl rfl rfl rfl sl24 ty58 rfl (by decide) (.inl rfl) hid (by rw [IT_len]; omega) ?_ rfl, ?_⟩
    · show srcFirst H 2 _ (.sl id 2 0 (a.length + 1)) = _
      simp only [srcFirst, hid]
      simp [IT_len]
      rw [← IT_len a, List.take_length]
    simp (maxSteps := 400000) (dsimp := false) only [upd_upd, hn0, axs, AThen, ABlock, dstsOk, AStep, callsF, AWant, aop, AS.ev, AS.put, upd, AS.bound, abin, aint, aload, astore, cellsAt, AV.cells, alen, elems, AV.int?, FPost, aresL, ares1, pack, afill, splice, Value.oneCell', Nat.reduceLT, Nat.reduceLeDiff, Nat.reduceEqDiff, Nat.reduceAdd, Nat.reduceMul, Nat.reduceSub, Nat.reduceBEq, Int.reduceLE, Int.reduceLT, Int.reduceToNat, Int.reduceNeg, Int.reduceEq, axt, ftK, ft3, pickP, AScope, AAll, pickQ, ftQ, inHeap, tys]
    refine AStepX.copy (L := 1) (ys := [[.sc (.int .u64 v.1), .sc (.int .i64 v.2)]]) rfl rfl rfl rfl sl24 ty58 rfl (by decide) (.inl rfl) (upd_same _ _ _) (by omega) ?_ ?_
    · show srcFirst (upd H id _) 2 _ (.sl iv 2 0 1) = _
      simp only [srcFirst, upd_ne H _ hne.symm, hv]
      simp
    simp (maxSteps := 400000) (dsimp := false) only [upd_upd, axs, AThen, ABlock, dstsOk, AStep, callsF, AWant, aop, AS.ev, AS.put, upd, AS.bound, abin, aint, aload, astore, cellsAt, AV.cells, alen, elems, AV.int?, FPost, aresL, ares1, pack, afill, splice, Value.oneCell', Nat.reduceLT, Nat.reduceLeDiff, Nat.reduceEqDiff, Nat.reduceAdd, Nat.reduceMul, Nat.reduceSub, Nat.reduceBEq, Int.reduceLE, Int.reduceLT, Int.reduceToNat, Int.reduceNeg, Int.reduceEq, axt, ftK, ft3, pickP, AScope, AAll, pickQ, ftQ, inHeap, tys]
    have e : over (over (IT a) 1 (IT a)) 0 [[.sc (.int .u64 v.1), .sc (.int .i64 v.2)]] = IT (v :: a) := by
      obtain ⟨x, b, rfl⟩ : ∃ x b, a = x :: b := by cases a with | nil => exact absurd rfl ha | cons x b => exact ⟨x, b, rfl⟩
      simp [over, IT]
    exact ⟨_, rfl, Live.mk (by rw [upd_same, e]) (by rw [IT_len]; rfl), (fun i z o m e => by cases e; omega), fun j hj hjn => if_neg hjn⟩
end Go.Al
