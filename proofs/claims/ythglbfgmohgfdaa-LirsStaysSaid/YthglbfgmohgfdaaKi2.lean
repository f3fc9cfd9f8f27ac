/- Items in rows: what the library's deletion comes to. Conditions: the rows are short. -/
import Derived.Test.YthglbfgmohgfdaaKi1
set_option linter.unusedVariables false
set_option linter.unusedSimpArgs false
set_option maxRecDepth 20000
set_option maxHeartbeats 3200000
-- NOIDS: noIdsE_IT
-- LENS: IT_len
namespace Go.Al
open Go.Proofs
theorem eraseIdx_len {l : List (Int × Int)} {i : Nat} (h : i < l.length) : (l.eraseIdx i).length = l.length - 1 := by rw [List.length_eraseIdx, if_pos h]
theorem over_mid (l : List (Int × Int)) {i : Nat} (h : i < l.length) (R : List (List AV)) : over (over (IT l) i (((IT l).drop (i + 1)).take (l.length - (i + 1)))) (i + (l.length - (i + 1))) R = IT (l.eraseIdx i) ++ (R ++ (over (IT l) i (((IT l).drop (i + 1)).take (l.length - (i + 1)))).drop (i + (l.length - (i + 1)) + R.length)) := by
  have e : ((IT l).drop (i + 1)).take (l.length - (i + 1)) = IT (l.drop (i + 1)) := by
    rw [IT_drop, List.take_of_length_le (by rw [IT_len, List.length_drop]; omega)]
  have e2 : (over (IT l) i (IT (l.drop (i + 1)))).take (i + (l.length - (i + 1))) = IT (l.eraseIdx i) := by
    unfold over
    rw [List.eraseIdx_eq_take_drop_succ, IT_append, IT_take]
    have : i + (l.length - (i + 1)) = (IT (l.take i) ++ IT (l.drop (i + 1))).length := by
      rw [List.length_append, IT_len, IT_len, List.length_take, List.length_drop]; omega
    rw [this, List.take_left']
    rfl
  rw [e]
  generalize over (IT l) i (IT (l.drop (i + 1))) = X at *
  unfold over
  rw [e2, List.append_assoc]
theorem over_end (l : List (Int × Int)) {i : Nat} (h : i + 1 = l.length) (R : List (List AV)) : over (over (IT l) i []) i R = IT (l.eraseIdx i) ++ (R ++ (over (IT l) i []).drop (i + R.length)) := by
  have e : over (IT l) i [] = IT l := by simp [over]
  have e2 : (IT l).take i = IT (l.eraseIdx i) := by
    rw [List.eraseIdx_eq_take_drop_succ, List.drop_of_length_le (by omega), List.append_nil, IT_take]
  rw [e]
  show (IT l).take i ++ R ++ _ = _
  rw [e2, List.append_assoc]
/-- A slice of known capacity told as one of any. -/
theorem HCalls.uncap {P : Program} {f : FuncId} {args : List AV} {H : AH} {n : Nat} {Q : AV → AH → Nat → Prop} (h : HCalls P f args H n fun v H' n' => ∃ id z off m c, v = .slc id z off m c ∧ Q (.sl id z off m) H' n') : HCalls P f args H n Q :=
  ⟨h.1, fun w B0 base β cargs h1 h2 h3 h4 => (h.2 w B0 base β cargs h1 h2 h3 h4).mono fun _ w' ⟨β', n', H', r, v, k1, k2, k3, k4, id, z, off, m, c, e, q⟩ => by
    subst e
    exact ⟨β', n', H', _, v, k1, k2, k3, k4.uncap, q⟩⟩
theorem cDelAt (l : List (Int × Int)) (i : Nat) (h : i < l.length) (hl : l.length ≤ 1000000) {id : Nat} {H : AH} {n : Nat} (hid : H id = some (.obj 58 2 (IT l) false)) (hlt : id < n) :
    HCalls Try.prog 73 [.sl id 2 0 l.length, .sc (.int .i64 i), .sc (.int .i64 ((i + 1 : Nat) : Int))] H n
      fun v H' n' => ∃ es, v = .sl id 2 0 (l.eraseIdx i).length ∧ H' id = some (.obj 58 2 (IT (l.eraseIdx i) ++ es) false) ∧ n' = n ∧ ∀ j, j ≠ id → H' j = H j := by
  refine HCalls.cap (by kernel_rfl) (.inr rfl) fun c hc hcm => HCalls.uncap ?_
  have hne : ¬ (i : Int) = ((i + 1 : Nat) : Int) := by omega
  refine HCalls.walk Try.func73 rfl rfl Try.ntmps73 Try.results73 (by simp) ?_; simp (maxSteps := 400000) (dsimp := false) only [axs, AThen, ABlock, dstsOk, AStep, callsF, AWant, aop, AS.ev, AS.put, upd, AS.bound, abin, aint, aload, astore, cellsAt, AV.cells, alen, elems, AV.int?, FPost, aresL, ares1, pack, afill, splice, Value.oneCell', Nat.reduceLT, Nat.reduceLeDiff, Nat.reduceEqDiff, Nat.reduceAdd, Nat.reduceMul, Nat.reduceSub, Nat.reduceBEq, Int.reduceLE, Int.reduceLT, Int.reduceToNat, Int.reduceNeg, Int.reduceEq, axt, ftK, ft3, pickP, AScope, AAll, pickQ, ftQ, inHeap, tys]
  refine AStepX.len rfl rfl rfl rfl sl24 rfl ?_
  simp (maxSteps := 400000) (dsimp := false) only [axs, AThen, ABlock, dstsOk, AStep, callsF, AWant, aop, AS.ev, AS.put, upd, AS.bound, abin, aint, aload, astore, cellsAt, AV.cells, alen, elems, AV.int?, FPost, aresL, ares1, pack, afill, splice, Value.oneCell', Nat.reduceLT, Nat.reduceLeDiff, Nat.reduceEqDiff, Nat.reduceAdd, Nat.reduceMul, Nat.reduceSub, Nat.reduceBEq, Int.reduceLE, Int.reduceLT, Int.reduceToNat, Int.reduceNeg, Int.reduceEq, axt, ftK, ft3, pickP, AScope, AAll, pickQ, ftQ, inHeap, tys]
  refine AStepX.cut3 (l := i) (q := ((i + 1 : Nat) : Int)) (r := l.length) rfl sl24 ty58 rfl rfl rfl rfl (by omega) (by omega) (by omega) (by omega) ?_
  simp (maxSteps := 400000) (dsimp := false) only [hne, axs, AThen, ABlock, dstsOk, AStep, callsF, AWant, aop, AS.ev, AS.put, upd, AS.bound, abin, aint, aload, astore, cellsAt, AV.cells, alen, elems, AV.int?, FPost, aresL, ares1, pack, afill, splice, Value.oneCell', Nat.reduceLT, Nat.reduceLeDiff, Nat.reduceEqDiff, Nat.reduceAdd, Nat.reduceMul, Nat.reduceSub, Nat.reduceBEq, Int.reduceLE, Int.reduceLT, Int.reduceToNat, Int.reduceNeg, Int.reduceEq, axt, ftK, ft3, pickP, AScope, AAll, pickQ, ftQ, inHeap, tys]
  refine AStepX.len rfl rfl rfl rfl sl24 rfl ?_
  simp (maxSteps := 400000) (dsimp := false) only [hne, axs, AThen, ABlock, dstsOk, AStep, callsF, AWant, aop, AS.ev, AS.put, upd, AS.bound, abin, aint, aload, astore, cellsAt, AV.cells, alen, elems, AV.int?, FPost, aresL, ares1, pack, afill, splice, Value.oneCell', Nat.reduceLT, Nat.reduceLeDiff, Nat.reduceEqDiff, Nat.reduceAdd, Nat.reduceMul, Nat.reduceSub, Nat.reduceBEq, Int.reduceLE, Int.reduceLT, Int.reduceToNat, Int.reduceNeg, Int.reduceEq, axt, ftK, ft3, pickP, AScope, AAll, pickQ, ftQ, inHeap, tys]
  have hcz : ¬ 0 = c := by omega
  have b0 : (0 : Int) ≤ i := by omega
  have b1 : (i : Int) ≤ c := by omega
  have b2 : (0 : Int) ≤ ((i + 1 : Nat) : Int) := by omega
  have b3 : ((i + 1 : Nat) : Int) ≤ l.length := by omega
  have b4 : (l.length : Int) ≤ c := by omega
  by_cases hic : i + 1 = c
  · refine ADraw.planR [6] [(0, true), (1, true), (2, true), (3, true), (4, true), (5, true), (6, true), (7, true)] [(0, false), (0, false), (0, false), (0, false), (0, false), (0, false), (0, true), (0, false)] mixed (by kernel_rfl) (by kernel_rfl) ?_
    simp (maxSteps := 400000) (dsimp := false) only [hcz, b0, b1, b2, b3, b4, eq_true hic, axs, AThen, ABlock, dstsOk, AStep, callsF, AWant, aop, AS.ev, AS.put, upd, AS.bound, abin, aint, aload, astore, cellsAt, AV.cells, alen, elems, AV.int?, FPost, aresL, ares1, pack, afill, splice, Value.oneCell', Nat.reduceLT, Nat.reduceLeDiff, Nat.reduceEqDiff, Nat.reduceAdd, Nat.reduceMul, Nat.reduceSub, Nat.reduceBEq, Int.reduceLE, Int.reduceLT, Int.reduceToNat, Int.reduceNeg, Int.reduceEq, axt, ftK, ft3, pickP, AScope, AAll, pickQ, ftQ, inHeap, tys]
    refine ASoloK.x rfl rfl (by exact AStepX.append_in (id := id) (idy := id) (z := 2) (i := i) (L := 0) (off2 := 0) (c2 := 0) (k := c) (es := IT l) (es2 := IT l) rfl rfl rfl rfl sl24 ty58 rfl (by decide) rfl rfl hid hid (by rw [IT_len]; omega) (by omega) (by omega) rfl) ?_
    simp (maxSteps := 400000) (dsimp := false) only [axs, AThen, ABlock, dstsOk, AStep, callsF, AWant, aop, AS.ev, AS.put, upd, AS.bound, abin, aint, aload, astore, cellsAt, AV.cells, alen, elems, AV.int?, FPost, aresL, ares1, pack, afill, splice, Value.oneCell', Nat.reduceLT, Nat.reduceLeDiff, Nat.reduceEqDiff, Nat.reduceAdd, Nat.reduceMul, Nat.reduceSub, Nat.reduceBEq, Int.reduceLE, Int.reduceLT, Int.reduceToNat, Int.reduceNeg, Int.reduceEq, axt, ftK, ft3, pickP, AScope, AAll, pickQ, ftQ, inHeap, tys]
    refine AStepX.len rfl rfl rfl rfl sl24 rfl ?_
    have d0 : (0 : Int) ≤ (i : Int) := by omega
    have d1 : (i : Int) ≤ l.length := by omega
    have d2 : ¬ i = c := by omega
    simp (maxSteps := 400000) (dsimp := false) only [d0, d1, b4, eq_false d2, axs, AThen, ABlock, dstsOk, AStep, callsF, AWant, aop, AS.ev, AS.put, upd, AS.bound, abin, aint, aload, astore, cellsAt, AV.cells, alen, elems, AV.int?, FPost, aresL, ares1, pack, afill, splice, Value.oneCell', Nat.reduceLT, Nat.reduceLeDiff, Nat.reduceEqDiff, Nat.reduceAdd, Nat.reduceMul, Nat.reduceSub, Nat.reduceBEq, Int.reduceLE, Int.reduceLT, Int.reduceToNat, Int.reduceNeg, Int.reduceEq, axt, ftK, ft3, pickP, AScope, AAll, pickQ, ftQ, inHeap, tys]
    refine AStepX.clear rfl rfl rfl rfl sl24 ty58 rfl (by decide) rfl rfl rfl (.inr ⟨_, rfl⟩) (upd_same _ _ _) (by simp [over, IT_len]; omega) ?_
    simp (maxSteps := 400000) (dsimp := false) only [upd_upd, axs, AThen, ABlock, dstsOk, AStep, callsF, AWant, aop, AS.ev, AS.put, upd, AS.bound, abin, aint, aload, astore, cellsAt, AV.cells, alen, elems, AV.int?, FPost, aresL, ares1, pack, afill, splice, Value.oneCell', Nat.reduceLT, Nat.reduceLeDiff, Nat.reduceEqDiff, Nat.reduceAdd, Nat.reduceMul, Nat.reduceSub, Nat.reduceBEq, Int.reduceLE, Int.reduceLT, Int.reduceToNat, Int.reduceNeg, Int.reduceEq, axt, ftK, ft3, pickP, AScope, AAll, pickQ, ftQ, inHeap, tys]
    refine ⟨_, rfl, _, _, _, _, _, rfl, _, by rw [eraseIdx_len h]; congr 1; omega, congrArg (fun e => AO.obj 58 2 e false) (over_end l (by omega) _), fun j hj => ?_⟩
    rw [if_neg hj]
  · refine ADraw.planR [6] [(0, true), (1, true), (2, true), (3, true), (4, true), (5, true), (6, true), (7, true)] [(0, false), (0, false), (0, false), (0, false), (0, false), (0, false), (0, true), (0, false)] mixed (by kernel_rfl) (by kernel_rfl) ?_
    simp (maxSteps := 400000) (dsimp := false) only [hcz, b0, b1, b2, b3, b4, hic, axs, AThen, ABlock, dstsOk, AStep, callsF, AWant, aop, AS.ev, AS.put, upd, AS.bound, abin, aint, aload, astore, cellsAt, AV.cells, alen, elems, AV.int?, FPost, aresL, ares1, pack, afill, splice, Value.oneCell', Nat.reduceLT, Nat.reduceLeDiff, Nat.reduceEqDiff, Nat.reduceAdd, Nat.reduceMul, Nat.reduceSub, Nat.reduceBEq, Int.reduceLE, Int.reduceLT, Int.reduceToNat, Int.reduceNeg, Int.reduceEq, axt, ftK, ft3, pickP, AScope, AAll, pickQ, ftQ, inHeap, tys]
    refine ASoloK.x rfl rfl (by exact AStepX.append_in (id := id) (idy := id) (z := 2) (i := i) (L := l.length - (i + 1)) (off2 := i + 1) (k := c) (es := IT l) (es2 := IT l) rfl rfl rfl rfl sl24 ty58 rfl (by decide) rfl rfl hid hid (by rw [IT_len]; omega) (by rw [IT_len]; omega) (by omega) rfl) ?_
    simp (maxSteps := 400000) (dsimp := false) only [axs, AThen, ABlock, dstsOk, AStep, callsF, AWant, aop, AS.ev, AS.put, upd, AS.bound, abin, aint, aload, astore, cellsAt, AV.cells, alen, elems, AV.int?, FPost, aresL, ares1, pack, afill, splice, Value.oneCell', Nat.reduceLT, Nat.reduceLeDiff, Nat.reduceEqDiff, Nat.reduceAdd, Nat.reduceMul, Nat.reduceSub, Nat.reduceBEq, Int.reduceLE, Int.reduceLT, Int.reduceToNat, Int.reduceNeg, Int.reduceEq, axt, ftK, ft3, pickP, AScope, AAll, pickQ, ftQ, inHeap, tys]
    refine AStepX.len rfl rfl rfl rfl sl24 rfl ?_
    have d0 : (0 : Int) ≤ ((i + (l.length - (i + 1)) : Nat) : Int) := by omega
    have d1 : ((i + (l.length - (i + 1)) : Nat) : Int) ≤ l.length := by omega
    have d2 : ¬ i + (l.length - (i + 1)) = c := by omega
    simp (maxSteps := 400000) (dsimp := false) only [d0, d1, b4, eq_false d2, axs, AThen, ABlock, dstsOk, AStep, callsF, AWant, aop, AS.ev, AS.put, upd, AS.bound, abin, aint, aload, astore, cellsAt, AV.cells, alen, elems, AV.int?, FPost, aresL, ares1, pack, afill, splice, Value.oneCell', Nat.reduceLT, Nat.reduceLeDiff, Nat.reduceEqDiff, Nat.reduceAdd, Nat.reduceMul, Nat.reduceSub, Nat.reduceBEq, Int.reduceLE, Int.reduceLT, Int.reduceToNat, Int.reduceNeg, Int.reduceEq, axt, ftK, ft3, pickP, AScope, AAll, pickQ, ftQ, inHeap, tys]
    refine AStepX.clear rfl rfl rfl rfl sl24 ty58 rfl (by decide) rfl rfl rfl (.inr ⟨_, rfl⟩) (upd_same _ _ _) (by simp [over, IT_len]; omega) ?_
    simp (maxSteps := 400000) (dsimp := false) only [upd_upd, axs, AThen, ABlock, dstsOk, AStep, callsF, AWant, aop, AS.ev, AS.put, upd, AS.bound, abin, aint, aload, astore, cellsAt, AV.cells, alen, elems, AV.int?, FPost, aresL, ares1, pack, afill, splice, Value.oneCell', Nat.reduceLT, Nat.reduceLeDiff, Nat.reduceEqDiff, Nat.reduceAdd, Nat.reduceMul, Nat.reduceSub, Nat.reduceBEq, Int.reduceLE, Int.reduceLT, Int.reduceToNat, Int.reduceNeg, Int.reduceEq, axt, ftK, ft3, pickP, AScope, AAll, pickQ, ftQ, inHeap, tys]
    refine ⟨_, rfl, _, _, _, _, _, rfl, _, by rw [eraseIdx_len h]; congr 1; omega, congrArg (fun e => AO.obj 58 2 e false) (over_mid l h _), fun j hj => ?_⟩
    rw [if_neg hj]
theorem cDelAtX (l : List (Int × Int)) (i : Nat) (h : i < l.length) (hl : l.length ≤ 1000000) {id : Nat} {H : AH} {n : Nat} (hid : H id = some (.obj 58 2 (IT l) false)) (hlt : id < n) :
    HCalls Try.prog 73 [.sl id 2 0 l.length, .sc (.int .i64 i), .sc (.int .i64 ((i + 1 : Nat) : Int))] H n
      fun v H' n' => Live 58 2 H' (IT (l.eraseIdx i)) v ∧ (∀ i z o m, v = .sl i z o m → i = id) ∧ n' = n ∧ ∀ j, j ≠ id → H' j = H j := by
  refine ((cDelAt l i h hl hid hlt).shrink ?_)
  rintro r H' n' ⟨es, rfl, h2, h3, h4⟩
  exact .inr ⟨id, _, _, _, (IT (l.eraseIdx i)).length, h2, Live.mk ((upd_same _ _ _).trans (by rw [List.take_left])) (by rw [IT_len]), (fun i z o m e => by cases e; rfl), h3, fun j hj => (upd_ne _ _ hj).trans (h4 j hj)⟩
end Go.Al
