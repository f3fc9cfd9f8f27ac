/- Low inter-reference recency: the reference cuts, sets, prunes. Conditions: the rows are short. -/
import Derived.Test.YthglbfgmohgfdaaKr1
set_option linter.unusedVariables false
set_option linter.unusedSimpArgs false
set_option maxRecDepth 20000
set_option maxHeartbeats 3200000
-- axs, AThen, ABlock, dstsOk, AStep, callsF, AWant, aop, AS.ev, AS.put, upd, AS.bound, abin, aint, aload, astore, cellsAt, AV.cells, alen, elems, AV.int?, FPost, aresL, ares1, pack, afill, splice, Value.oneCell', Nat.reduceLT, Nat.reduceLeDiff, Nat.reduceEqDiff, Nat.reduceAdd, Nat.reduceMul, Nat.reduceSub, Nat.reduceBEq, Int.reduceLE, Int.reduceLT, Int.reduceToNat, Int.reduceNeg, Int.reduceEq, axt, ftK, ft3, pickP, AScope, AAll, pickQ, ftQ, inHeap, SL, tys: SL
-- NOIDS: noIdsE_IT
-- LENS: IT_len
namespace Go.Al
open Go.Proofs
theorem rCut (l : List (Int × Int)) (i : Nat) (h : i < l.length) (hl : l.length ≤ 1000000) : PCalls Try.prog 58 [.lst 2 (IT l), .sc (.int .i64 i)] (.lst 2 (IT (l.eraseIdx i))) := by
  have e : l.eraseIdx i = l.take i ++ l.drop (i + 1) := List.eraseIdx_eq_take_drop_succ _ _
  rw [e]
  have i0 : (0 : Int) ≤ i := by omega
  have i1 : (i : Int) ≤ l.length := by omega
  have i2 : (0 : Int) ≤ ((i + 1 : Nat) : Int) := by omega
  have i3 : ((i + 1 : Nat) : Int) ≤ l.length := by omega
  have w1 : IntKind.i64.wrap ((i : Int) + 1) = ((i + 1 : Nat) : Int) := by rw [wrap_in (by omega) (by omega)]; rfl
  have hd : List.take (l.length - (i + 1)) (List.drop (i + 1) l) = List.drop (i + 1) l := List.take_of_length_le (by rw [List.length_drop]; omega)
  have h1 : (List.take i l).length ≤ 1000000 := by rw [List.length_take]; omega
  have h2 : (List.drop (i + 1) l).length ≤ 1000000 := by rw [List.length_drop]; omega
  generalize hA : List.take i l = A at *
  generalize hB : List.drop (i + 1) l = B at *
  have b1 : A.length * 16 ≤ 140737488355328 := by omega
  have b2 : A.length ≤ 1099511627776 := by omega
  have b3 : (A.length + B.length) * 16 ≤ 140737488355328 := by omega
  have b4 : A.length + B.length ≤ 1099511627776 := by omega
  refine PCalls.intro2 Try.func58 rfl rfl Try.ntmps58 Try.results58 (by simp) fun n => ?_; simp (maxSteps := 400000) (dsimp := false) only [i0, i1, i2, i3, w1, IT_len, IT_take, IT_drop, hA, hB, hd, b1, b2, b3, b4, axs, AThen, ABlock, dstsOk, AStep, callsF, AWant, aop, AS.ev, AS.put, upd, AS.bound, abin, aint, aload, astore, cellsAt, AV.cells, alen, elems, AV.int?, FPost, aresL, ares1, pack, afill, splice, Value.oneCell', Nat.reduceLT, Nat.reduceLeDiff, Nat.reduceEqDiff, Nat.reduceAdd, Nat.reduceMul, Nat.reduceSub, Nat.reduceBEq, Int.reduceLE, Int.reduceLT, Int.reduceToNat, Int.reduceNeg, Int.reduceEq, axt, ftK, ft3, pickP, AScope, AAll, pickQ, ftQ, inHeap, SL, tys]
  rw [← IT_append]
  exact ⟨_, rfl, (Live.mk (upd_same _ _ _) (by simp [IT_len]) : Live 66 2 _ (IT (A ++ B)) _).sees (noIdsE_IT _)⟩
theorem rSet (l : List (Int × Int)) (i : Nat) (kd : Int) (h : i < l.length) (hl : l.length ≤ 1000000) : PCalls Try.prog 75 [.lst 2 (IT l), .sc (.int .i64 i), .sc (.int .i64 kd)] (.lst 2 (IT (setKd l i kd))) := by
  obtain ⟨x, hx⟩ : ∃ x, l[i]? = some x := ⟨_, List.getElem?_eq_getElem h⟩
  have e : setKd l i kd = l.set i (x.1, kd) := by
    unfold setKd
    rw [List.getD_eq_getElem?_getD, hx]; rfl
  rw [e]
  have i0 : (0 : Int) ≤ (i : Int) := by omega
  have i1 : (i : Int) < l.length := by omega
  have hg := IT_get hx
  have b1 : l.length * 16 ≤ 140737488355328 := by omega
  have b2 : l.length ≤ 1099511627776 := by omega
  refine PCalls.intro2 Try.func75 rfl rfl Try.ntmps75 Try.results75 (by simp) fun n => ?_; simp (maxSteps := 400000) (dsimp := false) only [i0, i1, IT_len, hg, b1, b2, axs, AThen, ABlock, dstsOk, AStep, callsF, AWant, aop, AS.ev, AS.put, upd, AS.bound, abin, aint, aload, astore, cellsAt, AV.cells, alen, elems, AV.int?, FPost, aresL, ares1, pack, afill, splice, Value.oneCell', Nat.reduceLT, Nat.reduceLeDiff, Nat.reduceEqDiff, Nat.reduceAdd, Nat.reduceMul, Nat.reduceSub, Nat.reduceBEq, Int.reduceLE, Int.reduceLT, Int.reduceToNat, Int.reduceNeg, Int.reduceEq, axt, ftK, ft3, pickP, AScope, AAll, pickQ, ftQ, inHeap, SL, tys]
  rw [IT_set]
  exact ⟨_, rfl, (Live.mk (upd_same _ _ _) (by simp [IT_len]) : Live 66 2 _ (IT (l.set i (x.1, kd))) _).sees (noIdsE_IT _)⟩
theorem pruned_nil : pruned [] = [] := rfl
theorem pruned_last {A : List (Int × Int)} {x : Int × Int} (h : x.2 = 2) : pruned (A ++ [x]) = A ++ [x] := by
  unfold pruned
  rw [upTo_snoc, if_pos h, List.take_of_length_le (by simp)]
theorem pruned_drop {A : List (Int × Int)} {x : Int × Int} (h : x.2 ≠ 2) : pruned (A ++ [x]) = pruned A := by
  unfold pruned
  rw [upTo_snoc, if_neg h, List.take_append_of_le_length (upTo_le A)]
theorem rPrune (s : LS) (hl : s.S.length ≤ 1000000) : PCalls Try.prog 51 [SL s] (SL (pruneL s)) := by
  obtain ⟨C, S, Q⟩ := s
  simp only at hl
  show PCalls _ _ _ (SL ⟨C, pruned S, Q⟩)
  refine PCalls.intro2 Try.func51 rfl rfl Try.ntmps51 Try.results51 (by simp) fun n => ?_; simp (maxSteps := 400000) (dsimp := false) only [axs, AThen, ABlock, dstsOk, AStep, callsF, AWant, aop, AS.ev, AS.put, upd, AS.bound, abin, aint, aload, astore, cellsAt, AV.cells, alen, elems, AV.int?, FPost, aresL, ares1, pack, afill, splice, Value.oneCell', Nat.reduceLT, Nat.reduceLeDiff, Nat.reduceEqDiff, Nat.reduceAdd, Nat.reduceMul, Nat.reduceSub, Nat.reduceBEq, Int.reduceLE, Int.reduceLT, Int.reduceToNat, Int.reduceNeg, Int.reduceEq, axt, ftK, ft3, pickP, AScope, AAll, pickQ, ftQ, inHeap, SL, tys]
  refine ALoop.falls (fun x : List (Int × Int) => x.length) (fun x t => t.t 1 = .ptr n 3 0 0 ∧ t.t 2 = .ptr (n + 1) 3 0 0 ∧ t.H n = some (.obj 31 3 [[.sc (.int .i64 C), .lst 2 (IT x), .lst 1 (U Q)]] false) ∧ t.H (n + 1) = some (.obj 31 3 [[.sc (.int .i64 0), .sc (.slice none 0 0), .sc (.slice none 0 0)]] false) ∧ pruned x = pruned S ∧ x.length ≤ 1000000) S ⟨rfl, rfl, (upd_ne _ _ (by omega)).trans (upd_same _ _ _), upd_same _ _ _, rfl, hl⟩ ?_
  rintro x t hb ⟨h1, h2, hH, hH1, hx, hxl⟩
  have hne : ¬ n = n + 1 ∧ ¬ n + 1 = n := by omega
  rcases List.eq_nil_or_concat x with rfl | ⟨A, y, hy⟩
  · rw [pruned_nil] at hx
    rw [← hx]
    have hl0 : ((IT []).length : Int) = 0 := rfl
    have hn : IT [] = [] := rfl
    rw [hn] at hH
    have hz : ¬ (0 : Int) > 0 := by omega
    simp (maxSteps := 400000) (dsimp := false) only [h1, h2, hH, hH1, hne, hz, axs, AThen, ABlock, dstsOk, AStep, callsF, AWant, aop, AS.ev, AS.put, upd, AS.bound, abin, aint, aload, astore, cellsAt, AV.cells, alen, elems, AV.int?, FPost, aresL, ares1, pack, afill, splice, Value.oneCell', Nat.reduceLT, Nat.reduceLeDiff, Nat.reduceEqDiff, Nat.reduceAdd, Nat.reduceMul, Nat.reduceSub, Nat.reduceBEq, Int.reduceLE, Int.reduceLT, Int.reduceToNat, Int.reduceNeg, Int.reduceEq, axt, ftK, ft3, pickP, AScope, AAll, pickQ, ftQ, inHeap, SL, tys]
    exact ⟨_, rfl, Sees.agg (by simp only [SeesL]; exact ⟨Sees.sc, Sees.same rfl, Sees.same (by simp [noIds, noIdsE_U]), trivial⟩)⟩
  · have hy : x = A ++ [y] := by rw [hy]; simp
    subst hy
    rw [List.length_append, List.length_singleton] at hxl
    have hla : (A ++ [y]).length = A.length + 1 := by simp
    have g0 : ((A.length + 1 : Nat) : Int) > 0 := by omega
    have w1 : IntKind.i64.wrap (((A.length + 1 : Nat) : Int) - 1) = (A.length : Int) := by rw [IntWalk.i64_in _ ⟨by omega, by omega⟩]; omega
    have g1 : (0 : Int) ≤ (A.length : Int) := by omega
    have g2 : (A.length : Int) < ((A.length + 1 : Nat) : Int) := by omega
    have g3 : (A.length : Int) ≤ ((A.length + 1 : Nat) : Int) := by omega
    have hg : (IT (A ++ [y]))[A.length]? = some [.sc (.int .u64 y.1), .sc (.int .i64 y.2)] := IT_get (by simp)
    have hL : (IT (A ++ [y])).length = A.length + 1 := by rw [IT_len, hla]
    have hT : List.take A.length (IT (A ++ [y])) = IT A := by rw [IT_take, List.take_left]
    generalize hI : IT (A ++ [y]) = I at *
    by_cases hk : y.2 = 2
    · rw [pruned_last hk] at hx
      rw [← hx]
      simp (maxSteps := 400000) (dsimp := false) only [h1, h2, hH, hH1, hne, hL, g0, w1, g1, g2, hg, hk, axs, AThen, ABlock, dstsOk, AStep, callsF, AWant, aop, AS.ev, AS.put, upd, AS.bound, abin, aint, aload, astore, cellsAt, AV.cells, alen, elems, AV.int?, FPost, aresL, ares1, pack, afill, splice, Value.oneCell', Nat.reduceLT, Nat.reduceLeDiff, Nat.reduceEqDiff, Nat.reduceAdd, Nat.reduceMul, Nat.reduceSub, Nat.reduceBEq, Int.reduceLE, Int.reduceLT, Int.reduceToNat, Int.reduceNeg, Int.reduceEq, axt, ftK, ft3, pickP, AScope, AAll, pickQ, ftQ, inHeap, SL, tys]
      subst hI
      exact ⟨_, rfl, Sees.agg (by simp only [SeesL]; exact ⟨Sees.sc, Sees.same (by simp [noIds, noIdsE_IT]), Sees.same (by simp [noIds, noIdsE_U]), trivial⟩)⟩
    · rw [pruned_drop hk] at hx
      simp (maxSteps := 400000) (dsimp := false) only [h1, h2, hH, hH1, hne, hL, g0, w1, g1, g2, g3, hg, hk, hT, axs, AThen, ABlock, dstsOk, AStep, callsF, AWant, aop, AS.ev, AS.put, upd, AS.bound, abin, aint, aload, astore, cellsAt, AV.cells, alen, elems, AV.int?, FPost, aresL, ares1, pack, afill, splice, Value.oneCell', Nat.reduceLT, Nat.reduceLeDiff, Nat.reduceEqDiff, Nat.reduceAdd, Nat.reduceMul, Nat.reduceSub, Nat.reduceBEq, Int.reduceLE, Int.reduceLT, Int.reduceToNat, Int.reduceNeg, Int.reduceEq, axt, ftK, ft3, pickP, AScope, AAll, pickQ, ftQ, inHeap, SL, tys]
      exact ⟨A, by rw [hla]; omega, rfl, hx, by omega⟩
end Go.Al
