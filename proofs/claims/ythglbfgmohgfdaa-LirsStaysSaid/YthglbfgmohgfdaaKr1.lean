/- Low inter-reference recency: the reference's small functions. Conditions: the rows are short. -/
import Derived.Test.YthglbfgmohgfdaaKp3
set_option linter.unusedVariables false
set_option linter.unusedSimpArgs false
set_option maxRecDepth 20000
set_option maxHeartbeats 3200000
-- axs, AThen, ABlock, dstsOk, AStep, callsF, AWant, aop, AS.ev, AS.put, upd, AS.bound, abin, aint, aload, astore, cellsAt, AV.cells, alen, elems, AV.int?, FPost, aresL, ares1, pack, afill, splice, Value.oneCell', Nat.reduceLT, Nat.reduceLeDiff, Nat.reduceEqDiff, Nat.reduceAdd, Nat.reduceMul, Nat.reduceSub, Nat.reduceBEq, Int.reduceLE, Int.reduceLT, Int.reduceToNat, Int.reduceNeg, Int.reduceEq, axt, ftK, ft3, pickP, AScope, AAll, pickQ, ftQ, inHeap, SL, tys: SL
-- NOIDS: noIdsE_IT
-- LENS: IT_len
namespace Go.Al
open Go.Proofs
theorem upTo_snoc (kd : Int) (A : List (Int × Int)) (x : Int × Int) : upTo kd (A ++ [x]) = if x.2 = kd then A.length + 1 else upTo kd A := by
  by_cases h : x.2 = kd
  · rw [if_pos h, upTo_at (B := []) h (by intro y hy; cases hy)]
  · rw [if_neg h]
    rcases upTo_spec (k := kd) A with ⟨h1, h2⟩ | ⟨B, y, D, h1, h2, h3, h4⟩
    · rw [h1, upTo_none]
      intro y hy
      rcases List.mem_append.1 hy with hy | hy
      · exact h2 y hy
      · rw [List.mem_singleton.1 hy]; exact h
    · rw [h2, h1, List.append_assoc, List.cons_append, upTo_at h3]
      intro z hz
      rcases List.mem_append.1 hz with hz | hz
      · exact h4 z hz
      · rw [List.mem_singleton.1 hz]; exact h
theorem rLNew (c : Int) : PCalls Try.prog 11 [.sc (.int .i64 c)] (SL ⟨capOf c, [], []⟩) := by
  refine PCalls.intro2 Try.func11 rfl rfl Try.ntmps11 Try.results11 (by simp) fun n => ?_; simp (maxSteps := 400000) (dsimp := false) only [axs, AThen, ABlock, dstsOk, AStep, callsF, AWant, aop, AS.ev, AS.put, upd, AS.bound, abin, aint, aload, astore, cellsAt, AV.cells, alen, elems, AV.int?, FPost, aresL, ares1, pack, afill, splice, Value.oneCell', Nat.reduceLT, Nat.reduceLeDiff, Nat.reduceEqDiff, Nat.reduceAdd, Nat.reduceMul, Nat.reduceSub, Nat.reduceBEq, Int.reduceLE, Int.reduceLT, Int.reduceToNat, Int.reduceNeg, Int.reduceEq, axt, ftK, ft3, pickP, AScope, AAll, pickQ, ftQ, inHeap, SL, tys]
  refine ACallK.strict rfl (rCap c) (by simp only [SeesL, axs, axt, AS.ev, AS.put, upd, inHeap, Nat.reduceLT, Nat.reduceEqDiff, Nat.reduceAdd, Nat.reduceBEq, SL]; repeat' (first | exact True.intro | exact Sees.sc | exact Sees.none | ((with_reducible refine Sees.same ?_) <;> simp [noIds, noIdsL, noIdsE, noIdsE_U, noIdsE_UU, noIdsE_IT] <;> fail) | (refine Live.sees ?_ ?_ <;> first | assumption | (simp [noIdsE_U, noIdsE_UU, noIdsE_IT] <;> fail)) | (refine Sees.obj ?_ ?_ ?_ <;> first | exact ⟨_, _, by assumption, rfl⟩ | (simp [U_len, UU_len, IT_len] <;> fail) | (simp [noIdsE_U, noIdsE_UU, noIdsE_IT] <;> fail) | (simp [U, UU, upd] <;> fail) | (simp [U, UU, upd, neS, *] <;> fail)) | (refine Sees.of_seen 3 ?_ <;> simp [seen, upd, noIdsE, noIdsL, noIds, U, UU, Nat.add_assoc] <;> fail) | refine Sees.agg ?_ | refine And.intro ?_ ?_ | simp only [SeesL])) ?_; simp (maxSteps := 400000) (dsimp := false) only [axs, AThen, ABlock, dstsOk, AStep, callsF, AWant, aop, AS.ev, AS.put, upd, AS.bound, abin, aint, aload, astore, cellsAt, AV.cells, alen, elems, AV.int?, FPost, aresL, ares1, pack, afill, splice, Value.oneCell', Nat.reduceLT, Nat.reduceLeDiff, Nat.reduceEqDiff, Nat.reduceAdd, Nat.reduceMul, Nat.reduceSub, Nat.reduceBEq, Int.reduceLE, Int.reduceLT, Int.reduceToNat, Int.reduceNeg, Int.reduceEq, axt, ftK, ft3, pickP, AScope, AAll, pickQ, ftQ, inHeap, SL, tys]
  refine ⟨_, rfl, ?_⟩; simp (maxSteps := 400000) (dsimp := false) only [SeesL, axs, AThen, ABlock, dstsOk, AStep, callsF, AWant, aop, AS.ev, AS.put, upd, AS.bound, abin, aint, aload, astore, cellsAt, AV.cells, alen, elems, AV.int?, FPost, aresL, ares1, pack, afill, splice, Value.oneCell', Nat.reduceLT, Nat.reduceLeDiff, Nat.reduceEqDiff, Nat.reduceAdd, Nat.reduceMul, Nat.reduceSub, Nat.reduceBEq, Int.reduceLE, Int.reduceLT, Int.reduceToNat, Int.reduceNeg, Int.reduceEq, axt, ftK, ft3, pickP, AScope, AAll, pickQ, ftQ, inHeap, SL, tys] <;> repeat' (first | exact True.intro | exact Sees.sc | exact Sees.none | ((with_reducible refine Sees.same ?_) <;> simp [noIds, noIdsL, noIdsE, noIdsE_U, noIdsE_UU, noIdsE_IT] <;> fail) | (refine Live.sees ?_ ?_ <;> first | assumption | (simp [noIdsE_U, noIdsE_UU, noIdsE_IT] <;> fail)) | (refine Sees.obj ?_ ?_ ?_ <;> first | exact ⟨_, _, by assumption, rfl⟩ | (simp [U_len, UU_len, IT_len] <;> fail) | (simp [noIdsE_U, noIdsE_UU, noIdsE_IT] <;> fail) | (simp [U, UU, upd, neS] <;> fail) | (simp [U, UU, upd, neS, *] <;> fail)) | refine Sees.agg ?_ | refine Sees.tup ?_ | refine And.intro ?_ ?_ | simp only [SeesL])
theorem rMany (S : List (Int × Int)) (kd : Int) (hl : S.length ≤ 1000000) : PCalls Try.prog 38 [.lst 2 (IT S), .sc (.int .i64 kd)] (.sc (.int .i64 (many kd S))) := by
  refine PCalls.intro2 Try.func38 rfl rfl Try.ntmps38 Try.results38 (by simp) fun n => ?_; simp (maxSteps := 400000) (dsimp := false) only [axs, AThen, ABlock, dstsOk, AStep, callsF, AWant, aop, AS.ev, AS.put, upd, AS.bound, abin, aint, aload, astore, cellsAt, AV.cells, alen, elems, AV.int?, FPost, aresL, ares1, pack, afill, splice, Value.oneCell', Nat.reduceLT, Nat.reduceLeDiff, Nat.reduceEqDiff, Nat.reduceAdd, Nat.reduceMul, Nat.reduceSub, Nat.reduceBEq, Int.reduceLE, Int.reduceLT, Int.reduceToNat, Int.reduceNeg, Int.reduceEq, axt, ftK, ft3, pickP, AScope, AAll, pickQ, ftQ, inHeap, SL, tys]
  refine ALoop.upto S.length (fun p s => s.t 0 = .lst 2 (IT S) ∧ s.t 1 = .sc (.int .i64 kd) ∧ s.t 5 = .sc (.int .i64 (many kd (S.take p))) ∧ s.t 6 = .sc (.int .i64 p)) ⟨rfl, rfl, rfl, rfl⟩ ?_
  rintro p s hp hb ⟨h0, h1, h5, h6⟩
  rcases Nat.lt_or_ge p S.length with hlt | hge
  · obtain ⟨x, hx, hp0, hpl, hw, hT, hD⟩ := idx hlt (by omega)
    have hg := IT_get hx
    have hm := many_le kd (S.take p)
    rw [List.length_take] at hm
    have hms : many kd (S.take (p + 1)) = many kd (S.take p) + (if x.2 = kd then 1 else 0) := by
      rw [hT, many_append, many_cons]
      rfl
    rw [hms]
    generalize many kd (S.take p) = q at *
    have hw2 : IntKind.i64.wrap ((q : Int) + 1) = ((q + 1 : Nat) : Int) := by rw [wrap_in (by omega) (by omega)]; rfl
    by_cases hk : x.2 = kd
    · rw [if_pos hk]
      simp (maxSteps := 400000) (dsimp := false) only [h0, h1, h5, h6, hp0, hpl, hg, IT_len, hk, hw, hw2, axs, AThen, ABlock, dstsOk, AStep, callsF, AWant, aop, AS.ev, AS.put, upd, AS.bound, abin, aint, aload, astore, cellsAt, AV.cells, alen, elems, AV.int?, FPost, aresL, ares1, pack, afill, splice, Value.oneCell', Nat.reduceLT, Nat.reduceLeDiff, Nat.reduceEqDiff, Nat.reduceAdd, Nat.reduceMul, Nat.reduceSub, Nat.reduceBEq, Int.reduceLE, Int.reduceLT, Int.reduceToNat, Int.reduceNeg, Int.reduceEq, axt, ftK, ft3, pickP, AScope, AAll, pickQ, ftQ, inHeap, SL, tys]
      exact hlt
    · rw [if_neg hk]
      simp (maxSteps := 400000) (dsimp := false) only [h0, h1, h5, h6, hp0, hpl, hg, IT_len, hk, hw, hw2, axs, AThen, ABlock, dstsOk, AStep, callsF, AWant, aop, AS.ev, AS.put, upd, AS.bound, abin, aint, aload, astore, cellsAt, AV.cells, alen, elems, AV.int?, FPost, aresL, ares1, pack, afill, splice, Value.oneCell', Nat.reduceLT, Nat.reduceLeDiff, Nat.reduceEqDiff, Nat.reduceAdd, Nat.reduceMul, Nat.reduceSub, Nat.reduceBEq, Int.reduceLE, Int.reduceLT, Int.reduceToNat, Int.reduceNeg, Int.reduceEq, axt, ftK, ft3, pickP, AScope, AAll, pickQ, ftQ, inHeap, SL, tys]
      exact hlt
  · have hpl : ¬ (p : Int) < S.length := by omega
    rw [List.take_of_length_le hge] at h5
    simp (maxSteps := 400000) (dsimp := false) only [h0, h1, h5, h6, hpl, IT_len, axs, AThen, ABlock, dstsOk, AStep, callsF, AWant, aop, AS.ev, AS.put, upd, AS.bound, abin, aint, aload, astore, cellsAt, AV.cells, alen, elems, AV.int?, FPost, aresL, ares1, pack, afill, splice, Value.oneCell', Nat.reduceLT, Nat.reduceLeDiff, Nat.reduceEqDiff, Nat.reduceAdd, Nat.reduceMul, Nat.reduceSub, Nat.reduceBEq, Int.reduceLE, Int.reduceLT, Int.reduceToNat, Int.reduceNeg, Int.reduceEq, axt, ftK, ft3, pickP, AScope, AAll, pickQ, ftQ, inHeap, SL, tys]
    exact ⟨_, rfl, Sees.sc⟩
theorem rRoom (C : Int) (c0 : 1 ≤ C) (c1 : C ≤ 1048576) : PCalls Try.prog 26 [.sc (.int .i64 C)] (.sc (.int .i64 (roomOf C))) := by
  have ht : 0 ≤ C.tdiv 100 ∧ C.tdiv 100 ≤ C := ⟨Int.tdiv_nonneg (by omega) (by omega), Int.tdiv_le_self _ (by omega)⟩
  have hd : C.tdiv 100 = C / 100 := Int.tdiv_eq_ediv_of_nonneg (by omega)
  have w0 : IntKind.i64.wrap (C - 1) = C - 1 := IntWalk.i64_in _ ⟨by omega, by omega⟩
  have w1 : IntKind.i64.wrap (C.tdiv 100) = C.tdiv 100 := wrap_in ht.1 (by omega)
  have w2 : IntKind.i64.wrap (C - C.tdiv 100) = C - C.tdiv 100 := IntWalk.i64_in _ ⟨by omega, by omega⟩
  by_cases h : C < 200
  · have hR : roomOf C = C - 1 := by
      unfold roomOf
      split <;> omega
    rw [hR]
    refine PCalls.intro2 Try.func26 rfl rfl Try.ntmps26 Try.results26 (by simp) fun n => ?_; simp (maxSteps := 400000) (dsimp := false) only [h, w0, axs, AThen, ABlock, dstsOk, AStep, callsF, AWant, aop, AS.ev, AS.put, upd, AS.bound, abin, aint, aload, astore, cellsAt, AV.cells, alen, elems, AV.int?, FPost, aresL, ares1, pack, afill, splice, Value.oneCell', Nat.reduceLT, Nat.reduceLeDiff, Nat.reduceEqDiff, Nat.reduceAdd, Nat.reduceMul, Nat.reduceSub, Nat.reduceBEq, Int.reduceLE, Int.reduceLT, Int.reduceToNat, Int.reduceNeg, Int.reduceEq, axt, ftK, ft3, pickP, AScope, AAll, pickQ, ftQ, inHeap, SL, tys]
    exact ⟨_, rfl, Sees.sc⟩
  · have hR : roomOf C = C - C.tdiv 100 := by
      unfold roomOf
      rw [if_neg (by omega)]
    rw [hR]
    refine PCalls.intro2 Try.func26 rfl rfl Try.ntmps26 Try.results26 (by simp) fun n => ?_; simp (maxSteps := 400000) (dsimp := false) only [h, w1, w2, axs, AThen, ABlock, dstsOk, AStep, callsF, AWant, aop, AS.ev, AS.put, upd, AS.bound, abin, aint, aload, astore, cellsAt, AV.cells, alen, elems, AV.int?, FPost, aresL, ares1, pack, afill, splice, Value.oneCell', Nat.reduceLT, Nat.reduceLeDiff, Nat.reduceEqDiff, Nat.reduceAdd, Nat.reduceMul, Nat.reduceSub, Nat.reduceBEq, Int.reduceLE, Int.reduceLT, Int.reduceToNat, Int.reduceNeg, Int.reduceEq, axt, ftK, ft3, pickP, AScope, AAll, pickQ, ftQ, inHeap, SL, tys]
    exact ⟨_, rfl, Sees.sc⟩
theorem rPlace (S : List (Int × Int)) (k : Int) (hl : S.length ≤ 1000000) : PCalls Try.prog 50 [.lst 2 (IT S), .sc (.int .u64 k)] (.sc (.int .i64 (idxK S k))) := by
  refine PCalls.intro2 Try.func50 rfl rfl Try.ntmps50 Try.results50 (by simp) fun n => ?_; simp (maxSteps := 400000) (dsimp := false) only [axs, AThen, ABlock, dstsOk, AStep, callsF, AWant, aop, AS.ev, AS.put, upd, AS.bound, abin, aint, aload, astore, cellsAt, AV.cells, alen, elems, AV.int?, FPost, aresL, ares1, pack, afill, splice, Value.oneCell', Nat.reduceLT, Nat.reduceLeDiff, Nat.reduceEqDiff, Nat.reduceAdd, Nat.reduceMul, Nat.reduceSub, Nat.reduceBEq, Int.reduceLE, Int.reduceLT, Int.reduceToNat, Int.reduceNeg, Int.reduceEq, axt, ftK, ft3, pickP, AScope, AAll, pickQ, ftQ, inHeap, SL, tys]
  refine ALoop.upto S.length (fun p s => s.t 0 = .lst 2 (IT S) ∧ s.t 1 = .sc (.int .u64 k) ∧ s.t 5 = .sc (.int .i64 p) ∧ ∀ (q : Nat) (y : Int × Int), q < p → S[q]? = some y → decide (y.1 = k) = false) ⟨rfl, rfl, rfl, fun q y h => (nomatch h)⟩ ?_
  rintro p s hp hb ⟨h0, h1, h5, hno⟩
  rcases Nat.lt_or_ge p S.length with hlt | hge
  · obtain ⟨x, hx, hp0, hpl, hw, hT, hD⟩ := idx hlt (by omega)
    have hg := IT_get hx
    by_cases hk : x.1 = k
    · have hi : idxK S k = p := idxT_hit hx (decide_eq_true hk) hno
      rw [hi]
      simp (maxSteps := 400000) (dsimp := false) only [h0, h1, h5, hp0, hpl, hg, IT_len, hk, hw, axs, AThen, ABlock, dstsOk, AStep, callsF, AWant, aop, AS.ev, AS.put, upd, AS.bound, abin, aint, aload, astore, cellsAt, AV.cells, alen, elems, AV.int?, FPost, aresL, ares1, pack, afill, splice, Value.oneCell', Nat.reduceLT, Nat.reduceLeDiff, Nat.reduceEqDiff, Nat.reduceAdd, Nat.reduceMul, Nat.reduceSub, Nat.reduceBEq, Int.reduceLE, Int.reduceLT, Int.reduceToNat, Int.reduceNeg, Int.reduceEq, axt, ftK, ft3, pickP, AScope, AAll, pickQ, ftQ, inHeap, SL, tys]
      exact ⟨_, rfl, Sees.sc⟩
    · simp (maxSteps := 400000) (dsimp := false) only [h0, h1, h5, hp0, hpl, hg, IT_len, hk, hw, axs, AThen, ABlock, dstsOk, AStep, callsF, AWant, aop, AS.ev, AS.put, upd, AS.bound, abin, aint, aload, astore, cellsAt, AV.cells, alen, elems, AV.int?, FPost, aresL, ares1, pack, afill, splice, Value.oneCell', Nat.reduceLT, Nat.reduceLeDiff, Nat.reduceEqDiff, Nat.reduceAdd, Nat.reduceMul, Nat.reduceSub, Nat.reduceBEq, Int.reduceLE, Int.reduceLT, Int.reduceToNat, Int.reduceNeg, Int.reduceEq, axt, ftK, ft3, pickP, AScope, AAll, pickQ, ftQ, inHeap, SL, tys]
      refine ⟨hlt, fun q y hq hy => ?_⟩
      rcases Nat.lt_or_ge q p with h | h
      · exact hno q y h hy
      · obtain rfl : q = p := by omega
        rw [hx] at hy
        cases hy
        exact decide_eq_false hk
  · have hpl : ¬ (p : Int) < S.length := by omega
    have hi : idxK S k = -1 := idxT_miss (fun q y hq hy => hno q y (by omega) hy)
    rw [hi]
    simp (maxSteps := 400000) (dsimp := false) only [h0, h1, h5, hpl, IT_len, axs, AThen, ABlock, dstsOk, AStep, callsF, AWant, aop, AS.ev, AS.put, upd, AS.bound, abin, aint, aload, astore, cellsAt, AV.cells, alen, elems, AV.int?, FPost, aresL, ares1, pack, afill, splice, Value.oneCell', Nat.reduceLT, Nat.reduceLeDiff, Nat.reduceEqDiff, Nat.reduceAdd, Nat.reduceMul, Nat.reduceSub, Nat.reduceBEq, Int.reduceLE, Int.reduceLT, Int.reduceToNat, Int.reduceNeg, Int.reduceEq, axt, ftK, ft3, pickP, AScope, AAll, pickQ, ftQ, inHeap, SL, tys]
    exact ⟨_, rfl, Sees.sc⟩
theorem rLowest (S : List (Int × Int)) (kd : Int) (hl : S.length ≤ 1000000) : PCalls Try.prog 74 [.lst 2 (IT S), .sc (.int .i64 kd)] (.sc (.int .i64 ((upTo kd S : Int) - 1))) := by
  refine PCalls.intro2 Try.func74 rfl rfl Try.ntmps74 Try.results74 (by simp) fun n => ?_; simp (maxSteps := 400000) (dsimp := false) only [axs, AThen, ABlock, dstsOk, AStep, callsF, AWant, aop, AS.ev, AS.put, upd, AS.bound, abin, aint, aload, astore, cellsAt, AV.cells, alen, elems, AV.int?, FPost, aresL, ares1, pack, afill, splice, Value.oneCell', Nat.reduceLT, Nat.reduceLeDiff, Nat.reduceEqDiff, Nat.reduceAdd, Nat.reduceMul, Nat.reduceSub, Nat.reduceBEq, Int.reduceLE, Int.reduceLT, Int.reduceToNat, Int.reduceNeg, Int.reduceEq, axt, ftK, ft3, pickP, AScope, AAll, pickQ, ftQ, inHeap, SL, tys]
  refine ALoop.upto S.length (fun p s => s.t 0 = .lst 2 (IT S) ∧ s.t 1 = .sc (.int .i64 kd) ∧ s.t 5 = .sc (.int .i64 ((upTo kd (S.take p) : Int) - 1)) ∧ s.t 6 = .sc (.int .i64 p)) ⟨rfl, rfl, rfl, rfl⟩ ?_
  rintro p s hp hb ⟨h0, h1, h5, h6⟩
  rcases Nat.lt_or_ge p S.length with hlt | hge
  · obtain ⟨x, hx, hp0, hpl, hw, hT, hD⟩ := idx hlt (by omega)
    have hg := IT_get hx
    have hlp : (S.take p).length = p := by rw [List.length_take]; omega
    rw [hT, upTo_snoc, hlp]
    by_cases hk : x.2 = kd
    · rw [if_pos hk]
      have hp1 : (((p + 1 : Nat) : Int)) - 1 = p := by omega
      rw [hp1]
      simp (maxSteps := 400000) (dsimp := false) only [h0, h1, h5, h6, hp0, hpl, hg, IT_len, hk, hw, axs, AThen, ABlock, dstsOk, AStep, callsF, AWant, aop, AS.ev, AS.put, upd, AS.bound, abin, aint, aload, astore, cellsAt, AV.cells, alen, elems, AV.int?, FPost, aresL, ares1, pack, afill, splice, Value.oneCell', Nat.reduceLT, Nat.reduceLeDiff, Nat.reduceEqDiff, Nat.reduceAdd, Nat.reduceMul, Nat.reduceSub, Nat.reduceBEq, Int.reduceLE, Int.reduceLT, Int.reduceToNat, Int.reduceNeg, Int.reduceEq, axt, ftK, ft3, pickP, AScope, AAll, pickQ, ftQ, inHeap, SL, tys]
      exact hlt
    · rw [if_neg hk]
      simp (maxSteps := 400000) (dsimp := false) only [h0, h1, h5, h6, hp0, hpl, hg, IT_len, hk, hw, axs, AThen, ABlock, dstsOk, AStep, callsF, AWant, aop, AS.ev, AS.put, upd, AS.bound, abin, aint, aload, astore, cellsAt, AV.cells, alen, elems, AV.int?, FPost, aresL, ares1, pack, afill, splice, Value.oneCell', Nat.reduceLT, Nat.reduceLeDiff, Nat.reduceEqDiff, Nat.reduceAdd, Nat.reduceMul, Nat.reduceSub, Nat.reduceBEq, Int.reduceLE, Int.reduceLT, Int.reduceToNat, Int.reduceNeg, Int.reduceEq, axt, ftK, ft3, pickP, AScope, AAll, pickQ, ftQ, inHeap, SL, tys]
      exact hlt
  · have hpl : ¬ (p : Int) < S.length := by omega
    rw [List.take_of_length_le hge] at h5
    simp (maxSteps := 400000) (dsimp := false) only [h0, h1, h5, h6, hpl, IT_len, axs, AThen, ABlock, dstsOk, AStep, callsF, AWant, aop, AS.ev, AS.put, upd, AS.bound, abin, aint, aload, astore, cellsAt, AV.cells, alen, elems, AV.int?, FPost, aresL, ares1, pack, afill, splice, Value.oneCell', Nat.reduceLT, Nat.reduceLeDiff, Nat.reduceEqDiff, Nat.reduceAdd, Nat.reduceMul, Nat.reduceSub, Nat.reduceBEq, Int.reduceLE, Int.reduceLT, Int.reduceToNat, Int.reduceNeg, Int.reduceEq, axt, ftK, ft3, pickP, AScope, AAll, pickQ, ftQ, inHeap, SL, tys]
    exact ⟨_, rfl, Sees.sc⟩
end Go.Al
