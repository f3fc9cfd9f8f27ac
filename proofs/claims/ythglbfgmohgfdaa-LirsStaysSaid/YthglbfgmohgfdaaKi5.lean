/- Low inter-reference recency: the program's small functions. Conditions: the rows are short. -/
import Derived.Test.YthglbfgmohgfdaaKi4
import Derived.Test.YthglbfgmohgfdaaEv1
set_option linter.unusedVariables false
set_option linter.unusedSimpArgs false
set_option maxRecDepth 20000
set_option maxHeartbeats 3200000
-- axs, AThen, ABlock, dstsOk, AStep, callsF, AWant, aop, AS.ev, AS.put, upd, AS.bound, abin, aint, aload, astore, cellsAt, AV.cells, alen, elems, AV.int?, FPost, aresL, ares1, pack, afill, splice, Value.oneCell', Nat.reduceLT, Nat.reduceLeDiff, Nat.reduceEqDiff, Nat.reduceAdd, Nat.reduceMul, Nat.reduceSub, Nat.reduceBEq, Int.reduceLE, Int.reduceLT, Int.reduceToNat, Int.reduceNeg, Int.reduceEq, axt, ftK, ft3, pickP, AScope, AAll, pickQ, ftQ, inHeap, SL, tys: SL
-- NOIDS: noIdsE_IT
-- LENS: IT_len
namespace Go.Al
open Go.Proofs
def takeP (S : List (Int × Int)) (i : Int) : List (Int × Int) := if i < 0 then S else S.eraseIdx i.toNat
def remK (S : List (Int × Int)) (k : Int) : List (Int × Int) := takeP S (idxK S k)
def pruned (S : List (Int × Int)) : List (Int × Int) := S.take (upTo 2 S)
def setKd (S : List (Int × Int)) (i : Nat) (kd : Int) : List (Int × Int) := S.set i ((S.getD i (0, 0)).1, kd)
def lastQ (Q : List Int) (k : Int) : List Int := without Q k ++ [k]
def roomOf (C : Int) : Int := C - (if 1 > C.tdiv 100 then 1 else C.tdiv 100)
theorem cMany (s : LS) (kd : Int) (hl : s.S.length ≤ 1000000) : PCalls Try.prog 37 [SL s, .sc (.int .i64 kd)] (.sc (.int .i64 (many kd s.S))) := by
  obtain ⟨C, S, Q⟩ := s
  simp only at hl ⊢
  refine PCalls.intro2 Try.func37 rfl rfl Try.ntmps37 Try.results37 (by simp) fun n => ?_; simp (maxSteps := 400000) (dsimp := false) only [IT_len, axs, AThen, ABlock, dstsOk, AStep, callsF, AWant, aop, AS.ev, AS.put, upd, AS.bound, abin, aint, aload, astore, cellsAt, AV.cells, alen, elems, AV.int?, FPost, aresL, ares1, pack, afill, splice, Value.oneCell', Nat.reduceLT, Nat.reduceLeDiff, Nat.reduceEqDiff, Nat.reduceAdd, Nat.reduceMul, Nat.reduceSub, Nat.reduceBEq, Int.reduceLE, Int.reduceLT, Int.reduceToNat, Int.reduceNeg, Int.reduceEq, axt, ftK, ft3, pickP, AScope, AAll, pickQ, ftQ, inHeap, SL, tys]
  refine ALoop.upto S.length (fun p s => s.t 1 = .sc (.int .i64 kd) ∧ s.t 5 = .sc (.int .i64 (many kd (S.take p))) ∧ s.t 9 = .lst 2 (IT S) ∧ s.t 10 = .sc (.int .i64 S.length) ∧ s.t 11 = .sc (.int .i64 p)) ⟨rfl, rfl, rfl, rfl, rfl⟩ ?_
  rintro p s hp hb ⟨h1, h5, h9, h10, h11⟩
  rcases Nat.lt_or_ge p S.length with hlt | hge
  · obtain ⟨x, hx, hp0, hpl, hw, hT, hD⟩ := idx hlt (by omega)
    have hg := IT_get hx
    have hm := many_le kd (S.take p)
    rw [List.length_take] at hm
    have hms : many kd (S.take (p + 1)) = many kd (S.take p) + (if x.2 = kd then 1 else 0) := by
      rw [hT, many_append, many_cons]
      rfl
    rw [hms]
    generalize many kd (S.take p) = q at *
    have hw2 : IntKind.i64.wrap ((q : Int) + 1) = ((q + 1 : Nat) : Int) := by rw [wrap_in (by omega) (by omega)]; rfl
    by_cases hk : x.2 = kd
    · rw [if_pos hk]
      simp (maxSteps := 400000) (dsimp := false) only [h1, h5, h9, h10, h11, hp0, hpl, hg, IT_len, hk, hw, hw2, axs, AThen, ABlock, dstsOk, AStep, callsF, AWant, aop, AS.ev, AS.put, upd, AS.bound, abin, aint, aload, astore, cellsAt, AV.cells, alen, elems, AV.int?, FPost, aresL, ares1, pack, afill, splice, Value.oneCell', Nat.reduceLT, Nat.reduceLeDiff, Nat.reduceEqDiff, Nat.reduceAdd, Nat.reduceMul, Nat.reduceSub, Nat.reduceBEq, Int.reduceLE, Int.reduceLT, Int.reduceToNat, Int.reduceNeg, Int.reduceEq, axt, ftK, ft3, pickP, AScope, AAll, pickQ, ftQ, inHeap, SL, tys]
      exact hlt
    · rw [if_neg hk]
      simp (maxSteps := 400000) (dsimp := false) only [h1, h5, h9, h10, h11, hp0, hpl, hg, IT_len, hk, hw, hw2, axs, AThen, ABlock, dstsOk, AStep, callsF, AWant, aop, AS.ev, AS.put, upd, AS.bound, abin, aint, aload, astore, cellsAt, AV.cells, alen, elems, AV.int?, FPost, aresL, ares1, pack, afill, splice, Value.oneCell', Nat.reduceLT, Nat.reduceLeDiff, Nat.reduceEqDiff, Nat.reduceAdd, Nat.reduceMul, Nat.reduceSub, Nat.reduceBEq, Int.reduceLE, Int.reduceLT, Int.reduceToNat, Int.reduceNeg, Int.reduceEq, axt, ftK, ft3, pickP, AScope, AAll, pickQ, ftQ, inHeap, SL, tys]
      exact hlt
  · have hpl : ¬ (p : Int) < S.length := by omega
    rw [List.take_of_length_le hge] at h5
    simp (maxSteps := 400000) (dsimp := false) only [h1, h5, h9, h10, h11, hpl, axs, AThen, ABlock, dstsOk, AStep, callsF, AWant, aop, AS.ev, AS.put, upd, AS.bound, abin, aint, aload, astore, cellsAt, AV.cells, alen, elems, AV.int?, FPost, aresL, ares1, pack, afill, splice, Value.oneCell', Nat.reduceLT, Nat.reduceLeDiff, Nat.reduceEqDiff, Nat.reduceAdd, Nat.reduceMul, Nat.reduceSub, Nat.reduceBEq, Int.reduceLE, Int.reduceLT, Int.reduceToNat, Int.reduceNeg, Int.reduceEq, axt, ftK, ft3, pickP, AScope, AAll, pickQ, ftQ, inHeap, SL, tys]
    exact ⟨_, rfl, Sees.sc⟩
theorem cAtP (s : LS) (k : Int) (hl : s.S.length ≤ 1000000) : PCalls Try.prog 40 [SL s, .sc (.int .u64 k)] (.sc (.int .i64 (idxK s.S k))) := by
  obtain ⟨C, S, Q⟩ := s
  simp only at hl ⊢
  refine PCalls.intro2 Try.func40 rfl rfl Try.ntmps40 Try.results40 (by simp) fun n => ?_; simp (maxSteps := 400000) (dsimp := false) only [axs, AThen, ABlock, dstsOk, AStep, callsF, AWant, aop, AS.ev, AS.put, upd, AS.bound, abin, aint, aload, astore, cellsAt, AV.cells, alen, elems, AV.int?, FPost, aresL, ares1, pack, afill, splice, Value.oneCell', Nat.reduceLT, Nat.reduceLeDiff, Nat.reduceEqDiff, Nat.reduceAdd, Nat.reduceMul, Nat.reduceSub, Nat.reduceBEq, Int.reduceLE, Int.reduceLT, Int.reduceToNat, Int.reduceNeg, Int.reduceEq, axt, ftK, ft3, pickP, AScope, AAll, pickQ, ftQ, inHeap, SL, tys]
  refine ACallK.heap _ rfl (cIdxR _ S hl (cAtF k (upd_same _ _ _))) ?_; rintro r' H' n' ⟨rfl, eH, en⟩; obtain rfl := eH.symm; obtain rfl := en.symm; clear eH en; simp (maxSteps := 400000) (dsimp := false) only [axs, AThen, ABlock, dstsOk, AStep, callsF, AWant, aop, AS.ev, AS.put, upd, AS.bound, abin, aint, aload, astore, cellsAt, AV.cells, alen, elems, AV.int?, FPost, aresL, ares1, pack, afill, splice, Value.oneCell', Nat.reduceLT, Nat.reduceLeDiff, Nat.reduceEqDiff, Nat.reduceAdd, Nat.reduceMul, Nat.reduceSub, Nat.reduceBEq, Int.reduceLE, Int.reduceLT, Int.reduceToNat, Int.reduceNeg, Int.reduceEq, axt, ftK, ft3, pickP, AScope, AAll, pickQ, ftQ, inHeap, SL, tys]
  exact ⟨_, rfl, Sees.sc⟩
theorem cLastP (s : LS) (kd : Int) (hl : s.S.length ≤ 1000000) : PCalls Try.prog 69 [SL s, .sc (.int .i64 kd)] (.sc (.int .i64 ((upTo kd s.S : Int) - 1))) := by
  obtain ⟨C, S, Q⟩ := s
  simp only at hl ⊢
  have w0 : IntKind.i64.wrap ((S.length : Int) - 1) = (S.length : Int) - 1 := IntWalk.i64_in _ ⟨by omega, by omega⟩
  refine PCalls.intro2 Try.func69 rfl rfl Try.ntmps69 Try.results69 (by simp) fun n => ?_; simp (maxSteps := 400000) (dsimp := false) only [IT_len, w0, axs, AThen, ABlock, dstsOk, AStep, callsF, AWant, aop, AS.ev, AS.put, upd, AS.bound, abin, aint, aload, astore, cellsAt, AV.cells, alen, elems, AV.int?, FPost, aresL, ares1, pack, afill, splice, Value.oneCell', Nat.reduceLT, Nat.reduceLeDiff, Nat.reduceEqDiff, Nat.reduceAdd, Nat.reduceMul, Nat.reduceSub, Nat.reduceBEq, Int.reduceLE, Int.reduceLT, Int.reduceToNat, Int.reduceNeg, Int.reduceEq, axt, ftK, ft3, pickP, AScope, AAll, pickQ, ftQ, inHeap, SL, tys]
  refine ALoop.upto S.length (fun p s => s.t 1 = .sc (.int .i64 kd) ∧ s.t 2 = .ptr n 3 0 0 ∧ s.t 5 = .sc (.int .i64 ((S.length : Int) - 1 - p)) ∧ s.H n = some (.obj 27 3 [[.sc (.int .i64 C), .lst 2 (IT S), .lst 1 (U Q)]] false) ∧ ∀ y ∈ S.drop (S.length - p), y.2 ≠ kd) ⟨rfl, rfl, (by show _ = AV.sc (.int .i64 ((S.length : Int) - 1 - (0 : Nat))); rw [Int.natCast_zero, Int.sub_zero]; rfl), upd_same _ _ _, (by rw [Nat.sub_zero, List.drop_of_length_le (Nat.le_refl _)]; intro y hy; cases hy)⟩ ?_
  rintro p s hp hb ⟨h1, h2, h5, hH, hno⟩
  rcases Nat.lt_or_ge p S.length with hlt | hge
  · obtain ⟨i, hi⟩ : ∃ i : Nat, i = S.length - 1 - p := ⟨_, rfl⟩
    have hil : i < S.length := by omega
    have e5 : (S.length : Int) - 1 - p = (i : Int) := by omega
    rw [e5] at h5
    obtain ⟨x, hx⟩ : ∃ x, S[i]? = some x := ⟨_, List.getElem?_eq_getElem hil⟩
    have hg := IT_get hx
    have i0 : (0 : Int) ≤ (i : Int) := by omega
    have i1 : (i : Int) ≥ 0 := by omega
    have i2 : (i : Int) < S.length := by omega
    have w1 : IntKind.i64.wrap ((i : Int) - 1) = (S.length : Int) - 1 - ((p + 1 : Nat) : Int) := by rw [IntWalk.i64_in _ ⟨by omega, by omega⟩]; omega
    have hdr : S.drop (S.length - p) = S.drop (i + 1) := by congr 1; omega
    rw [hdr] at hno
    have hsp : S = S.take i ++ x :: S.drop (i + 1) := by
      obtain ⟨_, e⟩ := List.getElem?_eq_some_iff.1 hx
      rw [← e, List.getElem_cons_drop, List.take_append_drop]
    by_cases hk : x.2 = kd
    · have hu : (upTo kd S : Int) - 1 = i := by
        rw [hsp, upTo_at hk hno, List.length_take]
        omega
      simp (maxSteps := 400000) (dsimp := false) only [h1, h2, h5, hH, i0, i1, i2, hg, IT_len, eq_true hk, hk, hu, axs, AThen, ABlock, dstsOk, AStep, callsF, AWant, aop, AS.ev, AS.put, upd, AS.bound, abin, aint, aload, astore, cellsAt, AV.cells, alen, elems, AV.int?, FPost, aresL, ares1, pack, afill, splice, Value.oneCell', Nat.reduceLT, Nat.reduceLeDiff, Nat.reduceEqDiff, Nat.reduceAdd, Nat.reduceMul, Nat.reduceSub, Nat.reduceBEq, Int.reduceLE, Int.reduceLT, Int.reduceToNat, Int.reduceNeg, Int.reduceEq, axt, ftK, ft3, pickP, AScope, AAll, pickQ, ftQ, inHeap, SL, tys]
      exact ⟨_, rfl, Sees.sc⟩
    · simp (maxSteps := 400000) (dsimp := false) only [h1, h2, h5, hH, i0, i1, i2, hg, IT_len, hk, w1, axs, AThen, ABlock, dstsOk, AStep, callsF, AWant, aop, AS.ev, AS.put, upd, AS.bound, abin, aint, aload, astore, cellsAt, AV.cells, alen, elems, AV.int?, FPost, aresL, ares1, pack, afill, splice, Value.oneCell', Nat.reduceLT, Nat.reduceLeDiff, Nat.reduceEqDiff, Nat.reduceAdd, Nat.reduceMul, Nat.reduceSub, Nat.reduceBEq, Int.reduceLE, Int.reduceLT, Int.reduceToNat, Int.reduceNeg, Int.reduceEq, axt, ftK, ft3, pickP, AScope, AAll, pickQ, ftQ, inHeap, SL, tys]
      refine ⟨hlt, fun y hy => ?_⟩
      have hd2 : S.drop (S.length - (p + 1)) = x :: S.drop (i + 1) := by
        have : S.length - (p + 1) = i := by omega
        rw [this]
        obtain ⟨_, e⟩ := List.getElem?_eq_some_iff.1 hx
        rw [← e, List.getElem_cons_drop]
      rw [hd2] at hy
      rcases List.mem_cons.1 hy with rfl | h
      · exact hk
      · exact hno y h
  · obtain rfl : p = S.length := by omega
    rw [Nat.sub_self, List.drop_zero] at hno
    have e5 : (S.length : Int) - 1 - S.length = -1 := by omega
    rw [e5] at h5
    have i1 : ¬ (-1 : Int) ≥ 0 := by omega
    have hu : (upTo kd S : Int) - 1 = -1 := by rw [upTo_none hno]; rfl
    simp (maxSteps := 400000) (dsimp := false) only [h1, h2, h5, hH, i1, hu, axs, AThen, ABlock, dstsOk, AStep, callsF, AWant, aop, AS.ev, AS.put, upd, AS.bound, abin, aint, aload, astore, cellsAt, AV.cells, alen, elems, AV.int?, FPost, aresL, ares1, pack, afill, splice, Value.oneCell', Nat.reduceLT, Nat.reduceLeDiff, Nat.reduceEqDiff, Nat.reduceAdd, Nat.reduceMul, Nat.reduceSub, Nat.reduceBEq, Int.reduceLE, Int.reduceLT, Int.reduceToNat, Int.reduceNeg, Int.reduceEq, axt, ftK, ft3, pickP, AScope, AAll, pickQ, ftQ, inHeap, SL, tys]
    exact ⟨_, rfl, Sees.sc⟩
theorem cRoom (s : LS) (c0 : 1 ≤ s.C) (c1 : s.C ≤ 1048576) : PCalls Try.prog 47 [SL s] (.sc (.int .i64 (roomOf s.C))) := by
  obtain ⟨C, S, Q⟩ := s
  simp only at c0 c1 ⊢
  have ht : 0 ≤ C.tdiv 100 ∧ C.tdiv 100 ≤ C := ⟨Int.tdiv_nonneg (by omega) (by omega), Int.tdiv_le_self _ (by omega)⟩
  have w1 : IntKind.i64.wrap (C.tdiv 100) = C.tdiv 100 := wrap_in ht.1 (by omega)
  have w2 : IntKind.i64.wrap (C - (if 1 > C.tdiv 100 then 1 else C.tdiv 100)) = C - (if 1 > C.tdiv 100 then 1 else C.tdiv 100) := IntWalk.i64_in _ ⟨by split <;> omega, by split <;> omega⟩
  refine PCalls.intro2 Try.func47 rfl rfl Try.ntmps47 Try.results47 (by simp) fun n => ?_; simp (maxSteps := 400000) (dsimp := false) only [w1, w2, axs, AThen, ABlock, dstsOk, AStep, callsF, AWant, aop, AS.ev, AS.put, upd, AS.bound, abin, aint, aload, astore, cellsAt, AV.cells, alen, elems, AV.int?, FPost, aresL, ares1, pack, afill, splice, Value.oneCell', Nat.reduceLT, Nat.reduceLeDiff, Nat.reduceEqDiff, Nat.reduceAdd, Nat.reduceMul, Nat.reduceSub, Nat.reduceBEq, Int.reduceLE, Int.reduceLT, Int.reduceToNat, Int.reduceNeg, Int.reduceEq, axt, ftK, ft3, pickP, AScope, AAll, pickQ, ftQ, inHeap, SL, tys]
  exact ⟨_, rfl, Sees.sc⟩
theorem cCloneI (l : List (Int × Int)) (hl : l.length ≤ 1000000) : PCalls Try.prog 60 [.lst 2 (IT l)] (.lst 2 (IT l)) := by
  refine PCalls.intro2 Try.func60 rfl rfl Try.ntmps60 Try.results60 (by simp) fun n => ?_; simp (maxSteps := 400000) (dsimp := false) only [axs, AThen, ABlock, dstsOk, AStep, callsF, AWant, aop, AS.ev, AS.put, upd, AS.bound, abin, aint, aload, astore, cellsAt, AV.cells, alen, elems, AV.int?, FPost, aresL, ares1, pack, afill, splice, Value.oneCell', Nat.reduceLT, Nat.reduceLeDiff, Nat.reduceEqDiff, Nat.reduceAdd, Nat.reduceMul, Nat.reduceSub, Nat.reduceBEq, Int.reduceLE, Int.reduceLT, Int.reduceToNat, Int.reduceNeg, Int.reduceEq, axt, ftK, ft3, pickP, AScope, AAll, pickQ, ftQ, inHeap, SL, tys]
  refine AStepX.eql_nil rfl rfl sl24 (fun b hb => ?_)
  simp (maxSteps := 400000) (dsimp := false) only [axs, AThen, ABlock, dstsOk, AStep, callsF, AWant, aop, AS.ev, AS.put, upd, AS.bound, abin, aint, aload, astore, cellsAt, AV.cells, alen, elems, AV.int?, FPost, aresL, ares1, pack, afill, splice, Value.oneCell', Nat.reduceLT, Nat.reduceLeDiff, Nat.reduceEqDiff, Nat.reduceAdd, Nat.reduceMul, Nat.reduceSub, Nat.reduceBEq, Int.reduceLE, Int.reduceLT, Int.reduceToNat, Int.reduceNeg, Int.reduceEq, axt, ftK, ft3, pickP, AScope, AAll, pickQ, ftQ, inHeap, SL, tys]
  cases b with
  | true =>
    simp (maxSteps := 400000) (dsimp := false) only [axs, AThen, ABlock, dstsOk, AStep, callsF, AWant, aop, AS.ev, AS.put, upd, AS.bound, abin, aint, aload, astore, cellsAt, AV.cells, alen, elems, AV.int?, FPost, aresL, ares1, pack, afill, splice, Value.oneCell', Nat.reduceLT, Nat.reduceLeDiff, Nat.reduceEqDiff, Nat.reduceAdd, Nat.reduceMul, Nat.reduceSub, Nat.reduceBEq, Int.reduceLE, Int.reduceLT, Int.reduceToNat, Int.reduceNeg, Int.reduceEq, axt, ftK, ft3, pickP, AScope, AAll, pickQ, ftQ, inHeap, SL, tys]
    have : IT l = [] := hb rfl
    rw [this]
    exact ⟨_, rfl, Sees.none⟩
  | false =>
    have h1 : l.length * 16 ≤ 140737488355328 := by omega
    have h2 : l.length ≤ 1099511627776 := by omega
    simp (maxSteps := 400000) (dsimp := false) only [IT_len, upd_same, h1, h2, axs, AThen, ABlock, dstsOk, AStep, callsF, AWant, aop, AS.ev, AS.put, upd, AS.bound, abin, aint, aload, astore, cellsAt, AV.cells, alen, elems, AV.int?, FPost, aresL, ares1, pack, afill, splice, Value.oneCell', Nat.reduceLT, Nat.reduceLeDiff, Nat.reduceEqDiff, Nat.reduceAdd, Nat.reduceMul, Nat.reduceSub, Nat.reduceBEq, Int.reduceLE, Int.reduceLT, Int.reduceToNat, Int.reduceNeg, Int.reduceEq, axt, ftK, ft3, pickP, AScope, AAll, pickQ, ftQ, inHeap, SL, tys]
    exact ⟨_, rfl, (Live.mk (upd_same _ _ _) (by rw [IT_len]) : Live 58 2 _ (IT l) _).sees (noIdsE_IT _)⟩
theorem cCopied (s : LS) (hl : s.S.length ≤ 1000000) (hq : s.Q.length ≤ 1000000) : PCalls Try.prog 39 [SL s] (SL s) := by
  obtain ⟨C, S, Q⟩ := s
  simp only at hl hq
  refine PCalls.intro2 Try.func39 rfl rfl Try.ntmps39 Try.results39 (by simp) fun n => ?_; simp (maxSteps := 400000) (dsimp := false) only [axs, AThen, ABlock, dstsOk, AStep, callsF, AWant, aop, AS.ev, AS.put, upd, AS.bound, abin, aint, aload, astore, cellsAt, AV.cells, alen, elems, AV.int?, FPost, aresL, ares1, pack, afill, splice, Value.oneCell', Nat.reduceLT, Nat.reduceLeDiff, Nat.reduceEqDiff, Nat.reduceAdd, Nat.reduceMul, Nat.reduceSub, Nat.reduceBEq, Int.reduceLE, Int.reduceLT, Int.reduceToNat, Int.reduceNeg, Int.reduceEq, axt, ftK, ft3, pickP, AScope, AAll, pickQ, ftQ, inHeap, SL, tys]
  refine ADraw.planR [] [(0, true), (1, true), (2, true), (3, true), (4, true), (5, true), (6, true), (7, true), (8, true), (9, true)] [(0, false), (0, false), (0, false), (0, false), (0, false), (0, false), (0, false), (0, false), (0, false), (0, false)] mixed (by kernel_rfl) (by kernel_rfl) ?_
  simp (maxSteps := 400000) (dsimp := false) only [axs, AThen, ABlock, dstsOk, AStep, callsF, AWant, aop, AS.ev, AS.put, upd, AS.bound, abin, aint, aload, astore, cellsAt, AV.cells, alen, elems, AV.int?, FPost, aresL, ares1, pack, afill, splice, Value.oneCell', Nat.reduceLT, Nat.reduceLeDiff, Nat.reduceEqDiff, Nat.reduceAdd, Nat.reduceMul, Nat.reduceSub, Nat.reduceBEq, Int.reduceLE, Int.reduceLT, Int.reduceToNat, Int.reduceNeg, Int.reduceEq, axt, ftK, ft3, pickP, AScope, AAll, pickQ, ftQ, inHeap, SL, tys]
  refine ACallP.pure rfl (cCloneI S hl) ?_; simp (maxSteps := 400000) (dsimp := false) only [axs, AThen, ABlock, dstsOk, AStep, callsF, AWant, aop, AS.ev, AS.put, upd, AS.bound, abin, aint, aload, astore, cellsAt, AV.cells, alen, elems, AV.int?, FPost, aresL, ares1, pack, afill, splice, Value.oneCell', Nat.reduceLT, Nat.reduceLeDiff, Nat.reduceEqDiff, Nat.reduceAdd, Nat.reduceMul, Nat.reduceSub, Nat.reduceBEq, Int.reduceLE, Int.reduceLT, Int.reduceToNat, Int.reduceNeg, Int.reduceEq, axt, ftK, ft3, pickP, AScope, AAll, pickQ, ftQ, inHeap, SL, tys]
  refine ACallP.pure rfl (cCloneP Q hq) ?_; simp (maxSteps := 400000) (dsimp := false) only [axs, AThen, ABlock, dstsOk, AStep, callsF, AWant, aop, AS.ev, AS.put, upd, AS.bound, abin, aint, aload, astore, cellsAt, AV.cells, alen, elems, AV.int?, FPost, aresL, ares1, pack, afill, splice, Value.oneCell', Nat.reduceLT, Nat.reduceLeDiff, Nat.reduceEqDiff, Nat.reduceAdd, Nat.reduceMul, Nat.reduceSub, Nat.reduceBEq, Int.reduceLE, Int.reduceLT, Int.reduceToNat, Int.reduceNeg, Int.reduceEq, axt, ftK, ft3, pickP, AScope, AAll, pickQ, ftQ, inHeap, SL, tys]
  refine ⟨_, rfl, ?_⟩; simp (maxSteps := 400000) (dsimp := false) only [SeesL, axs, AThen, ABlock, dstsOk, AStep, callsF, AWant, aop, AS.ev, AS.put, upd, AS.bound, abin, aint, aload, astore, cellsAt, AV.cells, alen, elems, AV.int?, FPost, aresL, ares1, pack, afill, splice, Value.oneCell', Nat.reduceLT, Nat.reduceLeDiff, Nat.reduceEqDiff, Nat.reduceAdd, Nat.reduceMul, Nat.reduceSub, Nat.reduceBEq, Int.reduceLE, Int.reduceLT, Int.reduceToNat, Int.reduceNeg, Int.reduceEq, axt, ftK, ft3, pickP, AScope, AAll, pickQ, ftQ, inHeap, SL, tys] <;> repeat' (first | exact True.intro | exact Sees.sc | exact Sees.none | ((with_reducible refine Sees.same ?_) <;> simp [noIds, noIdsL, noIdsE, noIdsE_U, noIdsE_UU, noIdsE_IT] <;> fail) | (refine Live.sees ?_ ?_ <;> first | assumption | (simp [noIdsE_U, noIdsE_UU, noIdsE_IT] <;> fail)) | (refine Sees.obj ?_ ?_ ?_ <;> first | exact ⟨_, _, by assumption, rfl⟩ | (simp [U_len, UU_len, IT_len] <;> fail) | (simp [noIdsE_U, noIdsE_UU, noIdsE_IT] <;> fail) | (simp [U, UU, upd, neS] <;> fail) | (simp [U, UU, upd, neS, *] <;> fail)) | refine Sees.agg ?_ | refine Sees.tup ?_ | refine And.intro ?_ ?_ | simp only [SeesL])
theorem cTake (s : LS) (i : Int) (hi : i < s.S.length) (hl : s.S.length ≤ 1000000) : PCalls Try.prog 49 [SL s, .sc (.int .i64 i)] (SL ⟨s.C, takeP s.S i, s.Q⟩) := by
  unfold takeP
  by_cases h : i < 0
  · rw [if_pos h]
    refine PCalls.intro2 Try.func49 rfl rfl Try.ntmps49 Try.results49 (by simp) fun n => ?_; simp (maxSteps := 400000) (dsimp := false) only [h, axs, AThen, ABlock, dstsOk, AStep, callsF, AWant, aop, AS.ev, AS.put, upd, AS.bound, abin, aint, aload, astore, cellsAt, AV.cells, alen, elems, AV.int?, FPost, aresL, ares1, pack, afill, splice, Value.oneCell', Nat.reduceLT, Nat.reduceLeDiff, Nat.reduceEqDiff, Nat.reduceAdd, Nat.reduceMul, Nat.reduceSub, Nat.reduceBEq, Int.reduceLE, Int.reduceLT, Int.reduceToNat, Int.reduceNeg, Int.reduceEq, axt, ftK, ft3, pickP, AScope, AAll, pickQ, ftQ, inHeap, SL, tys]
    refine ⟨_, rfl, ?_⟩; simp (maxSteps := 400000) (dsimp := false) only [SeesL, axs, AThen, ABlock, dstsOk, AStep, callsF, AWant, aop, AS.ev, AS.put, upd, AS.bound, abin, aint, aload, astore, cellsAt, AV.cells, alen, elems, AV.int?, FPost, aresL, ares1, pack, afill, splice, Value.oneCell', Nat.reduceLT, Nat.reduceLeDiff, Nat.reduceEqDiff, Nat.reduceAdd, Nat.reduceMul, Nat.reduceSub, Nat.reduceBEq, Int.reduceLE, Int.reduceLT, Int.reduceToNat, Int.reduceNeg, Int.reduceEq, axt, ftK, ft3, pickP, AScope, AAll, pickQ, ftQ, inHeap, SL, tys] <;> repeat' (first | exact True.intro | exact Sees.sc | exact Sees.none | ((with_reducible refine Sees.same ?_) <;> simp [noIds, noIdsL, noIdsE, noIdsE_U, noIdsE_UU, noIdsE_IT] <;> fail) | (refine Live.sees ?_ ?_ <;> first | assumption | (simp [noIdsE_U, noIdsE_UU, noIdsE_IT] <;> fail)) | (refine Sees.obj ?_ ?_ ?_ <;> first | exact ⟨_, _, by assumption, rfl⟩ | (simp [U_len, UU_len, IT_len] <;> fail) | (simp [noIdsE_U, noIdsE_UU, noIdsE_IT] <;> fail) | (simp [U, UU, upd, neS] <;> fail) | (simp [U, UU, upd, neS, *] <;> fail)) | refine Sees.agg ?_ | refine Sees.tup ?_ | refine And.intro ?_ ?_ | simp only [SeesL])
  · rw [if_neg h]
    obtain ⟨j, rfl⟩ : ∃ j : Nat, i = j := ⟨i.toNat, by omega⟩
    have hj : ((j : Int)).toNat = j := by omega
    rw [hj]
    refine PCalls.intro2 Try.func49 rfl rfl Try.ntmps49 Try.results49 (by simp) fun n => ?_; simp (maxSteps := 400000) (dsimp := false) only [h, axs, AThen, ABlock, dstsOk, AStep, callsF, AWant, aop, AS.ev, AS.put, upd, AS.bound, abin, aint, aload, astore, cellsAt, AV.cells, alen, elems, AV.int?, FPost, aresL, ares1, pack, afill, splice, Value.oneCell', Nat.reduceLT, Nat.reduceLeDiff, Nat.reduceEqDiff, Nat.reduceAdd, Nat.reduceMul, Nat.reduceSub, Nat.reduceBEq, Int.reduceLE, Int.reduceLT, Int.reduceToNat, Int.reduceNeg, Int.reduceEq, axt, ftK, ft3, pickP, AScope, AAll, pickQ, ftQ, inHeap, SL, tys]
    refine ACallK.heap _ rfl (cChange s _ hl (cTakeF s.S j (by omega) hl ((upd_ne _ _ (by omega)).trans (upd_same _ _ _)) (by show n + 1 < n + 1 + 1 + 1; omega))) ?_; rintro r' H' n' ⟨rfl, eH, en⟩; obtain rfl := eH.symm; obtain rfl := en.symm; clear eH en; simp (maxSteps := 400000) (dsimp := false) only [axs, AThen, ABlock, dstsOk, AStep, callsF, AWant, aop, AS.ev, AS.put, upd, AS.bound, abin, aint, aload, astore, cellsAt, AV.cells, alen, elems, AV.int?, FPost, aresL, ares1, pack, afill, splice, Value.oneCell', Nat.reduceLT, Nat.reduceLeDiff, Nat.reduceEqDiff, Nat.reduceAdd, Nat.reduceMul, Nat.reduceSub, Nat.reduceBEq, Int.reduceLE, Int.reduceLT, Int.reduceToNat, Int.reduceNeg, Int.reduceEq, axt, ftK, ft3, pickP, AScope, AAll, pickQ, ftQ, inHeap, SL, tys]
    refine ⟨_, rfl, ?_⟩; simp (maxSteps := 400000) (dsimp := false) only [SeesL, axs, AThen, ABlock, dstsOk, AStep, callsF, AWant, aop, AS.ev, AS.put, upd, AS.bound, abin, aint, aload, astore, cellsAt, AV.cells, alen, elems, AV.int?, FPost, aresL, ares1, pack, afill, splice, Value.oneCell', Nat.reduceLT, Nat.reduceLeDiff, Nat.reduceEqDiff, Nat.reduceAdd, Nat.reduceMul, Nat.reduceSub, Nat.reduceBEq, Int.reduceLE, Int.reduceLT, Int.reduceToNat, Int.reduceNeg, Int.reduceEq, axt, ftK, ft3, pickP, AScope, AAll, pickQ, ftQ, inHeap, SL, tys] <;> repeat' (first | exact True.intro | exact Sees.sc | exact Sees.none | ((with_reducible refine Sees.same ?_) <;> simp [noIds, noIdsL, noIdsE, noIdsE_U, noIdsE_UU, noIdsE_IT] <;> fail) | (refine Live.sees ?_ ?_ <;> first | assumption | (simp [noIdsE_U, noIdsE_UU, noIdsE_IT] <;> fail)) | (refine Sees.obj ?_ ?_ ?_ <;> first | exact ⟨_, _, by assumption, rfl⟩ | (simp [U_len, UU_len, IT_len] <;> fail) | (simp [noIdsE_U, noIdsE_UU, noIdsE_IT] <;> fail) | (simp [U, UU, upd, neS] <;> fail) | (simp [U, UU, upd, neS, *] <;> fail)) | refine Sees.agg ?_ | refine Sees.tup ?_ | refine And.intro ?_ ?_ | simp only [SeesL])
end Go.Al
