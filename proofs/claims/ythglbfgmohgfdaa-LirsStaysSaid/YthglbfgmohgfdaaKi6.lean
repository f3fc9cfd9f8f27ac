/- Low inter-reference recency: the program's stack and queue, changed. Conditions: the rows are short. -/
import Derived.Test.YthglbfgmohgfdaaKi5
set_option linter.unusedVariables false
set_option linter.unusedSimpArgs false
set_option maxRecDepth 20000
set_option maxHeartbeats 3200000
-- axs, AThen, ABlock, dstsOk, AStep, callsF, AWant, aop, AS.ev, AS.put, upd, AS.bound, abin, aint, aload, astore, cellsAt, AV.cells, alen, elems, AV.int?, FPost, aresL, ares1, pack, afill, splice, Value.oneCell', Nat.reduceLT, Nat.reduceLeDiff, Nat.reduceEqDiff, Nat.reduceAdd, Nat.reduceMul, Nat.reduceSub, Nat.reduceBEq, Int.reduceLE, Int.reduceLT, Int.reduceToNat, Int.reduceNeg, Int.reduceEq, axt, ftK, ft3, pickP, AScope, AAll, pickQ, ftQ, inHeap, SL, tys: SL
-- NOIDS: noIdsE_IT
-- LENS: IT_len
namespace Go.Al
open Go.Proofs
theorem idxK_lt (S : List (Int × Int)) (k : Int) : idxK S k < S.length ∧ -1 ≤ idxK S k := by
  rcases idxT_cases (fun x => decide (x.1 = k)) S with ⟨h, _⟩ | ⟨p, x, h, hx, _⟩
  · have h : idxK S k = -1 := h
    omega
  · have h : idxK S k = p := h
    have := (List.getElem?_eq_some_iff.1 hx).1
    omega
theorem takeP_len (S : List (Int × Int)) (i : Int) : (takeP S i).length ≤ S.length := by
  unfold takeP
  split
  · omega
  · rw [List.length_eraseIdx]; split <;> omega
theorem cKind (s : LS) (i : Nat) (kd : Int) (hi : i < s.S.length) (hl : s.S.length ≤ 1000000) : PCalls Try.prog 70 [SL s, .sc (.int .i64 i), .sc (.int .i64 kd)] (SL ⟨s.C, setKd s.S i kd, s.Q⟩) := by
  have hx : s.S[i]? = some s.S[i] := List.getElem?_eq_getElem hi
  have e : setKd s.S i kd = s.S.set i (s.S[i].1, kd) := by
    unfold setKd
    rw [List.getD_eq_getElem?_getD, hx]; rfl
  rw [e]
  refine PCalls.intro2 Try.func70 rfl rfl Try.ntmps70 Try.results70 (by simp) fun n => ?_; simp (maxSteps := 400000) (dsimp := false) only [axs, AThen, ABlock, dstsOk, AStep, callsF, AWant, aop, AS.ev, AS.put, upd, AS.bound, abin, aint, aload, astore, cellsAt, AV.cells, alen, elems, AV.int?, FPost, aresL, ares1, pack, afill, splice, Value.oneCell', Nat.reduceLT, Nat.reduceLeDiff, Nat.reduceEqDiff, Nat.reduceAdd, Nat.reduceMul, Nat.reduceSub, Nat.reduceBEq, Int.reduceLE, Int.reduceLT, Int.reduceToNat, Int.reduceNeg, Int.reduceEq, axt, ftK, ft3, pickP, AScope, AAll, pickQ, ftQ, inHeap, SL, tys]
  refine ACallK.heap _ rfl (cChange s _ hl (cKindF s.S i kd hx (ka := n + 1 + 1) (kb := n + 1) ((upd_ne _ _ (by omega)).trans (upd_same _ _ _)) ((upd_ne _ _ (by omega)).trans ((upd_ne _ _ (by omega)).trans (upd_same _ _ _))) (by show n + 1 + 1 < n + 1 + 1 + 1 + 1; omega) (by show n + 1 < n + 1 + 1 + 1 + 1; omega))) ?_; rintro r' H' n' ⟨rfl, eH, en⟩; obtain rfl := eH.symm; obtain rfl := en.symm; clear eH en; simp (maxSteps := 400000) (dsimp := false) only [axs, AThen, ABlock, dstsOk, AStep, callsF, AWant, aop, AS.ev, AS.put, upd, AS.bound, abin, aint, aload, astore, cellsAt, AV.cells, alen, elems, AV.int?, FPost, aresL, ares1, pack, afill, splice, Value.oneCell', Nat.reduceLT, Nat.reduceLeDiff, Nat.reduceEqDiff, Nat.reduceAdd, Nat.reduceMul, Nat.reduceSub, Nat.reduceBEq, Int.reduceLE, Int.reduceLT, Int.reduceToNat, Int.reduceNeg, Int.reduceEq, axt, ftK, ft3, pickP, AScope, AAll, pickQ, ftQ, inHeap, SL, tys]
  refine ⟨_, rfl, ?_⟩; simp (maxSteps := 400000) (dsimp := false) only [SeesL, axs, AThen, ABlock, dstsOk, AStep, callsF, AWant, aop, AS.ev, AS.put, upd, AS.bound, abin, aint, aload, astore, cellsAt, AV.cells, alen, elems, AV.int?, FPost, aresL, ares1, pack, afill, splice, Value.oneCell', Nat.reduceLT, Nat.reduceLeDiff, Nat.reduceEqDiff, Nat.reduceAdd, Nat.reduceMul, Nat.reduceSub, Nat.reduceBEq, Int.reduceLE, Int.reduceLT, Int.reduceToNat, Int.reduceNeg, Int.reduceEq, axt, ftK, ft3, pickP, AScope, AAll, pickQ, ftQ, inHeap, SL, tys] <;> repeat' (first | exact True.intro | exact Sees.sc | exact Sees.none | ((with_reducible refine Sees.same ?_) <;> simp [noIds, noIdsL, noIdsE, noIdsE_U, noIdsE_UU, noIdsE_IT] <;> fail) | (refine Live.sees ?_ ?_ <;> first | assumption | (simp [noIdsE_U, noIdsE_UU, noIdsE_IT] <;> fail)) | (refine Sees.obj ?_ ?_ ?_ <;> first | exact ⟨_, _, by assumption, rfl⟩ | (simp [U_len, UU_len, IT_len] <;> fail) | (simp [noIdsE_U, noIdsE_UU, noIdsE_IT] <;> fail) | (simp [U, UU, upd, neS] <;> fail) | (simp [U, UU, upd, neS, *] <;> fail)) | refine Sees.agg ?_ | refine Sees.tup ?_ | refine And.intro ?_ ?_ | simp only [SeesL])
theorem cPrune (s : LS) (hl : s.S.length ≤ 1000000) : PCalls Try.prog 45 [SL s] (SL ⟨s.C, pruned s.S, s.Q⟩) := by
  have hu := upTo_le (k := 2) s.S
  have w1 : IntKind.i64.wrap ((upTo 2 s.S : Int) - 1 + 1) = (upTo 2 s.S : Int) := by rw [IntWalk.i64_in _ ⟨by omega, by omega⟩]; omega
  have cl := cLastP s 2 hl
  unfold pruned
  refine PCalls.intro2 Try.func45 rfl rfl Try.ntmps45 Try.results45 (by simp) fun n => ?_; simp (maxSteps := 400000) (dsimp := false) only [axs, AThen, ABlock, dstsOk, AStep, callsF, AWant, aop, AS.ev, AS.put, upd, AS.bound, abin, aint, aload, astore, cellsAt, AV.cells, alen, elems, AV.int?, FPost, aresL, ares1, pack, afill, splice, Value.oneCell', Nat.reduceLT, Nat.reduceLeDiff, Nat.reduceEqDiff, Nat.reduceAdd, Nat.reduceMul, Nat.reduceSub, Nat.reduceBEq, Int.reduceLE, Int.reduceLT, Int.reduceToNat, Int.reduceNeg, Int.reduceEq, axt, ftK, ft3, pickP, AScope, AAll, pickQ, ftQ, inHeap, SL, tys]
  refine ACallK.strict rfl (cl) (by simp only [SeesL, w1, axs, axt, AS.ev, AS.put, upd, inHeap, Nat.reduceLT, Nat.reduceEqDiff, Nat.reduceAdd, Nat.reduceBEq, SL]; repeat' (first | exact True.intro | exact Sees.sc | exact Sees.none | ((with_reducible refine Sees.same ?_) <;> simp [noIds, noIdsL, noIdsE, noIdsE_U, noIdsE_UU, noIdsE_IT] <;> fail) | (refine Live.sees ?_ ?_ <;> first | assumption | (simp [noIdsE_U, noIdsE_UU, noIdsE_IT] <;> fail)) | (refine Sees.obj ?_ ?_ ?_ <;> first | exact ⟨_, _, by assumption, rfl⟩ | (simp [U_len, UU_len, IT_len] <;> fail) | (simp [noIdsE_U, noIdsE_UU, noIdsE_IT] <;> fail) | (simp [U, UU, upd] <;> fail) | (simp [U, UU, upd, neS, *] <;> fail)) | (refine Sees.of_seen 3 ?_ <;> simp [seen, upd, noIdsE, noIdsL, noIds, U, UU, Nat.add_assoc] <;> fail) | refine Sees.agg ?_ | refine And.intro ?_ ?_ | simp only [SeesL])) ?_; simp (maxSteps := 400000) (dsimp := false) only [w1, axs, AThen, ABlock, dstsOk, AStep, callsF, AWant, aop, AS.ev, AS.put, upd, AS.bound, abin, aint, aload, astore, cellsAt, AV.cells, alen, elems, AV.int?, FPost, aresL, ares1, pack, afill, splice, Value.oneCell', Nat.reduceLT, Nat.reduceLeDiff, Nat.reduceEqDiff, Nat.reduceAdd, Nat.reduceMul, Nat.reduceSub, Nat.reduceBEq, Int.reduceLE, Int.reduceLT, Int.reduceToNat, Int.reduceNeg, Int.reduceEq, axt, ftK, ft3, pickP, AScope, AAll, pickQ, ftQ, inHeap, SL, tys]
  refine ACallK.heap _ rfl (cChange s _ hl (cPruneF s.S (upTo 2 s.S) hu (kb := n + 1 + 1) (upd_same _ _ _) (by show n + 1 + 1 < n + 1 + 1 + 1; omega))) ?_; rintro r' H' n' ⟨rfl, eH, en⟩; obtain rfl := eH.symm; obtain rfl := en.symm; clear eH en; simp (maxSteps := 400000) (dsimp := false) only [axs, AThen, ABlock, dstsOk, AStep, callsF, AWant, aop, AS.ev, AS.put, upd, AS.bound, abin, aint, aload, astore, cellsAt, AV.cells, alen, elems, AV.int?, FPost, aresL, ares1, pack, afill, splice, Value.oneCell', Nat.reduceLT, Nat.reduceLeDiff, Nat.reduceEqDiff, Nat.reduceAdd, Nat.reduceMul, Nat.reduceSub, Nat.reduceBEq, Int.reduceLE, Int.reduceLT, Int.reduceToNat, Int.reduceNeg, Int.reduceEq, axt, ftK, ft3, pickP, AScope, AAll, pickQ, ftQ, inHeap, SL, tys]
  refine ⟨_, rfl, ?_⟩; simp (maxSteps := 400000) (dsimp := false) only [SeesL, axs, AThen, ABlock, dstsOk, AStep, callsF, AWant, aop, AS.ev, AS.put, upd, AS.bound, abin, aint, aload, astore, cellsAt, AV.cells, alen, elems, AV.int?, FPost, aresL, ares1, pack, afill, splice, Value.oneCell', Nat.reduceLT, Nat.reduceLeDiff, Nat.reduceEqDiff, Nat.reduceAdd, Nat.reduceMul, Nat.reduceSub, Nat.reduceBEq, Int.reduceLE, Int.reduceLT, Int.reduceToNat, Int.reduceNeg, Int.reduceEq, axt, ftK, ft3, pickP, AScope, AAll, pickQ, ftQ, inHeap, SL, tys] <;> repeat' (first | exact True.intro | exact Sees.sc | exact Sees.none | ((with_reducible refine Sees.same ?_) <;> simp [noIds, noIdsL, noIdsE, noIdsE_U, noIdsE_UU, noIdsE_IT] <;> fail) | (refine Live.sees ?_ ?_ <;> first | assumption | (simp [noIdsE_U, noIdsE_UU, noIdsE_IT] <;> fail)) | (refine Sees.obj ?_ ?_ ?_ <;> first | exact ⟨_, _, by assumption, rfl⟩ | (simp [U_len, UU_len, IT_len] <;> fail) | (simp [noIdsE_U, noIdsE_UU, noIdsE_IT] <;> fail) | (simp [U, UU, upd, neS] <;> fail) | (simp [U, UU, upd, neS, *] <;> fail)) | refine Sees.agg ?_ | refine Sees.tup ?_ | refine And.intro ?_ ?_ | simp only [SeesL])
/-- A row without a key: a new row. -/
theorem cWithoutK (l : List Int) (v : Int) (hl : l.length ≤ 1000000) (H : AH) (n : Nat) :
    HCalls Try.prog 42 [.lst 1 (U l), .sc (.int .u64 v)] H n fun r H' n' => Live 35 1 H' (U (without l v)) r ∧ (∀ id z o m, r = .sl id z o m → n ≤ id ∧ id < n') ∧ Keeps H n H' n' := by
  refine HCalls.shrink (R := fun r H' n' => Keeps H n H' n' ∧ ((without l v = [] ∧ r = .sc (.slice none 0 0)) ∨ ∃ id es, n ≤ id ∧ id < n' ∧ r = .sl id 1 0 (without l v).length ∧ H' id = some (.obj 35 1 (U (without l v) ++ es) false))) ?_ ?_
  · refine HCalls.walk Try.func42 rfl rfl Try.ntmps42 Try.results42 (by simp) ?_; simp (maxSteps := 400000) (dsimp := false) only [axs, AThen, ABlock, dstsOk, AStep, callsF, AWant, aop, AS.ev, AS.put, upd, AS.bound, abin, aint, aload, astore, cellsAt, AV.cells, alen, elems, AV.int?, FPost, aresL, ares1, pack, afill, splice, Value.oneCell', Nat.reduceLT, Nat.reduceLeDiff, Nat.reduceEqDiff, Nat.reduceAdd, Nat.reduceMul, Nat.reduceSub, Nat.reduceBEq, Int.reduceLE, Int.reduceLT, Int.reduceToNat, Int.reduceNeg, Int.reduceEq, axt, ftK, ft3, pickP, AScope, AAll, pickQ, ftQ, inHeap, SL, tys]
    refine ACallK.heap _ rfl (cClone l hl _ _) ?_
    rintro r H' n' (⟨rfl, rfl, rfl, rfl⟩ | ⟨rfl, rfl, rfl⟩)
    · simp (maxSteps := 400000) (dsimp := false) only [axs, AThen, ABlock, dstsOk, AStep, callsF, AWant, aop, AS.ev, AS.put, upd, AS.bound, abin, aint, aload, astore, cellsAt, AV.cells, alen, elems, AV.int?, FPost, aresL, ares1, pack, afill, splice, Value.oneCell', Nat.reduceLT, Nat.reduceLeDiff, Nat.reduceEqDiff, Nat.reduceAdd, Nat.reduceMul, Nat.reduceSub, Nat.reduceBEq, Int.reduceLE, Int.reduceLT, Int.reduceToNat, Int.reduceNeg, Int.reduceEq, axt, ftK, ft3, pickP, AScope, AAll, pickQ, ftQ, inHeap, SL, tys]
      refine ACallK.heap _ rfl (cDeleteNil _ _ _) ?_; rintro r' H' n' ⟨rfl, eH, en⟩; obtain rfl := eH.symm; obtain rfl := en.symm; clear eH en; simp (maxSteps := 400000) (dsimp := false) only [axs, AThen, ABlock, dstsOk, AStep, callsF, AWant, aop, AS.ev, AS.put, upd, AS.bound, abin, aint, aload, astore, cellsAt, AV.cells, alen, elems, AV.int?, FPost, aresL, ares1, pack, afill, splice, Value.oneCell', Nat.reduceLT, Nat.reduceLeDiff, Nat.reduceEqDiff, Nat.reduceAdd, Nat.reduceMul, Nat.reduceSub, Nat.reduceBEq, Int.reduceLE, Int.reduceLT, Int.reduceToNat, Int.reduceNeg, Int.reduceEq, axt, ftK, ft3, pickP, AScope, AAll, pickQ, ftQ, inHeap, SL, tys]
      exact ⟨_, rfl, (Keeps.refl _ _).upd, .inl ⟨rfl, rfl⟩⟩
    · simp (maxSteps := 400000) (dsimp := false) only [axs, AThen, ABlock, dstsOk, AStep, callsF, AWant, aop, AS.ev, AS.put, upd, AS.bound, abin, aint, aload, astore, cellsAt, AV.cells, alen, elems, AV.int?, FPost, aresL, ares1, pack, afill, splice, Value.oneCell', Nat.reduceLT, Nat.reduceLeDiff, Nat.reduceEqDiff, Nat.reduceAdd, Nat.reduceMul, Nat.reduceSub, Nat.reduceBEq, Int.reduceLE, Int.reduceLT, Int.reduceToNat, Int.reduceNeg, Int.reduceEq, axt, ftK, ft3, pickP, AScope, AAll, pickQ, ftQ, inHeap, SL, tys]
      refine ACallK.heap _ rfl (cDeleteFunc l v hl _ _ (n + 1 + 1) n 35 35 (by omega) (upd_same _ _ _) ?_) ?_
      · simp [Al.upd]; intro h; omega
      rintro r H' n' ⟨es, rfl, rfl, rfl⟩
      simp (maxSteps := 400000) (dsimp := false) only [axs, AThen, ABlock, dstsOk, AStep, callsF, AWant, aop, AS.ev, AS.put, upd, AS.bound, abin, aint, aload, astore, cellsAt, AV.cells, alen, elems, AV.int?, FPost, aresL, ares1, pack, afill, splice, Value.oneCell', Nat.reduceLT, Nat.reduceLeDiff, Nat.reduceEqDiff, Nat.reduceAdd, Nat.reduceMul, Nat.reduceSub, Nat.reduceBEq, Int.reduceLE, Int.reduceLT, Int.reduceToNat, Int.reduceNeg, Int.reduceEq, axt, ftK, ft3, pickP, AScope, AAll, pickQ, ftQ, inHeap, SL, tys]
      refine ⟨_, rfl, ⟨by show n ≤ n + 1 + 1 + 1; omega, fun j hj => ?_⟩, .inr ⟨n + 1 + 1, es, by omega, by show n + 1 + 1 < n + 1 + 1 + 1; omega, rfl, if_pos rfl⟩⟩
      rw [upd_ne _ _ (by omega), upd_ne _ _ (by omega), upd_ne _ _ (by omega), upd_ne _ _ (by omega), upd_ne _ _ (by omega)]
  · rintro r H' n' ⟨kp, ⟨h1, rfl⟩ | ⟨id, es, h1, h2, rfl, h3⟩⟩
    · rw [h1]
      exact .inl ⟨Live.nil, (fun id z o m e => (nomatch e)), kp⟩
    · refine .inr ⟨id, _, _, _, (U (without l v)).length, h3, Live.mk ((upd_same _ _ _).trans (by rw [List.take_left])) (by rw [U_len]), (fun i z o m e => by cases e; exact ⟨h1, h2⟩), kp.1, fun j hj => (upd_ne _ _ (by omega)).trans (kp.2 j hj)⟩
theorem cBehindQ (s : LS) (k : Int) (hq : s.Q.length ≤ 100000) : PCalls Try.prog 44 [SL s, .sc (.int .u64 k)] (SL ⟨s.C, s.S, lastQ s.Q k⟩) := by
  obtain ⟨C, S, Q⟩ := s
  simp only at hq
  have hwl := without_len Q k
  unfold lastQ
  simp only
  refine PCalls.intro2 Try.func44 rfl rfl Try.ntmps44 Try.results44 (by simp) fun n => ?_; simp (maxSteps := 400000) (dsimp := false) only [axs, AThen, ABlock, dstsOk, AStep, callsF, AWant, aop, AS.ev, AS.put, upd, AS.bound, abin, aint, aload, astore, cellsAt, AV.cells, alen, elems, AV.int?, FPost, aresL, ares1, pack, afill, splice, Value.oneCell', Nat.reduceLT, Nat.reduceLeDiff, Nat.reduceEqDiff, Nat.reduceAdd, Nat.reduceMul, Nat.reduceSub, Nat.reduceBEq, Int.reduceLE, Int.reduceLT, Int.reduceToNat, Int.reduceNeg, Int.reduceEq, axt, ftK, ft3, pickP, AScope, AAll, pickQ, ftQ, inHeap, SL, tys]
  refine ACallK.heap _ rfl (cWithoutK Q k (by omega) _ _) ?_
  rintro r H1 n1 ⟨lr, hir, kp⟩
  have kp : Keeps _ (n + 1 + 1) H1 n1 := kp
  have lr : Live 35 1 H1 (U (without Q k)) r := lr
  have hir : ∀ id z o m, r = .sl id z o m → n + 1 + 1 ≤ id ∧ id < n1 := hir
  have hn1 := kp.1
  have e1 := (kp.2 (n + 1) (by omega)).trans (upd_same _ _ _)
  have e0 := (kp.2 n (by omega)).trans ((upd_ne _ _ (by omega)).trans (upd_same _ _ _))
  clear kp
  generalize without Q k = q at *
  have b1 : (q.length + 1) * 8 ≤ 140737488355328 := by omega
  have b2 : q.length + 1 ≤ 1099511627776 := by omega
  have hne : (¬ n = n + 1 ∧ ¬ n + 1 = n) ∧ (¬ n = n1 ∧ ¬ n1 = n ∧ ¬ n + 1 = n1 ∧ ¬ n1 = n + 1) ∧ (¬ n = n1 + 1 ∧ ¬ n1 + 1 = n ∧ ¬ n + 1 = n1 + 1 ∧ ¬ n1 + 1 = n + 1) := by omega
  have hsn : U (q ++ [k]) = U q ++ [[.sc (.int .u64 k)]] := U_snoc q k
  have fin : ∀ (H2 : AH) (v : AV), Live 35 1 H2 (U (q ++ [k])) v → Sees H2 true (.agg [.sc (.int .i64 C), .lst 2 (IT S), v]) (.agg [.sc (.int .i64 C), .lst 2 (IT S), .lst 1 (U (q ++ [k]))]) := fun H2 v lv => Sees.agg (by simp only [SeesL]; exact ⟨Sees.sc, Sees.same (by simp [noIds, noIdsE_IT]), lv.sees (noIdsE_U _), trivial⟩)
  rcases lr with ⟨h1, h2⟩ | ⟨id, h1, h2⟩
  · obtain rfl : q = [] := by simpa [U] using h1
    subst h2
    simp (maxSteps := 400000) (dsimp := false) only [e0, e1, hne, axs, AThen, ABlock, dstsOk, AStep, callsF, AWant, aop, AS.ev, AS.put, upd, AS.bound, abin, aint, aload, astore, cellsAt, AV.cells, alen, elems, AV.int?, FPost, aresL, ares1, pack, afill, splice, Value.oneCell', Nat.reduceLT, Nat.reduceLeDiff, Nat.reduceEqDiff, Nat.reduceAdd, Nat.reduceMul, Nat.reduceSub, Nat.reduceBEq, Int.reduceLE, Int.reduceLT, Int.reduceToNat, Int.reduceNeg, Int.reduceEq, axt, ftK, ft3, pickP, AScope, AAll, pickQ, ftQ, inHeap, SL, tys]
    exact ⟨_, rfl, fin _ _ (Live.mk ((upd_ne _ _ (by omega)).trans ((upd_ne _ _ (by omega)).trans (upd_same _ _ _))) rfl)⟩
  · have hid := hir _ _ _ _ h1
    rw [U_len] at h1
    subst h1
    have hne2 : ¬ id = n1 ∧ ¬ n1 = id ∧ ¬ id = n1 + 1 ∧ ¬ n1 + 1 = id ∧ ¬ id = n ∧ ¬ n = id ∧ ¬ id = n + 1 ∧ ¬ n + 1 = id := by omega
    simp (maxSteps := 400000) (dsimp := false) only [e0, e1, hne, h2, b1, b2, U_len, hne2, axs, AThen, ABlock, dstsOk, AStep, callsF, AWant, aop, AS.ev, AS.put, upd, AS.bound, abin, aint, aload, astore, cellsAt, AV.cells, alen, elems, AV.int?, FPost, aresL, ares1, pack, afill, splice, Value.oneCell', Nat.reduceLT, Nat.reduceLeDiff, Nat.reduceEqDiff, Nat.reduceAdd, Nat.reduceMul, Nat.reduceSub, Nat.reduceBEq, Int.reduceLE, Int.reduceLT, Int.reduceToNat, Int.reduceNeg, Int.reduceEq, axt, ftK, ft3, pickP, AScope, AAll, pickQ, ftQ, inHeap, SL, tys]
    refine ⟨_, rfl, fin _ _ ?_⟩
    rw [hsn]
    exact Live.mk ((upd_ne _ _ (by omega)).trans ((upd_ne _ _ (by omega)).trans (upd_same _ _ _))) (by simp [U_len])
theorem cStack (s : LS) (k kd : Int) (hl : s.S.length ≤ 1000000) : PCalls Try.prog 41 [SL s, .sc (.int .u64 k), .sc (.int .i64 kd)] (SL ⟨s.C, (k, kd) :: remK s.S k, s.Q⟩) := by
  have hi := idxK_lt s.S k
  have hrl : (remK s.S k).length ≤ s.S.length := takeP_len _ _
  have ca := cAtP s k hl
  have ct := cTake s (idxK s.S k) hi.1 hl
  refine PCalls.intro2 Try.func41 rfl rfl Try.ntmps41 Try.results41 (by simp) fun n => ?_; simp (maxSteps := 400000) (dsimp := false) only [axs, AThen, ABlock, dstsOk, AStep, callsF, AWant, aop, AS.ev, AS.put, upd, AS.bound, abin, aint, aload, astore, cellsAt, AV.cells, alen, elems, AV.int?, FPost, aresL, ares1, pack, afill, splice, Value.oneCell', Nat.reduceLT, Nat.reduceLeDiff, Nat.reduceEqDiff, Nat.reduceAdd, Nat.reduceMul, Nat.reduceSub, Nat.reduceBEq, Int.reduceLE, Int.reduceLT, Int.reduceToNat, Int.reduceNeg, Int.reduceEq, axt, ftK, ft3, pickP, AScope, AAll, pickQ, ftQ, inHeap, SL, tys]
  refine ADraw.planR [6] [(0, true), (1, true), (2, true), (3, true), (4, true), (5, true), (6, true), (7, true)] [(0, false), (0, false), (0, false), (0, false), (0, false), (0, false), (0, true), (0, false)] mixed (by kernel_rfl) (by kernel_rfl) ?_
  simp (maxSteps := 400000) (dsimp := false) only [axs, AThen, ABlock, dstsOk, AStep, callsF, AWant, aop, AS.ev, AS.put, upd, AS.bound, abin, aint, aload, astore, cellsAt, AV.cells, alen, elems, AV.int?, FPost, aresL, ares1, pack, afill, splice, Value.oneCell', Nat.reduceLT, Nat.reduceLeDiff, Nat.reduceEqDiff, Nat.reduceAdd, Nat.reduceMul, Nat.reduceSub, Nat.reduceBEq, Int.reduceLE, Int.reduceLT, Int.reduceToNat, Int.reduceNeg, Int.reduceEq, axt, ftK, ft3, pickP, AScope, AAll, pickQ, ftQ, inHeap, SL, tys]
  refine ACallP.pure rfl (ca) ?_; simp (maxSteps := 400000) (dsimp := false) only [axs, AThen, ABlock, dstsOk, AStep, callsF, AWant, aop, AS.ev, AS.put, upd, AS.bound, abin, aint, aload, astore, cellsAt, AV.cells, alen, elems, AV.int?, FPost, aresL, ares1, pack, afill, splice, Value.oneCell', Nat.reduceLT, Nat.reduceLeDiff, Nat.reduceEqDiff, Nat.reduceAdd, Nat.reduceMul, Nat.reduceSub, Nat.reduceBEq, Int.reduceLE, Int.reduceLT, Int.reduceToNat, Int.reduceNeg, Int.reduceEq, axt, ftK, ft3, pickP, AScope, AAll, pickQ, ftQ, inHeap, SL, tys]
  refine ACallP.pure rfl (ct) ?_; simp (maxSteps := 400000) (dsimp := false) only [axs, AThen, ABlock, dstsOk, AStep, callsF, AWant, aop, AS.ev, AS.put, upd, AS.bound, abin, aint, aload, astore, cellsAt, AV.cells, alen, elems, AV.int?, FPost, aresL, ares1, pack, afill, splice, Value.oneCell', Nat.reduceLT, Nat.reduceLeDiff, Nat.reduceEqDiff, Nat.reduceAdd, Nat.reduceMul, Nat.reduceSub, Nat.reduceBEq, Int.reduceLE, Int.reduceLT, Int.reduceToNat, Int.reduceNeg, Int.reduceEq, axt, ftK, ft3, pickP, AScope, AAll, pickQ, ftQ, inHeap, SL, tys]
  refine ASoloK.heap rfl rfl (cChange ⟨s.C, remK s.S k, s.Q⟩ ((k, kd) :: remK s.S k) (by show (remK s.S k).length ≤ _; omega) (cStackF (remK s.S k) k kd (by omega) (ka := n + 1) (kb := n + 1 + 1) ((upd_ne _ _ (by omega)).trans ((upd_ne _ _ (by omega)).trans (upd_same _ _ _))) ((upd_ne _ _ (by omega)).trans (upd_same _ _ _)) (by show n + 1 < n + 1 + 1 + 1 + 1; omega) (by show n + 1 + 1 < n + 1 + 1 + 1 + 1; omega))) ?_; simp (maxSteps := 400000) (dsimp := false) only [axs, AThen, ABlock, dstsOk, AStep, callsF, AWant, aop, AS.ev, AS.put, upd, AS.bound, abin, aint, aload, astore, cellsAt, AV.cells, alen, elems, AV.int?, FPost, aresL, ares1, pack, afill, splice, Value.oneCell', Nat.reduceLT, Nat.reduceLeDiff, Nat.reduceEqDiff, Nat.reduceAdd, Nat.reduceMul, Nat.reduceSub, Nat.reduceBEq, Int.reduceLE, Int.reduceLT, Int.reduceToNat, Int.reduceNeg, Int.reduceEq, axt, ftK, ft3, pickP, AScope, AAll, pickQ, ftQ, inHeap, SL, tys]
  refine ⟨_, rfl, ?_⟩; simp (maxSteps := 400000) (dsimp := false) only [SeesL, axs, AThen, ABlock, dstsOk, AStep, callsF, AWant, aop, AS.ev, AS.put, upd, AS.bound, abin, aint, aload, astore, cellsAt, AV.cells, alen, elems, AV.int?, FPost, aresL, ares1, pack, afill, splice, Value.oneCell', Nat.reduceLT, Nat.reduceLeDiff, Nat.reduceEqDiff, Nat.reduceAdd, Nat.reduceMul, Nat.reduceSub, Nat.reduceBEq, Int.reduceLE, Int.reduceLT, Int.reduceToNat, Int.reduceNeg, Int.reduceEq, axt, ftK, ft3, pickP, AScope, AAll, pickQ, ftQ, inHeap, SL, tys] <;> repeat' (first | exact True.intro | exact Sees.sc | exact Sees.none | ((with_reducible refine Sees.same ?_) <;> simp [noIds, noIdsL, noIdsE, noIdsE_U, noIdsE_UU, noIdsE_IT] <;> fail) | (refine Live.sees ?_ ?_ <;> first | assumption | (simp [noIdsE_U, noIdsE_UU, noIdsE_IT] <;> fail)) | (refine Sees.obj ?_ ?_ ?_ <;> first | exact ⟨_, _, by assumption, rfl⟩ | (simp [U_len, UU_len, IT_len] <;> fail) | (simp [noIdsE_U, noIdsE_UU, noIdsE_IT] <;> fail) | (simp [U, UU, upd, neS] <;> fail) | (simp [U, UU, upd, neS, *] <;> fail)) | refine Sees.agg ?_ | refine Sees.tup ?_ | refine And.intro ?_ ?_ | simp only [SeesL])
end Go.Al
