/- Low inter-reference recency: the reference stacks, lets a key be last, forgets, tells its keys. Conditions: the rows are short. -/
import Derived.Test.YthglbfgmohgfdaaKr2
set_option linter.unusedVariables false
set_option linter.unusedSimpArgs false
set_option maxRecDepth 20000
set_option maxHeartbeats 3200000
-- axs, AThen, ABlock, dstsOk, AStep, callsF, AWant, aop, AS.ev, AS.put, upd, AS.bound, abin, aint, aload, astore, cellsAt, AV.cells, alen, elems, AV.int?, FPost, aresL, ares1, pack, afill, splice, Value.oneCell', Nat.reduceLT, Nat.reduceLeDiff, Nat.reduceEqDiff, Nat.reduceAdd, Nat.reduceMul, Nat.reduceSub, Nat.reduceBEq, Int.reduceLE, Int.reduceLT, Int.reduceToNat, Int.reduceNeg, Int.reduceEq, axt, ftK, ft3, pickP, AScope, AAll, pickQ, ftQ, inHeap, SL, tys: SL
-- NOIDS: noIdsE_IT
-- LENS: IT_len
namespace Go.Al
open Go.Proofs
theorem rStack (s : LS) (k kd : Int) (hl : s.S.length ≤ 1000000) : PCalls Try.prog 52 [SL s, .sc (.int .u64 k), .sc (.int .i64 kd)] (SL (stkL s k kd)) := by
  obtain ⟨C, S, Q⟩ := s
  simp only at hl
  show PCalls _ _ _ (SL ⟨C, (k, kd) :: remK S k, Q⟩)
  have hix := idxK_lt S k
  have hrl := remK_len S k
  have cp := rPlace S k hl
  have b1 : (1 + (remK S k).length) * 16 ≤ 140737488355328 := by omega
  have b2 : 1 + (remK S k).length ≤ 1099511627776 := by omega
  by_cases hi : idxK S k ≥ 0
  · obtain ⟨i, hii⟩ : ∃ i : Nat, idxK S k = i := ⟨(idxK S k).toNat, by omega⟩
    have hr : remK S k = S.eraseIdx i := by
      unfold remK takeP
      rw [hii, if_neg (by omega)]; rfl
    have cc := rCut S i (by omega) hl
    rw [hii] at cp hi
    rw [← hr] at cc
    refine PCalls.intro2 Try.func52 rfl rfl Try.ntmps52 Try.results52 (by simp) fun n => ?_; simp (maxSteps := 400000) (dsimp := false) only [axs, AThen, ABlock, dstsOk, AStep, callsF, AWant, aop, AS.ev, AS.put, upd, AS.bound, abin, aint, aload, astore, cellsAt, AV.cells, alen, elems, AV.int?, FPost, aresL, ares1, pack, afill, splice, Value.oneCell', Nat.reduceLT, Nat.reduceLeDiff, Nat.reduceEqDiff, Nat.reduceAdd, Nat.reduceMul, Nat.reduceSub, Nat.reduceBEq, Int.reduceLE, Int.reduceLT, Int.reduceToNat, Int.reduceNeg, Int.reduceEq, axt, ftK, ft3, pickP, AScope, AAll, pickQ, ftQ, inHeap, SL, tys]
    refine ACallK.strict rfl (cp) (by simp only [SeesL, hi, axs, axt, AS.ev, AS.put, upd, inHeap, Nat.reduceLT, Nat.reduceEqDiff, Nat.reduceAdd, Nat.reduceBEq, SL]; repeat' (first | exact True.intro | exact Sees.sc | exact Sees.none | ((with_reducible refine Sees.same ?_) <;> simp [noIds, noIdsL, noIdsE, noIdsE_U, noIdsE_UU, noIdsE_IT] <;> fail) | (refine Live.sees ?_ ?_ <;> first | assumption | (simp [noIdsE_U, noIdsE_UU, noIdsE_IT] <;> fail)) | (refine Sees.obj ?_ ?_ ?_ <;> first | exact ⟨_, _, by assumption, rfl⟩ | (simp [U_len, UU_len, IT_len] <;> fail) | (simp [noIdsE_U, noIdsE_UU, noIdsE_IT] <;> fail) | (simp [U, UU, upd] <;> fail) | (simp [U, UU, upd, neS, *] <;> fail)) | (refine Sees.of_seen 3 ?_ <;> simp [seen, upd, noIdsE, noIdsL, noIds, U, UU, Nat.add_assoc] <;> fail) | refine Sees.agg ?_ | refine And.intro ?_ ?_ | simp only [SeesL])) ?_; simp (maxSteps := 400000) (dsimp := false) only [hi, axs, AThen, ABlock, dstsOk, AStep, callsF, AWant, aop, AS.ev, AS.put, upd, AS.bound, abin, aint, aload, astore, cellsAt, AV.cells, alen, elems, AV.int?, FPost, aresL, ares1, pack, afill, splice, Value.oneCell', Nat.reduceLT, Nat.reduceLeDiff, Nat.reduceEqDiff, Nat.reduceAdd, Nat.reduceMul, Nat.reduceSub, Nat.reduceBEq, Int.reduceLE, Int.reduceLT, Int.reduceToNat, Int.reduceNeg, Int.reduceEq, axt, ftK, ft3, pickP, AScope, AAll, pickQ, ftQ, inHeap, SL, tys]
    refine ACallK.strict rfl (cc) (by simp only [SeesL, IT_len, b1, b2, axs, axt, AS.ev, AS.put, upd, inHeap, Nat.reduceLT, Nat.reduceEqDiff, Nat.reduceAdd, Nat.reduceBEq, SL]; repeat' (first | exact True.intro | exact Sees.sc | exact Sees.none | ((with_reducible refine Sees.same ?_) <;> simp [noIds, noIdsL, noIdsE, noIdsE_U, noIdsE_UU, noIdsE_IT] <;> fail) | (refine Live.sees ?_ ?_ <;> first | assumption | (simp [noIdsE_U, noIdsE_UU, noIdsE_IT] <;> fail)) | (refine Sees.obj ?_ ?_ ?_ <;> first | exact ⟨_, _, by assumption, rfl⟩ | (simp [U_len, UU_len, IT_len] <;> fail) | (simp [noIdsE_U, noIdsE_UU, noIdsE_IT] <;> fail) | (simp [U, UU, upd] <;> fail) | (simp [U, UU, upd, neS, *] <;> fail)) | (refine Sees.of_seen 3 ?_ <;> simp [seen, upd, noIdsE, noIdsL, noIds, U, UU, Nat.add_assoc] <;> fail) | refine Sees.agg ?_ | refine And.intro ?_ ?_ | simp only [SeesL])) ?_; simp (maxSteps := 400000) (dsimp := false) only [IT_len, b1, b2, axs, AThen, ABlock, dstsOk, AStep, callsF, AWant, aop, AS.ev, AS.put, upd, AS.bound, abin, aint, aload, astore, cellsAt, AV.cells, alen, elems, AV.int?, FPost, aresL, ares1, pack, afill, splice, Value.oneCell', Nat.reduceLT, Nat.reduceLeDiff, Nat.reduceEqDiff, Nat.reduceAdd, Nat.reduceMul, Nat.reduceSub, Nat.reduceBEq, Int.reduceLE, Int.reduceLT, Int.reduceToNat, Int.reduceNeg, Int.reduceEq, axt, ftK, ft3, pickP, AScope, AAll, pickQ, ftQ, inHeap, SL, tys]
    exact ⟨_, rfl, Sees.agg (by simp only [SeesL]; exact ⟨Sees.sc, (Live.mk (te := 66) (es := IT ((k, kd) :: remK S k)) (m := 1 + (remK S k).length) ((upd_ne _ _ (by omega)).trans ((upd_ne _ _ (by omega)).trans (upd_same _ _ _))) (by rw [IT_len, List.length_cons]; omega)).sees (noIdsE_IT _), Sees.same (by simp [noIds, noIdsE_U]), trivial⟩)⟩
  · have hii : idxK S k = -1 := by omega
    have hr : remK S k = S := by
      unfold remK takeP
      rw [hii, if_pos (by omega)]
    rw [hii] at cp hi
    rw [hr] at b1 b2 ⊢
    refine PCalls.intro2 Try.func52 rfl rfl Try.ntmps52 Try.results52 (by simp) fun n => ?_; simp (maxSteps := 400000) (dsimp := false) only [axs, AThen, ABlock, dstsOk, AStep, callsF, AWant, aop, AS.ev, AS.put, upd, AS.bound, abin, aint, aload, astore, cellsAt, AV.cells, alen, elems, AV.int?, FPost, aresL, ares1, pack, afill, splice, Value.oneCell', Nat.reduceLT, Nat.reduceLeDiff, Nat.reduceEqDiff, Nat.reduceAdd, Nat.reduceMul, Nat.reduceSub, Nat.reduceBEq, Int.reduceLE, Int.reduceLT, Int.reduceToNat, Int.reduceNeg, Int.reduceEq, axt, ftK, ft3, pickP, AScope, AAll, pickQ, ftQ, inHeap, SL, tys]
    refine ACallK.strict rfl (cp) (by simp only [SeesL, hi, IT_len, b1, b2, axs, axt, AS.ev, AS.put, upd, inHeap, Nat.reduceLT, Nat.reduceEqDiff, Nat.reduceAdd, Nat.reduceBEq, SL]; repeat' (first | exact True.intro | exact Sees.sc | exact Sees.none | ((with_reducible refine Sees.same ?_) <;> simp [noIds, noIdsL, noIdsE, noIdsE_U, noIdsE_UU, noIdsE_IT] <;> fail) | (refine Live.sees ?_ ?_ <;> first | assumption | (simp [noIdsE_U, noIdsE_UU, noIdsE_IT] <;> fail)) | (refine Sees.obj ?_ ?_ ?_ <;> first | exact ⟨_, _, by assumption, rfl⟩ | (simp [U_len, UU_len, IT_len] <;> fail) | (simp [noIdsE_U, noIdsE_UU, noIdsE_IT] <;> fail) | (simp [U, UU, upd] <;> fail) | (simp [U, UU, upd, neS, *] <;> fail)) | (refine Sees.of_seen 3 ?_ <;> simp [seen, upd, noIdsE, noIdsL, noIds, U, UU, Nat.add_assoc] <;> fail) | refine Sees.agg ?_ | refine And.intro ?_ ?_ | simp only [SeesL])) ?_; simp (maxSteps := 400000) (dsimp := false) only [hi, IT_len, b1, b2, axs, AThen, ABlock, dstsOk, AStep, callsF, AWant, aop, AS.ev, AS.put, upd, AS.bound, abin, aint, aload, astore, cellsAt, AV.cells, alen, elems, AV.int?, FPost, aresL, ares1, pack, afill, splice, Value.oneCell', Nat.reduceLT, Nat.reduceLeDiff, Nat.reduceEqDiff, Nat.reduceAdd, Nat.reduceMul, Nat.reduceSub, Nat.reduceBEq, Int.reduceLE, Int.reduceLT, Int.reduceToNat, Int.reduceNeg, Int.reduceEq, axt, ftK, ft3, pickP, AScope, AAll, pickQ, ftQ, inHeap, SL, tys]
    exact ⟨_, rfl, Sees.agg (by simp only [SeesL]; exact ⟨Sees.sc, (Live.mk (te := 66) (es := IT ((k, kd) :: S)) (m := 1 + S.length) ((upd_ne _ _ (by omega)).trans ((upd_ne _ _ (by omega)).trans (upd_same _ _ _))) (by rw [IT_len, List.length_cons]; omega)).sees (noIdsE_IT _), Sees.same (by simp [noIds, noIdsE_U]), trivial⟩)⟩
/-- A row without a key: a new row. -/
theorem rWithoutH (l : List Int) (v : Int) (hl : l.length ≤ 1000000) (H : AH) (n : Nat) : HCalls Try.prog 54 [.lst 1 (U l), .sc (.int .u64 v)] H n fun r H' n' => Live 35 1 H' (U (without l v)) r ∧ (∀ id z o m, r = .sl id z o m → n ≤ id ∧ id < n') ∧ Keeps H n H' n' := by
  refine HCalls.walk Try.func54 rfl rfl Try.ntmps54 Try.results54 (by simp) ?_; simp (maxSteps := 400000) (dsimp := false) only [axs, AThen, ABlock, dstsOk, AStep, callsF, AWant, aop, AS.ev, AS.put, upd, AS.bound, abin, aint, aload, astore, cellsAt, AV.cells, alen, elems, AV.int?, FPost, aresL, ares1, pack, afill, splice, Value.oneCell', Nat.reduceLT, Nat.reduceLeDiff, Nat.reduceEqDiff, Nat.reduceAdd, Nat.reduceMul, Nat.reduceSub, Nat.reduceBEq, Int.reduceLE, Int.reduceLT, Int.reduceToNat, Int.reduceNeg, Int.reduceEq, axt, ftK, ft3, pickP, AScope, AAll, pickQ, ftQ, inHeap, SL, tys]
  refine ALoop.upto l.length (fun p s => s.t 0 = .lst 1 (U l) ∧ s.t 1 = .sc (.int .u64 v) ∧ s.t 6 = .sc (.int .i64 p) ∧ Live 35 1 s.H (U (without (l.take p) v)) (s.t 5) ∧ (∀ id z o m, s.t 5 = .sl id z o m → n ≤ id ∧ id < s.n) ∧ Keeps H n s.H s.n) ⟨rfl, rfl, rfl, Live.nil, (fun id z o m e => (nomatch e)), Keeps.refl _ _⟩ ?_
  rintro p s hp hb ⟨h0, h1, h6, hv, hid, kp⟩
  have hns := kp.1
  have hwl : (without (l.take p) v).length ≤ 1000000 := Nat.le_trans (without_len _ _) (by rw [List.length_take]; omega)
  rcases Nat.lt_or_ge p l.length with hlt | hge
  · obtain ⟨x, hx, hp0, hpl, hw, hT, hD⟩ := idx hlt (by omega)
    have hg := U_get hx
    by_cases e : x = v
    · simp (maxSteps := 400000) (dsimp := false) only [h0, h1, h6, hg, hp0, hpl, hw, U_len, e, axs, AThen, ABlock, dstsOk, AStep, callsF, AWant, aop, AS.ev, AS.put, upd, AS.bound, abin, aint, aload, astore, cellsAt, AV.cells, alen, elems, AV.int?, FPost, aresL, ares1, pack, afill, splice, Value.oneCell', Nat.reduceLT, Nat.reduceLeDiff, Nat.reduceEqDiff, Nat.reduceAdd, Nat.reduceMul, Nat.reduceSub, Nat.reduceBEq, Int.reduceLE, Int.reduceLT, Int.reduceToNat, Int.reduceNeg, Int.reduceEq, axt, ftK, ft3, pickP, AScope, AAll, pickQ, ftQ, inHeap, SL, tys]
      exact ⟨hlt, (by rw [hT, e]; simpa [without] using hv), hid, kp⟩
    · have hs : without (l.take (p + 1)) v = without (l.take p) v ++ [x] := by rw [hT]; simp [without, e]
      rw [hs, U_snoc]
      generalize without (l.take p) v = q at *
      rcases hv.cases hb with ⟨h7, h8⟩ | ⟨id, hlt2, hne, h7, h8⟩
      · have : q = [] := by simpa [U] using h7
        subst this
        simp (maxSteps := 400000) (dsimp := false) only [h0, h1, h6, hg, hp0, hpl, hw, U_len, e, h8, axs, AThen, ABlock, dstsOk, AStep, callsF, AWant, aop, AS.ev, AS.put, upd, AS.bound, abin, aint, aload, astore, cellsAt, AV.cells, alen, elems, AV.int?, FPost, aresL, ares1, pack, afill, splice, Value.oneCell', Nat.reduceLT, Nat.reduceLeDiff, Nat.reduceEqDiff, Nat.reduceAdd, Nat.reduceMul, Nat.reduceSub, Nat.reduceBEq, Int.reduceLE, Int.reduceLT, Int.reduceToNat, Int.reduceNeg, Int.reduceEq, axt, ftK, ft3, pickP, AScope, AAll, pickQ, ftQ, inHeap, SL, tys]
        refine ⟨hlt, Live.mk (if_pos rfl) rfl, (fun id z o m e => by cases e; omega), by omega, fun j hj => ?_⟩
        exact (upd_ne _ _ (by omega)).trans ((upd_ne _ _ (by omega)).trans (kp.2 j hj))
      · have b1 : (q.length + 1) * 8 ≤ 140737488355328 := by omega
        have b2 : q.length + 1 ≤ 1099511627776 := by omega
        have hi2 := hid _ _ _ _ h7
        rw [U_len] at h7
        simp (maxSteps := 400000) (dsimp := false) only [h0, h1, h6, hg, hp0, hpl, hw, U_len, e, h7, h8, hne, b1, b2, axs, AThen, ABlock, dstsOk, AStep, callsF, AWant, aop, AS.ev, AS.put, upd, AS.bound, abin, aint, aload, astore, cellsAt, AV.cells, alen, elems, AV.int?, FPost, aresL, ares1, pack, afill, splice, Value.oneCell', Nat.reduceLT, Nat.reduceLeDiff, Nat.reduceEqDiff, Nat.reduceAdd, Nat.reduceMul, Nat.reduceSub, Nat.reduceBEq, Int.reduceLE, Int.reduceLT, Int.reduceToNat, Int.reduceNeg, Int.reduceEq, axt, ftK, ft3, pickP, AScope, AAll, pickQ, ftQ, inHeap, SL, tys]
        refine ⟨hlt, Live.mk (if_pos rfl) (by simp [U_len]), (fun id z o m e => by cases e; omega), by omega, fun j hj => ?_⟩
        exact (upd_ne _ _ (by omega)).trans ((upd_ne _ _ (by omega)).trans ((upd_ne _ _ (by omega)).trans (kp.2 j hj)))
  · have hpl : ¬ (p : Int) < l.length := by omega
    rw [List.take_of_length_le hge] at hv
    simp (maxSteps := 400000) (dsimp := false) only [h0, h1, h6, hpl, U_len, axs, AThen, ABlock, dstsOk, AStep, callsF, AWant, aop, AS.ev, AS.put, upd, AS.bound, abin, aint, aload, astore, cellsAt, AV.cells, alen, elems, AV.int?, FPost, aresL, ares1, pack, afill, splice, Value.oneCell', Nat.reduceLT, Nat.reduceLeDiff, Nat.reduceEqDiff, Nat.reduceAdd, Nat.reduceMul, Nat.reduceSub, Nat.reduceBEq, Int.reduceLE, Int.reduceLT, Int.reduceToNat, Int.reduceNeg, Int.reduceEq, axt, ftK, ft3, pickP, AScope, AAll, pickQ, ftQ, inHeap, SL, tys]
    exact ⟨_, rfl, hv, hid, kp⟩
theorem rLast (s : LS) (k : Int) (hq : s.Q.length ≤ 100000) : PCalls Try.prog 53 [SL s, .sc (.int .u64 k)] (SL (behindL s k)) := by
  obtain ⟨C, S, Q⟩ := s
  simp only at hq
  show PCalls _ _ _ (SL ⟨C, S, lastQ Q k⟩)
  have hwl := without_len Q k
  unfold lastQ
  refine PCalls.intro2 Try.func53 rfl rfl Try.ntmps53 Try.results53 (by simp) fun n => ?_; simp (maxSteps := 400000) (dsimp := false) only [axs, AThen, ABlock, dstsOk, AStep, callsF, AWant, aop, AS.ev, AS.put, upd, AS.bound, abin, aint, aload, astore, cellsAt, AV.cells, alen, elems, AV.int?, FPost, aresL, ares1, pack, afill, splice, Value.oneCell', Nat.reduceLT, Nat.reduceLeDiff, Nat.reduceEqDiff, Nat.reduceAdd, Nat.reduceMul, Nat.reduceSub, Nat.reduceBEq, Int.reduceLE, Int.reduceLT, Int.reduceToNat, Int.reduceNeg, Int.reduceEq, axt, ftK, ft3, pickP, AScope, AAll, pickQ, ftQ, inHeap, SL, tys]
  refine ACallK.heap _ rfl (rWithoutH Q k (by omega) _ _) ?_
  rintro r H1 n1 ⟨lr, hir, kp⟩
  have kp : Keeps _ (n + 1 + 1) H1 n1 := kp
  have lr : Live 35 1 H1 (U (without Q k)) r := lr
  have hir : ∀ id z o m, r = .sl id z o m → n + 1 + 1 ≤ id ∧ id < n1 := hir
  have hn1 := kp.1
  have e1 := (kp.2 (n + 1) (by omega)).trans (upd_same _ _ _)
  have e0 := (kp.2 n (by omega)).trans ((upd_ne _ _ (by omega)).trans (upd_same _ _ _))
  clear kp
  generalize without Q k = q at *
  have b1 : (q.length + 1) * 8 ≤ 140737488355328 := by omega
  have b2 : q.length + 1 ≤ 1099511627776 := by omega
  have hne : (¬ n = n + 1 ∧ ¬ n + 1 = n) ∧ (¬ n = n1 ∧ ¬ n1 = n ∧ ¬ n + 1 = n1 ∧ ¬ n1 = n + 1) ∧ (¬ n = n1 + 1 ∧ ¬ n1 + 1 = n ∧ ¬ n + 1 = n1 + 1 ∧ ¬ n1 + 1 = n + 1) := by omega
  have hsn : U (q ++ [k]) = U q ++ [[.sc (.int .u64 k)]] := U_snoc q k
  have fin : ∀ (H2 : AH) (v : AV), Live 35 1 H2 (U (q ++ [k])) v → Sees H2 true (.agg [.sc (.int .i64 C), .lst 2 (IT S), v]) (.agg [.sc (.int .i64 C), .lst 2 (IT S), .lst 1 (U (q ++ [k]))]) := fun H2 v lv => Sees.agg (by simp only [SeesL]; exact ⟨Sees.sc, Sees.same (by simp [noIds, noIdsE_IT]), lv.sees (noIdsE_U _), trivial⟩)
  rcases lr with ⟨h1, h2⟩ | ⟨id, h1, h2⟩
  · obtain rfl : q = [] := by simpa [U] using h1
    subst h2
    simp (maxSteps := 400000) (dsimp := false) only [e0, e1, hne, axs, AThen, ABlock, dstsOk, AStep, callsF, AWant, aop, AS.ev, AS.put, upd, AS.bound, abin, aint, aload, astore, cellsAt, AV.cells, alen, elems, AV.int?, FPost, aresL, ares1, pack, afill, splice, Value.oneCell', Nat.reduceLT, Nat.reduceLeDiff, Nat.reduceEqDiff, Nat.reduceAdd, Nat.reduceMul, Nat.reduceSub, Nat.reduceBEq, Int.reduceLE, Int.reduceLT, Int.reduceToNat, Int.reduceNeg, Int.reduceEq, axt, ftK, ft3, pickP, AScope, AAll, pickQ, ftQ, inHeap, SL, tys]
    exact ⟨_, rfl, fin _ _ (Live.mk ((upd_ne _ _ (by omega)).trans ((upd_ne _ _ (by omega)).trans (upd_same _ _ _))) rfl)⟩
  · have hid := hir _ _ _ _ h1
    rw [U_len] at h1
    subst h1
    have hne2 : ¬ id = n1 ∧ ¬ n1 = id ∧ ¬ id = n1 + 1 ∧ ¬ n1 + 1 = id ∧ ¬ id = n ∧ ¬ n = id ∧ ¬ id = n + 1 ∧ ¬ n + 1 = id := by omega
    simp (maxSteps := 400000) (dsimp := false) only [e0, e1, hne, h2, b1, b2, U_len, hne2, axs, AThen, ABlock, dstsOk, AStep, callsF, AWant, aop, AS.ev, AS.put, upd, AS.bound, abin, aint, aload, astore, cellsAt, AV.cells, alen, elems, AV.int?, FPost, aresL, ares1, pack, afill, splice, Value.oneCell', Nat.reduceLT, Nat.reduceLeDiff, Nat.reduceEqDiff, Nat.reduceAdd, Nat.reduceMul, Nat.reduceSub, Nat.reduceBEq, Int.reduceLE, Int.reduceLT, Int.reduceToNat, Int.reduceNeg, Int.reduceEq, axt, ftK, ft3, pickP, AScope, AAll, pickQ, ftQ, inHeap, SL, tys]
    refine ⟨_, rfl, fin _ _ ?_⟩
    rw [hsn]
    exact Live.mk ((upd_ne _ _ (by omega)).trans ((upd_ne _ _ (by omega)).trans (upd_same _ _ _))) (by simp [U_len])
theorem rForget (s : LS) (hl : s.S.length ≤ 1000) (c0 : 0 ≤ s.C) : PCalls Try.prog 57 [SL s] (SL (forgetL s)) := by
  refine PCalls.intro2 Try.func57 rfl rfl Try.ntmps57 Try.results57 (by simp) fun n => ?_; simp (maxSteps := 400000) (dsimp := false) only [axs, AThen, ABlock, dstsOk, AStep, callsF, AWant, aop, AS.ev, AS.put, upd, AS.bound, abin, aint, aload, astore, cellsAt, AV.cells, alen, elems, AV.int?, FPost, aresL, ares1, pack, afill, splice, Value.oneCell', Nat.reduceLT, Nat.reduceLeDiff, Nat.reduceEqDiff, Nat.reduceAdd, Nat.reduceMul, Nat.reduceSub, Nat.reduceBEq, Int.reduceLE, Int.reduceLT, Int.reduceToNat, Int.reduceNeg, Int.reduceEq, axt, ftK, ft3, pickP, AScope, AAll, pickQ, ftQ, inHeap, SL, tys]
  refine ALoop.intro (fun k t => t.t 1 = .ptr n 3 0 0 ∧ t.t 2 = .ptr (n + 1) 3 0 0 ∧ t.H (n + 1) = some (.obj 31 3 [[.sc (.int .i64 0), .sc (.slice none 0 0), .sc (.slice none 0 0)]] false) ∧ ∃ x : LS, t.H n = some (.obj 31 3 [[.sc (.int .i64 x.C), .lst 2 (IT x.S), .lst 1 (U x.Q)]] false) ∧ forgot k x = forgetL s ∧ many 0 x.S ≤ k ∧ x.C = s.C ∧ x.S.length ≤ 1000) (many 0 s.S) ⟨rfl, rfl, upd_same _ _ _, s, (upd_ne _ _ (by omega)).trans (upd_same _ _ _), rfl, Nat.le_refl _, rfl, hl⟩ ?_
  rintro k t ⟨h1, h2, hH1, x, hH, hx, hmk, hC, hxl⟩
  have hne : ¬ n = n + 1 ∧ ¬ n + 1 = n := by omega
  have cm := rMany x.S 0 (by omega)
  have cl := rLowest x.S 0 (by omega)
  have hul := upTo_le (k := 0) x.S
  have htl := takeP_len x.S ((upTo 0 x.S : Int) - 1)
  simp (maxSteps := 400000) (dsimp := false) only [h1, h2, axs, AThen, ABlock, dstsOk, AStep, callsF, AWant, aop, AS.ev, AS.put, upd, AS.bound, abin, aint, aload, astore, cellsAt, AV.cells, alen, elems, AV.int?, FPost, aresL, ares1, pack, afill, splice, Value.oneCell', Nat.reduceLT, Nat.reduceLeDiff, Nat.reduceEqDiff, Nat.reduceAdd, Nat.reduceMul, Nat.reduceSub, Nat.reduceBEq, Int.reduceLE, Int.reduceLT, Int.reduceToNat, Int.reduceNeg, Int.reduceEq, axt, ftK, ft3, pickP, AScope, AAll, pickQ, ftQ, inHeap, SL, tys]
  refine ADraw.planR [] [(0, true), (1, true), (2, true), (3, true), (4, true), (5, true)] [(0, false), (0, false), (0, false), (0, false), (0, false), (0, false)] mixed (by kernel_rfl) (by kernel_rfl) ?_
  simp (maxSteps := 400000) (dsimp := false) only [h1, h2, hH, axs, AThen, ABlock, dstsOk, AStep, callsF, AWant, aop, AS.ev, AS.put, upd, AS.bound, abin, aint, aload, astore, cellsAt, AV.cells, alen, elems, AV.int?, FPost, aresL, ares1, pack, afill, splice, Value.oneCell', Nat.reduceLT, Nat.reduceLeDiff, Nat.reduceEqDiff, Nat.reduceAdd, Nat.reduceMul, Nat.reduceSub, Nat.reduceBEq, Int.reduceLE, Int.reduceLT, Int.reduceToNat, Int.reduceNeg, Int.reduceEq, axt, ftK, ft3, pickP, AScope, AAll, pickQ, ftQ, inHeap, SL, tys]
  by_cases hc : (many 0 x.S : Int) > x.C
  · obtain ⟨m, rfl⟩ : ∃ m, k = m + 1 := ⟨k - 1, by omega⟩
    have hx2 : forgot m ⟨x.C, takeP x.S ((upTo 0 x.S : Int) - 1), x.Q⟩ = forgetL s := by rw [← hx]; exact (if_pos hc).symm
    obtain ⟨n3, A, y, B, d1, d2, d3⟩ := take_last (k := 0) (S := x.S) (by omega)
    obtain ⟨i, hi⟩ : ∃ i : Nat, upTo 0 x.S = i + 1 := by
      obtain ⟨A, y, B, g1, g2, g3, g4⟩ := last_of (k := 0) (S := x.S) (by omega)
      exact ⟨A.length, g2⟩
    have ei : (upTo 0 x.S : Int) - 1 = (i : Int) := by omega
    have et : takeP x.S ((upTo 0 x.S : Int) - 1) = x.S.eraseIdx i := by
      rw [ei]; unfold takeP; rw [if_neg (by omega)]; rfl
    rw [et] at n3 hx2 htl
    rw [ei] at cl
    have ct := rCut x.S i (by omega) (by omega)
    refine ACallP.pure rfl (cm) ?_; simp (maxSteps := 400000) (dsimp := false) only [h1, h2, hH, hc, axs, AThen, ABlock, dstsOk, AStep, callsF, AWant, aop, AS.ev, AS.put, upd, AS.bound, abin, aint, aload, astore, cellsAt, AV.cells, alen, elems, AV.int?, FPost, aresL, ares1, pack, afill, splice, Value.oneCell', Nat.reduceLT, Nat.reduceLeDiff, Nat.reduceEqDiff, Nat.reduceAdd, Nat.reduceMul, Nat.reduceSub, Nat.reduceBEq, Int.reduceLE, Int.reduceLT, Int.reduceToNat, Int.reduceNeg, Int.reduceEq, axt, ftK, ft3, pickP, AScope, AAll, pickQ, ftQ, inHeap, SL, tys]
    refine ADraw.planR [] [(0, true), (1, true), (2, true), (3, true), (4, true), (5, true), (6, true), (7, true)] [(0, false), (0, false), (0, false), (0, false), (0, false), (0, false), (0, false), (0, false)] mixed (by kernel_rfl) (by kernel_rfl) ?_
    simp (maxSteps := 400000) (dsimp := false) only [h1, h2, hH, axs, AThen, ABlock, dstsOk, AStep, callsF, AWant, aop, AS.ev, AS.put, upd, AS.bound, abin, aint, aload, astore, cellsAt, AV.cells, alen, elems, AV.int?, FPost, aresL, ares1, pack, afill, splice, Value.oneCell', Nat.reduceLT, Nat.reduceLeDiff, Nat.reduceEqDiff, Nat.reduceAdd, Nat.reduceMul, Nat.reduceSub, Nat.reduceBEq, Int.reduceLE, Int.reduceLT, Int.reduceToNat, Int.reduceNeg, Int.reduceEq, axt, ftK, ft3, pickP, AScope, AAll, pickQ, ftQ, inHeap, SL, tys]
    refine ACallP.pure rfl (cl) ?_; simp (maxSteps := 400000) (dsimp := false) only [h1, h2, hH, axs, AThen, ABlock, dstsOk, AStep, callsF, AWant, aop, AS.ev, AS.put, upd, AS.bound, abin, aint, aload, astore, cellsAt, AV.cells, alen, elems, AV.int?, FPost, aresL, ares1, pack, afill, splice, Value.oneCell', Nat.reduceLT, Nat.reduceLeDiff, Nat.reduceEqDiff, Nat.reduceAdd, Nat.reduceMul, Nat.reduceSub, Nat.reduceBEq, Int.reduceLE, Int.reduceLT, Int.reduceToNat, Int.reduceNeg, Int.reduceEq, axt, ftK, ft3, pickP, AScope, AAll, pickQ, ftQ, inHeap, SL, tys]
    refine ACallP.pure rfl (ct) ?_; simp (maxSteps := 400000) (dsimp := false) only [h1, h2, hH, hH1, hne, axs, AThen, ABlock, dstsOk, AStep, callsF, AWant, aop, AS.ev, AS.put, upd, AS.bound, abin, aint, aload, astore, cellsAt, AV.cells, alen, elems, AV.int?, FPost, aresL, ares1, pack, afill, splice, Value.oneCell', Nat.reduceLT, Nat.reduceLeDiff, Nat.reduceEqDiff, Nat.reduceAdd, Nat.reduceMul, Nat.reduceSub, Nat.reduceBEq, Int.reduceLE, Int.reduceLT, Int.reduceToNat, Int.reduceNeg, Int.reduceEq, axt, ftK, ft3, pickP, AScope, AAll, pickQ, ftQ, inHeap, SL, tys]
    exact ⟨m, by omega, ⟨x.C, x.S.eraseIdx i, x.Q⟩, rfl, hx2, by show many 0 (x.S.eraseIdx i) ≤ m; omega, hC, by show (x.S.eraseIdx i).length ≤ _; omega⟩
  · rw [forgot_stop hc] at hx
    refine ACallP.pure rfl (cm) ?_; simp (maxSteps := 400000) (dsimp := false) only [h1, h2, hH, hc, hH1, hne, axs, AThen, ABlock, dstsOk, AStep, callsF, AWant, aop, AS.ev, AS.put, upd, AS.bound, abin, aint, aload, astore, cellsAt, AV.cells, alen, elems, AV.int?, FPost, aresL, ares1, pack, afill, splice, Value.oneCell', Nat.reduceLT, Nat.reduceLeDiff, Nat.reduceEqDiff, Nat.reduceAdd, Nat.reduceMul, Nat.reduceSub, Nat.reduceBEq, Int.reduceLE, Int.reduceLT, Int.reduceToNat, Int.reduceNeg, Int.reduceEq, axt, ftK, ft3, pickP, AScope, AAll, pickQ, ftQ, inHeap, SL, tys]
    rw [← hx]
    refine ⟨_, rfl, ?_⟩; simp (maxSteps := 400000) (dsimp := false) only [SeesL, axs, AThen, ABlock, dstsOk, AStep, callsF, AWant, aop, AS.ev, AS.put, upd, AS.bound, abin, aint, aload, astore, cellsAt, AV.cells, alen, elems, AV.int?, FPost, aresL, ares1, pack, afill, splice, Value.oneCell', Nat.reduceLT, Nat.reduceLeDiff, Nat.reduceEqDiff, Nat.reduceAdd, Nat.reduceMul, Nat.reduceSub, Nat.reduceBEq, Int.reduceLE, Int.reduceLT, Int.reduceToNat, Int.reduceNeg, Int.reduceEq, axt, ftK, ft3, pickP, AScope, AAll, pickQ, ftQ, inHeap, SL, tys] <;> repeat' (first | exact True.intro | exact Sees.sc | exact Sees.none | ((with_reducible refine Sees.same ?_) <;> simp [noIds, noIdsL, noIdsE, noIdsE_U, noIdsE_UU, noIdsE_IT] <;> fail) | (refine Live.sees ?_ ?_ <;> first | assumption | (simp [noIdsE_U, noIdsE_UU, noIdsE_IT] <;> fail)) | (refine Sees.obj ?_ ?_ ?_ <;> first | exact ⟨_, _, by assumption, rfl⟩ | (simp [U_len, UU_len, IT_len] <;> fail) | (simp [noIdsE_U, noIdsE_UU, noIdsE_IT] <;> fail) | (simp [U, UU, upd, neS] <;> fail) | (simp [U, UU, upd, neS, *] <;> fail)) | refine Sees.agg ?_ | refine Sees.tup ?_ | refine And.intro ?_ ?_ | simp only [SeesL])
theorem rLGhosts (s : LS) (hl : s.S.length ≤ 1000000) : PCalls Try.prog 22 [SL s] (.sc (.int .i64 (many 0 s.S))) := by
  have cm := rMany s.S 0 hl
  refine PCalls.intro2 Try.func22 rfl rfl Try.ntmps22 Try.results22 (by simp) fun n => ?_; simp (maxSteps := 400000) (dsimp := false) only [axs, AThen, ABlock, dstsOk, AStep, callsF, AWant, aop, AS.ev, AS.put, upd, AS.bound, abin, aint, aload, astore, cellsAt, AV.cells, alen, elems, AV.int?, FPost, aresL, ares1, pack, afill, splice, Value.oneCell', Nat.reduceLT, Nat.reduceLeDiff, Nat.reduceEqDiff, Nat.reduceAdd, Nat.reduceMul, Nat.reduceSub, Nat.reduceBEq, Int.reduceLE, Int.reduceLT, Int.reduceToNat, Int.reduceNeg, Int.reduceEq, axt, ftK, ft3, pickP, AScope, AAll, pickQ, ftQ, inHeap, SL, tys]
  refine ACallK.strict rfl (cm) (by simp only [SeesL, axs, axt, AS.ev, AS.put, upd, inHeap, Nat.reduceLT, Nat.reduceEqDiff, Nat.reduceAdd, Nat.reduceBEq, SL]; repeat' (first | exact True.intro | exact Sees.sc | exact Sees.none | ((with_reducible refine Sees.same ?_) <;> simp [noIds, noIdsL, noIdsE, noIdsE_U, noIdsE_UU, noIdsE_IT] <;> fail) | (refine Live.sees ?_ ?_ <;> first | assumption | (simp [noIdsE_U, noIdsE_UU, noIdsE_IT] <;> fail)) | (refine Sees.obj ?_ ?_ ?_ <;> first | exact ⟨_, _, by assumption, rfl⟩ | (simp [U_len, UU_len, IT_len] <;> fail) | (simp [noIdsE_U, noIdsE_UU, noIdsE_IT] <;> fail) | (simp [U, UU, upd] <;> fail) | (simp [U, UU, upd, neS, *] <;> fail)) | (refine Sees.of_seen 3 ?_ <;> simp [seen, upd, noIdsE, noIdsL, noIds, U, UU, Nat.add_assoc] <;> fail) | refine Sees.agg ?_ | refine And.intro ?_ ?_ | simp only [SeesL])) ?_; simp (maxSteps := 400000) (dsimp := false) only [axs, AThen, ABlock, dstsOk, AStep, callsF, AWant, aop, AS.ev, AS.put, upd, AS.bound, abin, aint, aload, astore, cellsAt, AV.cells, alen, elems, AV.int?, FPost, aresL, ares1, pack, afill, splice, Value.oneCell', Nat.reduceLT, Nat.reduceLeDiff, Nat.reduceEqDiff, Nat.reduceAdd, Nat.reduceMul, Nat.reduceSub, Nat.reduceBEq, Int.reduceLE, Int.reduceLT, Int.reduceToNat, Int.reduceNeg, Int.reduceEq, axt, ftK, ft3, pickP, AScope, AAll, pickQ, ftQ, inHeap, SL, tys]
  refine ⟨_, rfl, ?_⟩; simp (maxSteps := 400000) (dsimp := false) only [SeesL, axs, AThen, ABlock, dstsOk, AStep, callsF, AWant, aop, AS.ev, AS.put, upd, AS.bound, abin, aint, aload, astore, cellsAt, AV.cells, alen, elems, AV.int?, FPost, aresL, ares1, pack, afill, splice, Value.oneCell', Nat.reduceLT, Nat.reduceLeDiff, Nat.reduceEqDiff, Nat.reduceAdd, Nat.reduceMul, Nat.reduceSub, Nat.reduceBEq, Int.reduceLE, Int.reduceLT, Int.reduceToNat, Int.reduceNeg, Int.reduceEq, axt, ftK, ft3, pickP, AScope, AAll, pickQ, ftQ, inHeap, SL, tys] <;> repeat' (first | exact True.intro | exact Sees.sc | exact Sees.none | ((with_reducible refine Sees.same ?_) <;> simp [noIds, noIdsL, noIdsE, noIdsE_U, noIdsE_UU, noIdsE_IT] <;> fail) | (refine Live.sees ?_ ?_ <;> first | assumption | (simp [noIdsE_U, noIdsE_UU, noIdsE_IT] <;> fail)) | (refine Sees.obj ?_ ?_ ?_ <;> first | exact ⟨_, _, by assumption, rfl⟩ | (simp [U_len, UU_len, IT_len] <;> fail) | (simp [noIdsE_U, noIdsE_UU, noIdsE_IT] <;> fail) | (simp [U, UU, upd, neS] <;> fail) | (simp [U, UU, upd, neS, *] <;> fail)) | refine Sees.agg ?_ | refine Sees.tup ?_ | refine And.intro ?_ ?_ | simp only [SeesL])
end Go.Al
