/- Low inter-reference recency: the program's keys; a new one. Conditions: the rows are short. -/
import Derived.Test.YthglbfgmohgfdaaKi8
set_option linter.unusedVariables false
set_option linter.unusedSimpArgs false
set_option maxRecDepth 20000
set_option maxHeartbeats 3200000
-- axs, AThen, ABlock, dstsOk, AStep, callsF, AWant, aop, AS.ev, AS.put, upd, AS.bound, abin, aint, aload, astore, cellsAt, AV.cells, alen, elems, AV.int?, FPost, aresL, ares1, pack, afill, splice, Value.oneCell', Nat.reduceLT, Nat.reduceLeDiff, Nat.reduceEqDiff, Nat.reduceAdd, Nat.reduceMul, Nat.reduceSub, Nat.reduceBEq, Int.reduceLE, Int.reduceLT, Int.reduceToNat, Int.reduceNeg, Int.reduceEq, axt, ftK, ft3, pickP, AScope, AAll, pickQ, ftQ, inHeap, SL, tys: SL
-- NOIDS: noIdsE_IT
-- LENS: IT_len
namespace Go.Al
open Go.Proofs
/-- The keys of a kind. -/
def hotK (S : List (Int × Int)) : List Int := (S.filter fun x => decide (x.2 = 2)).map Prod.fst
def liKeys (s : LS) : List Int := hotK s.S ++ s.Q
theorem hotK_len (S : List (Int × Int)) : (hotK S).length = many 2 S := List.length_map ..
theorem hotK_snoc (A : List (Int × Int)) (x : Int × Int) : hotK (A ++ [x]) = hotK A ++ (if x.2 = 2 then [x.1] else []) := by
  unfold hotK
  rw [List.filter_append, List.map_append]
  by_cases h : x.2 = 2
  · rw [if_pos h, List.filter_cons_of_pos (by simpa using h)]; rfl
  · rw [if_neg h, List.filter_cons_of_neg (by simpa using h)]; rfl
theorem Live.upd {te z i : Nat} {H : AH} {es : List (List AV)} {v : AV} {o : Option AO} (h : Live te z H es v) (hi : ∀ es', H i ≠ some (.obj te z es' false)) : Live te z (Al.upd H i o) es v := by
  rcases h with ⟨h1, h2⟩ | ⟨id, h1, h2⟩
  · exact .inl ⟨h1, h2⟩
  · refine .inr ⟨id, h1, ?_⟩
    rw [upd_ne]
    · exact h2
    · rintro rfl
      exact hi _ h2
/-- A live row stays, where a new thing is written. -/
theorem Live.past {te z b k : Nat} {H : AH} {es : List (List AV)} {v : AV} {o : Option AO} (h : Live te z H es v) (hb : ∀ id z o m, v = .sl id z o m → id < b) (hk : b ≤ k) : Live te z (Al.upd H k o) es v := by
  rcases h with ⟨h1, h2⟩ | ⟨id, h1, h2⟩
  · exact .inl ⟨h1, h2⟩
  · exact .inr ⟨id, h1, (upd_ne _ _ (by have := hb _ _ _ _ h1; omega)).trans h2⟩
theorem Live.below {te z : Nat} {s : AS} {es : List (List AV)} {v : AV} (h : Live te z s.H es v) (hb : Al.Below s) : ∀ id z o m, v = .sl id z o m → id < s.n := by
  intro id z o m e
  rcases h with ⟨h1, h2⟩ | ⟨id', h1, h2⟩
  · rw [h2] at e; cases e
  · rw [h1] at e
    cases e
    exact hb _ _ h2
theorem cLNew (c : Int) : PCalls Try.prog 10 [.sc (.int .i64 c)] (SL ⟨capOf c, [], []⟩) := by
  refine PCalls.intro2 Try.func10 rfl rfl Try.ntmps10 Try.results10 (by simp) fun n => ?_; simp (maxSteps := 400000) (dsimp := false) only [capOf_mm, axs, AThen, ABlock, dstsOk, AStep, callsF, AWant, aop, AS.ev, AS.put, upd, AS.bound, abin, aint, aload, astore, cellsAt, AV.cells, alen, elems, AV.int?, FPost, aresL, ares1, pack, afill, splice, Value.oneCell', Nat.reduceLT, Nat.reduceLeDiff, Nat.reduceEqDiff, Nat.reduceAdd, Nat.reduceMul, Nat.reduceSub, Nat.reduceBEq, Int.reduceLE, Int.reduceLT, Int.reduceToNat, Int.reduceNeg, Int.reduceEq, axt, ftK, ft3, pickP, AScope, AAll, pickQ, ftQ, inHeap, SL, tys]
  refine ⟨_, rfl, ?_⟩; simp (maxSteps := 400000) (dsimp := false) only [SeesL, axs, AThen, ABlock, dstsOk, AStep, callsF, AWant, aop, AS.ev, AS.put, upd, AS.bound, abin, aint, aload, astore, cellsAt, AV.cells, alen, elems, AV.int?, FPost, aresL, ares1, pack, afill, splice, Value.oneCell', Nat.reduceLT, Nat.reduceLeDiff, Nat.reduceEqDiff, Nat.reduceAdd, Nat.reduceMul, Nat.reduceSub, Nat.reduceBEq, Int.reduceLE, Int.reduceLT, Int.reduceToNat, Int.reduceNeg, Int.reduceEq, axt, ftK, ft3, pickP, AScope, AAll, pickQ, ftQ, inHeap, SL, tys] <;> repeat' (first | exact True.intro | exact Sees.sc | exact Sees.none | ((with_reducible refine Sees.same ?_) <;> simp [noIds, noIdsL, noIdsE, noIdsE_U, noIdsE_UU, noIdsE_IT] <;> fail) | (refine Live.sees ?_ ?_ <;> first | assumption | (simp [noIdsE_U, noIdsE_UU, noIdsE_IT] <;> fail)) | (refine Sees.obj ?_ ?_ ?_ <;> first | exact ⟨_, _, by assumption, rfl⟩ | (simp [U_len, UU_len, IT_len] <;> fail) | (simp [noIdsE_U, noIdsE_UU, noIdsE_IT] <;> fail) | (simp [U, UU, upd, neS] <;> fail) | (simp [U, UU, upd, neS, *] <;> fail)) | refine Sees.agg ?_ | refine Sees.tup ?_ | refine And.intro ?_ ?_ | simp only [SeesL])
theorem cLGhosts (s : LS) (hl : s.S.length ≤ 1000000) : PCalls Try.prog 21 [SL s] (.sc (.int .i64 (many 0 s.S))) := by
  have cm := cMany s 0 hl
  refine PCalls.intro2 Try.func21 rfl rfl Try.ntmps21 Try.results21 (by simp) fun n => ?_; simp (maxSteps := 400000) (dsimp := false) only [axs, AThen, ABlock, dstsOk, AStep, callsF, AWant, aop, AS.ev, AS.put, upd, AS.bound, abin, aint, aload, astore, cellsAt, AV.cells, alen, elems, AV.int?, FPost, aresL, ares1, pack, afill, splice, Value.oneCell', Nat.reduceLT, Nat.reduceLeDiff, Nat.reduceEqDiff, Nat.reduceAdd, Nat.reduceMul, Nat.reduceSub, Nat.reduceBEq, Int.reduceLE, Int.reduceLT, Int.reduceToNat, Int.reduceNeg, Int.reduceEq, axt, ftK, ft3, pickP, AScope, AAll, pickQ, ftQ, inHeap, SL, tys]
  refine ACallK.strict rfl (cm) (by simp only [SeesL, axs, axt, AS.ev, AS.put, upd, inHeap, Nat.reduceLT, Nat.reduceEqDiff, Nat.reduceAdd, Nat.reduceBEq, SL]; repeat' (first | exact True.intro | exact Sees.sc | exact Sees.none | ((with_reducible refine Sees.same ?_) <;> simp [noIds, noIdsL, noIdsE, noIdsE_U, noIdsE_UU, noIdsE_IT] <;> fail) | (refine Live.sees ?_ ?_ <;> first | assumption | (simp [noIdsE_U, noIdsE_UU, noIdsE_IT] <;> fail)) | (refine Sees.obj ?_ ?_ ?_ <;> first | exact ⟨_, _, by assumption, rfl⟩ | (simp [U_len, UU_len, IT_len] <;> fail) | (simp [noIdsE_U, noIdsE_UU, noIdsE_IT] <;> fail) | (simp [U, UU, upd] <;> fail) | (simp [U, UU, upd, neS, *] <;> fail)) | (refine Sees.of_seen 3 ?_ <;> simp [seen, upd, noIdsE, noIdsL, noIds, U, UU, Nat.add_assoc] <;> fail) | refine Sees.agg ?_ | refine And.intro ?_ ?_ | simp only [SeesL])) ?_; simp (maxSteps := 400000) (dsimp := false) only [axs, AThen, ABlock, dstsOk, AStep, callsF, AWant, aop, AS.ev, AS.put, upd, AS.bound, abin, aint, aload, astore, cellsAt, AV.cells, alen, elems, AV.int?, FPost, aresL, ares1, pack, afill, splice, Value.oneCell', Nat.reduceLT, Nat.reduceLeDiff, Nat.reduceEqDiff, Nat.reduceAdd, Nat.reduceMul, Nat.reduceSub, Nat.reduceBEq, Int.reduceLE, Int.reduceLT, Int.reduceToNat, Int.reduceNeg, Int.reduceEq, axt, ftK, ft3, pickP, AScope, AAll, pickQ, ftQ, inHeap, SL, tys]
  refine ⟨_, rfl, ?_⟩; simp (maxSteps := 400000) (dsimp := false) only [SeesL, axs, AThen, ABlock, dstsOk, AStep, callsF, AWant, aop, AS.ev, AS.put, upd, AS.bound, abin, aint, aload, astore, cellsAt, AV.cells, alen, elems, AV.int?, FPost, aresL, ares1, pack, afill, splice, Value.oneCell', Nat.reduceLT, Nat.reduceLeDiff, Nat.reduceEqDiff, Nat.reduceAdd, Nat.reduceMul, Nat.reduceSub, Nat.reduceBEq, Int.reduceLE, Int.reduceLT, Int.reduceToNat, Int.reduceNeg, Int.reduceEq, axt, ftK, ft3, pickP, AScope, AAll, pickQ, ftQ, inHeap, SL, tys] <;> repeat' (first | exact True.intro | exact Sees.sc | exact Sees.none | ((with_reducible refine Sees.same ?_) <;> simp [noIds, noIdsL, noIdsE, noIdsE_U, noIdsE_UU, noIdsE_IT] <;> fail) | (refine Live.sees ?_ ?_ <;> first | assumption | (simp [noIdsE_U, noIdsE_UU, noIdsE_IT] <;> fail)) | (refine Sees.obj ?_ ?_ ?_ <;> first | exact ⟨_, _, by assumption, rfl⟩ | (simp [U_len, UU_len, IT_len] <;> fail) | (simp [noIdsE_U, noIdsE_UU, noIdsE_IT] <;> fail) | (simp [U, UU, upd, neS] <;> fail) | (simp [U, UU, upd, neS, *] <;> fail)) | refine Sees.agg ?_ | refine Sees.tup ?_ | refine And.intro ?_ ?_ | simp only [SeesL])
theorem cLKeys (s : LS) (hl : s.S.length ≤ 100000) (hq : s.Q.length ≤ 100000) : PCalls Try.prog 18 [SL s] (.lst 1 (U (liKeys s))) := by
  obtain ⟨C, S, Q⟩ := s
  simp only at hl hq
  show PCalls _ _ _ (.lst 1 (U (hotK S ++ Q)))
  refine PCalls.intro2 Try.func18 rfl rfl Try.ntmps18 Try.results18 (by simp) fun n => ?_; simp (maxSteps := 400000) (dsimp := false) only [IT_len, axs, AThen, ABlock, dstsOk, AStep, callsF, AWant, aop, AS.ev, AS.put, upd, AS.bound, abin, aint, aload, astore, cellsAt, AV.cells, alen, elems, AV.int?, FPost, aresL, ares1, pack, afill, splice, Value.oneCell', Nat.reduceLT, Nat.reduceLeDiff, Nat.reduceEqDiff, Nat.reduceAdd, Nat.reduceMul, Nat.reduceSub, Nat.reduceBEq, Int.reduceLE, Int.reduceLT, Int.reduceToNat, Int.reduceNeg, Int.reduceEq, axt, ftK, ft3, pickP, AScope, AAll, pickQ, ftQ, inHeap, SL, tys]
  refine ALoop.upto S.length (fun p t => t.t 1 = .ptr n 3 0 0 ∧ t.t 7 = .lst 2 (IT S) ∧ t.t 8 = .sc (.int .i64 S.length) ∧ t.t 9 = .sc (.int .i64 p) ∧ n < t.n ∧ t.H n = some (.obj 27 3 [[.sc (.int .i64 C), .lst 2 (IT S), .lst 1 (U Q)]] false) ∧ Live 35 1 t.H (U (hotK (S.take p))) (t.t 3)) ⟨rfl, rfl, rfl, rfl, Nat.lt_succ_self _, upd_same _ _ _, Live.nil⟩ ?_
  rintro p t hp hb ⟨h1, h7, h8, h9, hlt0, hH, hv⟩
  have hnn : (¬ n = t.n ∧ ¬ t.n = n) ∧ (¬ n = t.n + 1 ∧ ¬ t.n + 1 = n) ∧ (¬ n = t.n + 1 + 1 ∧ ¬ t.n + 1 + 1 = n) := by omega
  have hml := many_le 2 (S.take p)
  rw [List.length_take, ← hotK_len] at hml
  rcases Nat.lt_or_ge p S.length with hlt | hge
  · obtain ⟨x, hx, hp0, hpl, hw, hT, hD⟩ := idx hlt (by omega)
    have hg := IT_get hx
    have hs : U (hotK (S.take (p + 1))) = U (hotK (S.take p)) ++ (if x.2 = 2 then [[.sc (.int .u64 x.1)]] else []) := by
      rw [hT, hotK_snoc]
      split <;> simp [U]
    rw [hs]
    have b1 : ((hotK (S.take p)).length + 1) * 8 ≤ 140737488355328 := by omega
    have b2 : (hotK (S.take p)).length + 1 ≤ 1099511627776 := by omega
    generalize hotK (S.take p) = q at *
    by_cases hk : x.2 = 2
    · rw [if_pos hk]
      rcases hv.cases hb with ⟨e1, e2⟩ | ⟨id, i1, i2, e1, e2⟩
      · obtain rfl : q = [] := by simpa [U] using e1
        simp (maxSteps := 400000) (dsimp := false) only [h1, h7, h8, h9, hH, hp0, hpl, hg, hw, hk, e2, hnn, IT_len, axs, AThen, ABlock, dstsOk, AStep, callsF, AWant, aop, AS.ev, AS.put, upd, AS.bound, abin, aint, aload, astore, cellsAt, AV.cells, alen, elems, AV.int?, FPost, aresL, ares1, pack, afill, splice, Value.oneCell', Nat.reduceLT, Nat.reduceLeDiff, Nat.reduceEqDiff, Nat.reduceAdd, Nat.reduceMul, Nat.reduceSub, Nat.reduceBEq, Int.reduceLE, Int.reduceLT, Int.reduceToNat, Int.reduceNeg, Int.reduceEq, axt, ftK, ft3, pickP, AScope, AAll, pickQ, ftQ, inHeap, SL, tys]
        exact ⟨hlt, by omega, Live.mk (upd_same _ _ _) rfl⟩
      · rw [U_len] at e1
        have hin : ¬ id = n ∧ ¬ n = id := by
          have : id ≠ n := by rintro rfl; rw [hH] at e2; simp at e2
          omega
        have hn4 : (¬ id = t.n ∧ ¬ t.n = id) ∧ (¬ id = t.n + 1 ∧ ¬ t.n + 1 = id) ∧ (¬ id = t.n + 1 + 1 ∧ ¬ t.n + 1 + 1 = id) := by omega
        simp (maxSteps := 400000) (dsimp := false) only [h1, h7, h8, h9, hH, hp0, hpl, hg, hw, hk, e1, e2, hnn, hn4, hin, IT_len, U_len, b1, b2, axs, AThen, ABlock, dstsOk, AStep, callsF, AWant, aop, AS.ev, AS.put, upd, AS.bound, abin, aint, aload, astore, cellsAt, AV.cells, alen, elems, AV.int?, FPost, aresL, ares1, pack, afill, splice, Value.oneCell', Nat.reduceLT, Nat.reduceLeDiff, Nat.reduceEqDiff, Nat.reduceAdd, Nat.reduceMul, Nat.reduceSub, Nat.reduceBEq, Int.reduceLE, Int.reduceLT, Int.reduceToNat, Int.reduceNeg, Int.reduceEq, axt, ftK, ft3, pickP, AScope, AAll, pickQ, ftQ, inHeap, SL, tys]
        exact ⟨hlt, by omega, Live.mk (upd_same _ _ _) (by simp [U_len])⟩
    · rw [if_neg hk, List.append_nil]
      simp (maxSteps := 400000) (dsimp := false) only [h1, h7, h8, h9, hH, hp0, hpl, hg, hw, hk, hnn, IT_len, axs, AThen, ABlock, dstsOk, AStep, callsF, AWant, aop, AS.ev, AS.put, upd, AS.bound, abin, aint, aload, astore, cellsAt, AV.cells, alen, elems, AV.int?, FPost, aresL, ares1, pack, afill, splice, Value.oneCell', Nat.reduceLT, Nat.reduceLeDiff, Nat.reduceEqDiff, Nat.reduceAdd, Nat.reduceMul, Nat.reduceSub, Nat.reduceBEq, Int.reduceLE, Int.reduceLT, Int.reduceToNat, Int.reduceNeg, Int.reduceEq, axt, ftK, ft3, pickP, AScope, AAll, pickQ, ftQ, inHeap, SL, tys]
      exact ⟨hlt, by omega, (hv.past (hv.below hb) (Nat.le_refl _)).past (hv.below hb) (Nat.le_refl _)⟩
  · have hpl : ¬ (p : Int) < S.length := by omega
    rw [List.take_of_length_le hge] at hv hml
    have hsn : U (hotK S ++ Q) = U (hotK S) ++ U Q := by simp [U]
    generalize hotK S = q at *
    have b1 : (q.length + Q.length) * 8 ≤ 140737488355328 := by omega
    have b2 : q.length + Q.length ≤ 1099511627776 := by omega
    rcases hv.cases hb with ⟨e1, e2⟩ | ⟨id, i1, i2, e1, e2⟩
    · obtain rfl : q = [] := by simpa [U] using e1
      cases Q with
      | nil =>
        simp (maxSteps := 400000) (dsimp := false) only [h1, h7, h8, h9, hH, hpl, e2, hnn, U_nil, axs, AThen, ABlock, dstsOk, AStep, callsF, AWant, aop, AS.ev, AS.put, upd, AS.bound, abin, aint, aload, astore, cellsAt, AV.cells, alen, elems, AV.int?, FPost, aresL, ares1, pack, afill, splice, Value.oneCell', Nat.reduceLT, Nat.reduceLeDiff, Nat.reduceEqDiff, Nat.reduceAdd, Nat.reduceMul, Nat.reduceSub, Nat.reduceBEq, Int.reduceLE, Int.reduceLT, Int.reduceToNat, Int.reduceNeg, Int.reduceEq, axt, ftK, ft3, pickP, AScope, AAll, pickQ, ftQ, inHeap, SL, tys]
        exact ⟨_, rfl, Sees.none⟩
      | cons y Q =>
        have hu : U (y :: Q) = [.sc (.int .u64 y)] :: U Q := rfl
        rw [List.length_cons] at hq
        have b1 : (Q.length + 1) * 8 ≤ 140737488355328 := by omega
        have b2 : Q.length + 1 ≤ 1099511627776 := by omega
        have b3 : Q.length ≤ 1099511627775 := by omega
        simp (maxSteps := 400000) (dsimp := false) only [h1, h7, h8, h9, hH, hpl, e2, hnn, hu, U_len, b1, b2, b3, axs, AThen, ABlock, dstsOk, AStep, callsF, AWant, aop, AS.ev, AS.put, upd, AS.bound, abin, aint, aload, astore, cellsAt, AV.cells, alen, elems, AV.int?, FPost, aresL, ares1, pack, afill, splice, Value.oneCell', Nat.reduceLT, Nat.reduceLeDiff, Nat.reduceEqDiff, Nat.reduceAdd, Nat.reduceMul, Nat.reduceSub, Nat.reduceBEq, Int.reduceLE, Int.reduceLT, Int.reduceToNat, Int.reduceNeg, Int.reduceEq, axt, ftK, ft3, pickP, AScope, AAll, pickQ, ftQ, inHeap, SL, tys]
        exact ⟨_, rfl, (Live.mk (upd_same _ _ _) (by simp [U_len]) : Live 35 1 _ (U (y :: Q)) _).sees (noIdsE_U _)⟩
    · rw [U_len] at e1
      have hn4 : (¬ id = t.n ∧ ¬ t.n = id) := by omega
      simp (maxSteps := 400000) (dsimp := false) only [h1, h7, h8, h9, hH, hpl, e1, e2, hnn, hn4, U_len, b1, b2, axs, AThen, ABlock, dstsOk, AStep, callsF, AWant, aop, AS.ev, AS.put, upd, AS.bound, abin, aint, aload, astore, cellsAt, AV.cells, alen, elems, AV.int?, FPost, aresL, ares1, pack, afill, splice, Value.oneCell', Nat.reduceLT, Nat.reduceLeDiff, Nat.reduceEqDiff, Nat.reduceAdd, Nat.reduceMul, Nat.reduceSub, Nat.reduceBEq, Int.reduceLE, Int.reduceLT, Int.reduceToNat, Int.reduceNeg, Int.reduceEq, axt, ftK, ft3, pickP, AScope, AAll, pickQ, ftQ, inHeap, SL, tys]
      rw [← hsn]
      exact ⟨_, rfl, (Live.mk (upd_same _ _ _) (by simp [U_len]) : Live 35 1 _ (U (q ++ Q)) _).sees (noIdsE_U _)⟩
theorem cLHas (s : LS) (k : Int) (hl : s.S.length ≤ 100000) (hq : s.Q.length ≤ 100000) : PCalls Try.prog 19 [SL s, .sc (.int .u64 k)] (.sc (.bool (decide (k ∈ liKeys s)))) := by
  have h1 := cLKeys s hl hq
  have hm := many_le 2 s.S
  have h2 := cHas (liKeys s) k (by unfold liKeys; rw [List.length_append, hotK_len]; omega)
  refine PCalls.intro2 Try.func19 rfl rfl Try.ntmps19 Try.results19 (by simp) fun n => ?_; simp (maxSteps := 400000) (dsimp := false) only [axs, AThen, ABlock, dstsOk, AStep, callsF, AWant, aop, AS.ev, AS.put, upd, AS.bound, abin, aint, aload, astore, cellsAt, AV.cells, alen, elems, AV.int?, FPost, aresL, ares1, pack, afill, splice, Value.oneCell', Nat.reduceLT, Nat.reduceLeDiff, Nat.reduceEqDiff, Nat.reduceAdd, Nat.reduceMul, Nat.reduceSub, Nat.reduceBEq, Int.reduceLE, Int.reduceLT, Int.reduceToNat, Int.reduceNeg, Int.reduceEq, axt, ftK, ft3, pickP, AScope, AAll, pickQ, ftQ, inHeap, SL, tys]
  refine ACallK.strict rfl (h1) (by simp only [SeesL, axs, axt, AS.ev, AS.put, upd, inHeap, Nat.reduceLT, Nat.reduceEqDiff, Nat.reduceAdd, Nat.reduceBEq, SL]; repeat' (first | exact True.intro | exact Sees.sc | exact Sees.none | ((with_reducible refine Sees.same ?_) <;> simp [noIds, noIdsL, noIdsE, noIdsE_U, noIdsE_UU, noIdsE_IT] <;> fail) | (refine Live.sees ?_ ?_ <;> first | assumption | (simp [noIdsE_U, noIdsE_UU, noIdsE_IT] <;> fail)) | (refine Sees.obj ?_ ?_ ?_ <;> first | exact ⟨_, _, by assumption, rfl⟩ | (simp [U_len, UU_len, IT_len] <;> fail) | (simp [noIdsE_U, noIdsE_UU, noIdsE_IT] <;> fail) | (simp [U, UU, upd] <;> fail) | (simp [U, UU, upd, neS, *] <;> fail)) | (refine Sees.of_seen 3 ?_ <;> simp [seen, upd, noIdsE, noIdsL, noIds, U, UU, Nat.add_assoc] <;> fail) | refine Sees.agg ?_ | refine And.intro ?_ ?_ | simp only [SeesL])) ?_; simp (maxSteps := 400000) (dsimp := false) only [axs, AThen, ABlock, dstsOk, AStep, callsF, AWant, aop, AS.ev, AS.put, upd, AS.bound, abin, aint, aload, astore, cellsAt, AV.cells, alen, elems, AV.int?, FPost, aresL, ares1, pack, afill, splice, Value.oneCell', Nat.reduceLT, Nat.reduceLeDiff, Nat.reduceEqDiff, Nat.reduceAdd, Nat.reduceMul, Nat.reduceSub, Nat.reduceBEq, Int.reduceLE, Int.reduceLT, Int.reduceToNat, Int.reduceNeg, Int.reduceEq, axt, ftK, ft3, pickP, AScope, AAll, pickQ, ftQ, inHeap, SL, tys]
  refine ACallK.strict rfl (h2) (by simp only [SeesL, axs, axt, AS.ev, AS.put, upd, inHeap, Nat.reduceLT, Nat.reduceEqDiff, Nat.reduceAdd, Nat.reduceBEq, SL]; repeat' (first | exact True.intro | exact Sees.sc | exact Sees.none | ((with_reducible refine Sees.same ?_) <;> simp [noIds, noIdsL, noIdsE, noIdsE_U, noIdsE_UU, noIdsE_IT] <;> fail) | (refine Live.sees ?_ ?_ <;> first | assumption | (simp [noIdsE_U, noIdsE_UU, noIdsE_IT] <;> fail)) | (refine Sees.obj ?_ ?_ ?_ <;> first | exact ⟨_, _, by assumption, rfl⟩ | (simp [U_len, UU_len, IT_len] <;> fail) | (simp [noIdsE_U, noIdsE_UU, noIdsE_IT] <;> fail) | (simp [U, UU, upd] <;> fail) | (simp [U, UU, upd, neS, *] <;> fail)) | (refine Sees.of_seen 3 ?_ <;> simp [seen, upd, noIdsE, noIdsL, noIds, U, UU, Nat.add_assoc] <;> fail) | refine Sees.agg ?_ | refine And.intro ?_ ?_ | simp only [SeesL])) ?_; simp (maxSteps := 400000) (dsimp := false) only [axs, AThen, ABlock, dstsOk, AStep, callsF, AWant, aop, AS.ev, AS.put, upd, AS.bound, abin, aint, aload, astore, cellsAt, AV.cells, alen, elems, AV.int?, FPost, aresL, ares1, pack, afill, splice, Value.oneCell', Nat.reduceLT, Nat.reduceLeDiff, Nat.reduceEqDiff, Nat.reduceAdd, Nat.reduceMul, Nat.reduceSub, Nat.reduceBEq, Int.reduceLE, Int.reduceLT, Int.reduceToNat, Int.reduceNeg, Int.reduceEq, axt, ftK, ft3, pickP, AScope, AAll, pickQ, ftQ, inHeap, SL, tys]
  refine ⟨_, rfl, ?_⟩; simp (maxSteps := 400000) (dsimp := false) only [SeesL, axs, AThen, ABlock, dstsOk, AStep, callsF, AWant, aop, AS.ev, AS.put, upd, AS.bound, abin, aint, aload, astore, cellsAt, AV.cells, alen, elems, AV.int?, FPost, aresL, ares1, pack, afill, splice, Value.oneCell', Nat.reduceLT, Nat.reduceLeDiff, Nat.reduceEqDiff, Nat.reduceAdd, Nat.reduceMul, Nat.reduceSub, Nat.reduceBEq, Int.reduceLE, Int.reduceLT, Int.reduceToNat, Int.reduceNeg, Int.reduceEq, axt, ftK, ft3, pickP, AScope, AAll, pickQ, ftQ, inHeap, SL, tys] <;> repeat' (first | exact True.intro | exact Sees.sc | exact Sees.none | ((with_reducible refine Sees.same ?_) <;> simp [noIds, noIdsL, noIdsE, noIdsE_U, noIdsE_UU, noIdsE_IT] <;> fail) | (refine Live.sees ?_ ?_ <;> first | assumption | (simp [noIdsE_U, noIdsE_UU, noIdsE_IT] <;> fail)) | (refine Sees.obj ?_ ?_ ?_ <;> first | exact ⟨_, _, by assumption, rfl⟩ | (simp [U_len, UU_len, IT_len] <;> fail) | (simp [noIdsE_U, noIdsE_UU, noIdsE_IT] <;> fail) | (simp [U, UU, upd, neS] <;> fail) | (simp [U, UU, upd, neS, *] <;> fail)) | refine Sees.agg ?_ | refine Sees.tup ?_ | refine And.intro ?_ ?_ | simp only [SeesL])
end Go.Al
