/- Low inter-reference recency: the reference evicts, and tells its keys. Conditions: the rows are short. -/
import Derived.Test.YthglbfgmohgfdaaKr3
set_option linter.unusedVariables false
set_option linter.unusedSimpArgs false
set_option maxRecDepth 20000
set_option maxHeartbeats 3200000
-- axs, AThen, ABlock, dstsOk, AStep, callsF, AWant, aop, AS.ev, AS.put, upd, AS.bound, abin, aint, aload, astore, cellsAt, AV.cells, alen, elems, AV.int?, FPost, aresL, ares1, pack, afill, splice, Value.oneCell', Nat.reduceLT, Nat.reduceLeDiff, Nat.reduceEqDiff, Nat.reduceAdd, Nat.reduceMul, Nat.reduceSub, Nat.reduceBEq, Int.reduceLE, Int.reduceLT, Int.reduceToNat, Int.reduceNeg, Int.reduceEq, axt, ftK, ft3, pickP, AScope, AAll, pickQ, ftQ, inHeap, SL, tys: SL
-- NOIDS: noIdsE_IT
-- LENS: IT_len
namespace Go.Al
open Go.Proofs
theorem rShrink (s : LS) (z : Int) (hz : (many 2 s.S : Int) ≤ z) (hz2 : z ≤ 1048576) (hl : s.S.length ≤ 1000) (hq : s.Q.length ≤ 1000) : PCalls Try.prog 56 [SL s, .sc (.int .i64 z)] (.tup [SL (shrinkL z s).1, .lst 1 (U (shrinkL z s).2)]) := by
  generalize hR : shrinkL z s = R
  obtain ⟨C, S, Q⟩ := s
  simp only at hz hl hq
  refine PCalls.intro2 Try.func56 rfl rfl Try.ntmps56 Try.results56 (by simp) fun n => ?_; simp (maxSteps := 400000) (dsimp := false) only [axs, AThen, ABlock, dstsOk, AStep, callsF, AWant, aop, AS.ev, AS.put, upd, AS.bound, abin, aint, aload, astore, cellsAt, AV.cells, alen, elems, AV.int?, FPost, aresL, ares1, pack, afill, splice, Value.oneCell', Nat.reduceLT, Nat.reduceLeDiff, Nat.reduceEqDiff, Nat.reduceAdd, Nat.reduceMul, Nat.reduceSub, Nat.reduceBEq, Int.reduceLE, Int.reduceLT, Int.reduceToNat, Int.reduceNeg, Int.reduceEq, axt, ftK, ft3, pickP, AScope, AAll, pickQ, ftQ, inHeap, SL, tys]
  refine ALoop.falls (fun x : LS × List Int => x.1.Q.length) (fun x t => t.t 1 = .sc (.int .i64 z) ∧ t.t 2 = .ptr n 3 0 0 ∧ t.t 4 = .ptr (n + 1) 3 0 0 ∧ n + 1 < t.n ∧ t.H n = some (.obj 31 3 [[.sc (.int .i64 x.1.C), .lst 2 (IT x.1.S), .lst 1 (U x.1.Q)]] false) ∧ t.H (n + 1) = some (.obj 31 3 [[.sc (.int .i64 0), .sc (.slice none 0 0), .sc (.slice none 0 0)]] false) ∧ shrunk z x.1.Q.length x.1 x.2 = R ∧ (many 2 x.1.S : Int) ≤ z ∧ x.1.S.length ≤ 1000 ∧ x.2.length + x.1.Q.length ≤ 1000 ∧ Live 35 1 t.H (U x.2) (t.t 6) ∧ ∀ id z o m, t.t 6 = .sl id z o m → n + 1 < id) (⟨C, S, Q⟩, []) ⟨rfl, rfl, rfl, (by show n + 1 < n + 1 + 1; omega), (upd_ne _ _ (by omega)).trans (upd_same _ _ _), upd_same _ _ _, hR, hz, hl, (by show 0 + Q.length ≤ 1000; omega), Live.nil, fun id z o m e => (nomatch e)⟩ ?_
  rintro ⟨⟨C, S, Q⟩, out⟩ t hb ⟨h1, h2, h4, hlt, hH, hH1, hx, hmz, hxl, hxq, hv, hid⟩
  simp only at hH hx hmz hxl hxq hv
  clear hR hz hl hq
  have hne : ¬ n = n + 1 ∧ ¬ n + 1 = n := by omega
  have hml := many_le 2 S
  have cm := rMany S 2 (by omega)
  have w1 : IntKind.i64.wrap ((many 2 S : Int) + Q.length) = (many 2 S : Int) + Q.length := wrap_in (by omega) (by omega)
  simp (maxSteps := 400000) (dsimp := false) only [h1, h2, h4, axs, AThen, ABlock, dstsOk, AStep, callsF, AWant, aop, AS.ev, AS.put, upd, AS.bound, abin, aint, aload, astore, cellsAt, AV.cells, alen, elems, AV.int?, FPost, aresL, ares1, pack, afill, splice, Value.oneCell', Nat.reduceLT, Nat.reduceLeDiff, Nat.reduceEqDiff, Nat.reduceAdd, Nat.reduceMul, Nat.reduceSub, Nat.reduceBEq, Int.reduceLE, Int.reduceLT, Int.reduceToNat, Int.reduceNeg, Int.reduceEq, axt, ftK, ft3, pickP, AScope, AAll, pickQ, ftQ, inHeap, SL, tys]
  refine ADraw.planR [] [(0, true), (1, true), (2, true), (3, true), (4, true), (5, true), (6, true), (7, true), (8, true)] [(0, false), (0, false), (0, false), (0, false), (0, false), (0, false), (0, false), (0, false), (0, false)] mixed (by kernel_rfl) (by kernel_rfl) ?_
  simp (maxSteps := 400000) (dsimp := false) only [h1, h2, h4, hH, U_len, axs, AThen, ABlock, dstsOk, AStep, callsF, AWant, aop, AS.ev, AS.put, upd, AS.bound, abin, aint, aload, astore, cellsAt, AV.cells, alen, elems, AV.int?, FPost, aresL, ares1, pack, afill, splice, Value.oneCell', Nat.reduceLT, Nat.reduceLeDiff, Nat.reduceEqDiff, Nat.reduceAdd, Nat.reduceMul, Nat.reduceSub, Nat.reduceBEq, Int.reduceLE, Int.reduceLT, Int.reduceToNat, Int.reduceNeg, Int.reduceEq, axt, ftK, ft3, pickP, AScope, AAll, pickQ, ftQ, inHeap, SL, tys]
  by_cases hc : (many 2 S : Int) + Q.length > z
  · obtain ⟨k, q, rfl⟩ : ∃ k q, Q = k :: q := by
      cases Q with
      | nil => simp at hc; omega
      | cons k q => exact ⟨k, q, rfl⟩
    rw [List.length_cons] at hxq
    have hx2 : shrunk z q.length (shrS ⟨C, S, k :: q⟩) (out ++ [k]) = R := by rw [← hx]; exact (if_pos hc).symm
    have hmS := shrS_many ⟨C, S, k :: q⟩
    have hlS := shrS_len ⟨C, S, k :: q⟩
    have g0 : (U (k :: q))[0]? = some [.sc (.int .u64 k)] := rfl
    have g1 : (0 : Int) < ((q.length + 1 : Nat) : Int) := by omega
    have g2 : (1 : Int) ≤ ((q.length + 1 : Nat) : Int) := by omega
    have g3 : (0 : Int) ≤ 1 := by omega
    have hsl : List.take (q.length + 1 - 1) (List.drop 1 (U (k :: q))) = U q := by
      show List.take (q.length + 1 - 1) (U q) = U q
      rw [List.take_of_length_le (by rw [U_len]; omega)]
    have ca := rPlace S k (by omega)
    have b1 : (out.length + 1) * 8 ≤ 140737488355328 := by omega
    have b2 : out.length + 1 ≤ 1099511627776 := by omega
    have hix := idxK_lt S k
    rw [List.length_cons] at w1 hc
    refine ACallP.pure rfl (cm) ?_; simp (maxSteps := 400000) (dsimp := false) only [h1, h2, h4, hH, U_len, w1, hc, g0, g1, g2, g3, hsl, hne, axs, AThen, ABlock, dstsOk, AStep, callsF, AWant, aop, AS.ev, AS.put, upd, AS.bound, abin, aint, aload, astore, cellsAt, AV.cells, alen, elems, AV.int?, FPost, aresL, ares1, pack, afill, splice, Value.oneCell', Nat.reduceLT, Nat.reduceLeDiff, Nat.reduceEqDiff, Nat.reduceAdd, Nat.reduceMul, Nat.reduceSub, Nat.reduceBEq, Int.reduceLE, Int.reduceLT, Int.reduceToNat, Int.reduceNeg, Int.reduceEq, axt, ftK, ft3, pickP, AScope, AAll, pickQ, ftQ, inHeap, SL, tys]
    simp only at hmS hlS
    have hmS : ((many 2 (shrS ⟨C, S, k :: q⟩).S : Nat) : Int) ≤ z := by omega
    have hsn : U (out ++ [k]) = U out ++ [[.sc (.int .u64 k)]] := U_snoc out k
    have hn3 : (¬ n = t.n ∧ ¬ n + 1 = t.n) ∧ (¬ n = t.n + 1 ∧ ¬ t.n = n ∧ ¬ t.n = n + 1 ∧ ¬ t.n + 1 = n) := by omega
    rcases hv.cases hb with ⟨e1, e2⟩ | ⟨id, i1, i2, e1, e2⟩
    · obtain rfl : out = [] := by simpa [U] using e1
      by_cases hi : idxK S k ≥ 0
      · obtain ⟨i, hii⟩ : ∃ i : Nat, idxK S k = i := ⟨(idxK S k).toNat, by omega⟩
        have ck := rSet S i 0 (by omega) (by omega)
        have hs : (shrS ⟨C, S, k :: q⟩).S = setKd S i 0 := by
          show (if idxK S k ≥ 0 then setKd S (idxK S k).toNat 0 else S) = _
          rw [if_pos hi, hii]; rfl
        rw [hii] at ca hi
        refine ACallK.strict rfl (ca) (by simp only [SeesL, h1, h2, h4, hH, hne, hi, eq_true hi, axs, axt, AS.ev, AS.put, upd, inHeap, Nat.reduceLT, Nat.reduceEqDiff, Nat.reduceAdd, Nat.reduceBEq, SL]; repeat' (first | exact True.intro | exact Sees.sc | exact Sees.none | ((with_reducible refine Sees.same ?_) <;> simp [noIds, noIdsL, noIdsE, noIdsE_U, noIdsE_UU, noIdsE_IT] <;> fail) | (refine Live.sees ?_ ?_ <;> first | assumption | (simp [noIdsE_U, noIdsE_UU, noIdsE_IT] <;> fail)) | (refine Sees.obj ?_ ?_ ?_ <;> first | exact ⟨_, _, by assumption, rfl⟩ | (simp [U_len, UU_len, IT_len] <;> fail) | (simp [noIdsE_U, noIdsE_UU, noIdsE_IT] <;> fail) | (simp [U, UU, upd] <;> fail) | (simp [U, UU, upd, neS, *] <;> fail)) | (refine Sees.of_seen 3 ?_ <;> simp [seen, upd, noIdsE, noIdsL, noIds, U, UU, Nat.add_assoc] <;> fail) | refine Sees.agg ?_ | refine And.intro ?_ ?_ | simp only [SeesL])) ?_; simp (maxSteps := 400000) (dsimp := false) only [h1, h2, h4, hH, hne, hi, eq_true hi, axs, AThen, ABlock, dstsOk, AStep, callsF, AWant, aop, AS.ev, AS.put, upd, AS.bound, abin, aint, aload, astore, cellsAt, AV.cells, alen, elems, AV.int?, FPost, aresL, ares1, pack, afill, splice, Value.oneCell', Nat.reduceLT, Nat.reduceLeDiff, Nat.reduceEqDiff, Nat.reduceAdd, Nat.reduceMul, Nat.reduceSub, Nat.reduceBEq, Int.reduceLE, Int.reduceLT, Int.reduceToNat, Int.reduceNeg, Int.reduceEq, axt, ftK, ft3, pickP, AScope, AAll, pickQ, ftQ, inHeap, SL, tys]
        refine ACallK.strict rfl (ck) (by simp only [SeesL, h1, h2, h4, hH, hH1, hne, hn3, e2, axs, axt, AS.ev, AS.put, upd, inHeap, Nat.reduceLT, Nat.reduceEqDiff, Nat.reduceAdd, Nat.reduceBEq, SL]; repeat' (first | exact True.intro | exact Sees.sc | exact Sees.none | ((with_reducible refine Sees.same ?_) <;> simp [noIds, noIdsL, noIdsE, noIdsE_U, noIdsE_UU, noIdsE_IT] <;> fail) | (refine Live.sees ?_ ?_ <;> first | assumption | (simp [noIdsE_U, noIdsE_UU, noIdsE_IT] <;> fail)) | (refine Sees.obj ?_ ?_ ?_ <;> first | exact ⟨_, _, by assumption, rfl⟩ | (simp [U_len, UU_len, IT_len] <;> fail) | (simp [noIdsE_U, noIdsE_UU, noIdsE_IT] <;> fail) | (simp [U, UU, upd] <;> fail) | (simp [U, UU, upd, neS, *] <;> fail)) | (refine Sees.of_seen 3 ?_ <;> simp [seen, upd, noIdsE, noIdsL, noIds, U, UU, Nat.add_assoc] <;> fail) | refine Sees.agg ?_ | refine And.intro ?_ ?_ | simp only [SeesL])) ?_; simp (maxSteps := 400000) (dsimp := false) only [h1, h2, h4, hH, hH1, hne, hn3, e2, axs, AThen, ABlock, dstsOk, AStep, callsF, AWant, aop, AS.ev, AS.put, upd, AS.bound, abin, aint, aload, astore, cellsAt, AV.cells, alen, elems, AV.int?, FPost, aresL, ares1, pack, afill, splice, Value.oneCell', Nat.reduceLT, Nat.reduceLeDiff, Nat.reduceEqDiff, Nat.reduceAdd, Nat.reduceMul, Nat.reduceSub, Nat.reduceBEq, Int.reduceLE, Int.reduceLT, Int.reduceToNat, Int.reduceNeg, Int.reduceEq, axt, ftK, ft3, pickP, AScope, AAll, pickQ, ftQ, inHeap, SL, tys]
        refine ⟨(⟨C, setKd S i 0, q⟩, [] ++ [k]), Nat.lt_succ_self _, by omega, rfl, by rw [← hs]; exact hx2, by show ((many 2 (setKd S i 0) : Nat) : Int) ≤ z; rw [← hs]; exact hmS, by show (setKd S i 0).length ≤ _; rw [← hs, hlS]; exact hxl, by show ([] ++ [k]).length + q.length ≤ _; rw [List.length_append, List.length_singleton]; omega, ?_, fun id z o m e => by cases e; omega⟩
        exact Live.mk (upd_same _ _ _) rfl
      · have hs : (shrS ⟨C, S, k :: q⟩).S = S := if_neg hi
        refine ACallK.strict rfl (ca) (by simp only [SeesL, h1, h2, h4, hH, hH1, hne, hn3, e2, hi, eq_false hi, axs, axt, AS.ev, AS.put, upd, inHeap, Nat.reduceLT, Nat.reduceEqDiff, Nat.reduceAdd, Nat.reduceBEq, SL]; repeat' (first | exact True.intro | exact Sees.sc | exact Sees.none | ((with_reducible refine Sees.same ?_) <;> simp [noIds, noIdsL, noIdsE, noIdsE_U, noIdsE_UU, noIdsE_IT] <;> fail) | (refine Live.sees ?_ ?_ <;> first | assumption | (simp [noIdsE_U, noIdsE_UU, noIdsE_IT] <;> fail)) | (refine Sees.obj ?_ ?_ ?_ <;> first | exact ⟨_, _, by assumption, rfl⟩ | (simp [U_len, UU_len, IT_len] <;> fail) | (simp [noIdsE_U, noIdsE_UU, noIdsE_IT] <;> fail) | (simp [U, UU, upd] <;> fail) | (simp [U, UU, upd, neS, *] <;> fail)) | (refine Sees.of_seen 3 ?_ <;> simp [seen, upd, noIdsE, noIdsL, noIds, U, UU, Nat.add_assoc] <;> fail) | refine Sees.agg ?_ | refine And.intro ?_ ?_ | simp only [SeesL])) ?_; simp (maxSteps := 400000) (dsimp := false) only [h1, h2, h4, hH, hH1, hne, hn3, e2, hi, eq_false hi, axs, AThen, ABlock, dstsOk, AStep, callsF, AWant, aop, AS.ev, AS.put, upd, AS.bound, abin, aint, aload, astore, cellsAt, AV.cells, alen, elems, AV.int?, FPost, aresL, ares1, pack, afill, splice, Value.oneCell', Nat.reduceLT, Nat.reduceLeDiff, Nat.reduceEqDiff, Nat.reduceAdd, Nat.reduceMul, Nat.reduceSub, Nat.reduceBEq, Int.reduceLE, Int.reduceLT, Int.reduceToNat, Int.reduceNeg, Int.reduceEq, axt, ftK, ft3, pickP, AScope, AAll, pickQ, ftQ, inHeap, SL, tys]
        refine ⟨(⟨C, S, q⟩, [] ++ [k]), Nat.lt_succ_self _, by omega, rfl, by rw [← hs]; exact hx2, by show ((many 2 (S) : Nat) : Int) ≤ z; rw [← hs]; exact hmS, by show (S).length ≤ _; rw [← hs, hlS]; exact hxl, by show ([] ++ [k]).length + q.length ≤ _; rw [List.length_append, List.length_singleton]; omega, ?_, fun id z o m e => by cases e; omega⟩
        exact Live.mk (upd_same _ _ _) rfl
    · have hid2 := hid _ _ _ _ e1
      rw [U_len] at e1
      have hn4 : (¬ id = t.n ∧ ¬ t.n = id ∧ ¬ id = t.n + 1 ∧ ¬ t.n + 1 = id) ∧ (¬ id = n ∧ ¬ n = id ∧ ¬ id = n + 1 ∧ ¬ n + 1 = id) := by omega
      by_cases hi : idxK S k ≥ 0
      · obtain ⟨i, hii⟩ : ∃ i : Nat, idxK S k = i := ⟨(idxK S k).toNat, by omega⟩
        have ck := rSet S i 0 (by omega) (by omega)
        have hs : (shrS ⟨C, S, k :: q⟩).S = setKd S i 0 := by
          show (if idxK S k ≥ 0 then setKd S (idxK S k).toNat 0 else S) = _
          rw [if_pos hi, hii]; rfl
        rw [hii] at ca hi
        refine ACallK.strict rfl (ca) (by simp only [SeesL, h1, h2, h4, hH, hne, hi, eq_true hi, axs, axt, AS.ev, AS.put, upd, inHeap, Nat.reduceLT, Nat.reduceEqDiff, Nat.reduceAdd, Nat.reduceBEq, SL]; repeat' (first | exact True.intro | exact Sees.sc | exact Sees.none | ((with_reducible refine Sees.same ?_) <;> simp [noIds, noIdsL, noIdsE, noIdsE_U, noIdsE_UU, noIdsE_IT] <;> fail) | (refine Live.sees ?_ ?_ <;> first | assumption | (simp [noIdsE_U, noIdsE_UU, noIdsE_IT] <;> fail)) | (refine Sees.obj ?_ ?_ ?_ <;> first | exact ⟨_, _, by assumption, rfl⟩ | (simp [U_len, UU_len, IT_len] <;> fail) | (simp [noIdsE_U, noIdsE_UU, noIdsE_IT] <;> fail) | (simp [U, UU, upd] <;> fail) | (simp [U, UU, upd, neS, *] <;> fail)) | (refine Sees.of_seen 3 ?_ <;> simp [seen, upd, noIdsE, noIdsL, noIds, U, UU, Nat.add_assoc] <;> fail) | refine Sees.agg ?_ | refine And.intro ?_ ?_ | simp only [SeesL])) ?_; simp (maxSteps := 400000) (dsimp := false) only [h1, h2, h4, hH, hne, hi, eq_true hi, axs, AThen, ABlock, dstsOk, AStep, callsF, AWant, aop, AS.ev, AS.put, upd, AS.bound, abin, aint, aload, astore, cellsAt, AV.cells, alen, elems, AV.int?, FPost, aresL, ares1, pack, afill, splice, Value.oneCell', Nat.reduceLT, Nat.reduceLeDiff, Nat.reduceEqDiff, Nat.reduceAdd, Nat.reduceMul, Nat.reduceSub, Nat.reduceBEq, Int.reduceLE, Int.reduceLT, Int.reduceToNat, Int.reduceNeg, Int.reduceEq, axt, ftK, ft3, pickP, AScope, AAll, pickQ, ftQ, inHeap, SL, tys]
        refine ACallK.strict rfl (ck) (by simp only [SeesL, h1, h2, h4, hH, hH1, hne, hn3, e1, e2, hn4, b1, b2, U_len, axs, axt, AS.ev, AS.put, upd, inHeap, Nat.reduceLT, Nat.reduceEqDiff, Nat.reduceAdd, Nat.reduceBEq, SL]; repeat' (first | exact True.intro | exact Sees.sc | exact Sees.none | ((with_reducible refine Sees.same ?_) <;> simp [noIds, noIdsL, noIdsE, noIdsE_U, noIdsE_UU, noIdsE_IT] <;> fail) | (refine Live.sees ?_ ?_ <;> first | assumption | (simp [noIdsE_U, noIdsE_UU, noIdsE_IT] <;> fail)) | (refine Sees.obj ?_ ?_ ?_ <;> first | exact ⟨_, _, by assumption, rfl⟩ | (simp [U_len, UU_len, IT_len] <;> fail) | (simp [noIdsE_U, noIdsE_UU, noIdsE_IT] <;> fail) | (simp [U, UU, upd] <;> fail) | (simp [U, UU, upd, neS, *] <;> fail)) | (refine Sees.of_seen 3 ?_ <;> simp [seen, upd, noIdsE, noIdsL, noIds, U, UU, Nat.add_assoc] <;> fail) | refine Sees.agg ?_ | refine And.intro ?_ ?_ | simp only [SeesL])) ?_; simp (maxSteps := 400000) (dsimp := false) only [h1, h2, h4, hH, hH1, hne, hn3, e1, e2, hn4, b1, b2, U_len, axs, AThen, ABlock, dstsOk, AStep, callsF, AWant, aop, AS.ev, AS.put, upd, AS.bound, abin, aint, aload, astore, cellsAt, AV.cells, alen, elems, AV.int?, FPost, aresL, ares1, pack, afill, splice, Value.oneCell', Nat.reduceLT, Nat.reduceLeDiff, Nat.reduceEqDiff, Nat.reduceAdd, Nat.reduceMul, Nat.reduceSub, Nat.reduceBEq, Int.reduceLE, Int.reduceLT, Int.reduceToNat, Int.reduceNeg, Int.reduceEq, axt, ftK, ft3, pickP, AScope, AAll, pickQ, ftQ, inHeap, SL, tys]
        refine ⟨(⟨C, setKd S i 0, q⟩, out ++ [k]), Nat.lt_succ_self _, by omega, rfl, by rw [← hs]; exact hx2, by show ((many 2 (setKd S i 0) : Nat) : Int) ≤ z; rw [← hs]; exact hmS, by show (setKd S i 0).length ≤ _; rw [← hs, hlS]; exact hxl, by show (out ++ [k]).length + q.length ≤ _; rw [List.length_append, List.length_singleton]; omega, ?_, fun id z o m e => by cases e; omega⟩
        rw [hsn]; exact Live.mk (upd_same _ _ _) (by simp [U_len])
      · have hs : (shrS ⟨C, S, k :: q⟩).S = S := if_neg hi
        refine ACallK.strict rfl (ca) (by simp only [SeesL, h1, h2, h4, hH, hH1, hne, hn3, e1, e2, hn4, b1, b2, U_len, hi, eq_false hi, axs, axt, AS.ev, AS.put, upd, inHeap, Nat.reduceLT, Nat.reduceEqDiff, Nat.reduceAdd, Nat.reduceBEq, SL]; repeat' (first | exact True.intro | exact Sees.sc | exact Sees.none | ((with_reducible refine Sees.same ?_) <;> simp [noIds, noIdsL, noIdsE, noIdsE_U, noIdsE_UU, noIdsE_IT] <;> fail) | (refine Live.sees ?_ ?_ <;> first | assumption | (simp [noIdsE_U, noIdsE_UU, noIdsE_IT] <;> fail)) | (refine Sees.obj ?_ ?_ ?_ <;> first | exact ⟨_, _, by assumption, rfl⟩ | (simp [U_len, UU_len, IT_len] <;> fail) | (simp [noIdsE_U, noIdsE_UU, noIdsE_IT] <;> fail) | (simp [U, UU, upd] <;> fail) | (simp [U, UU, upd, neS, *] <;> fail)) | (refine Sees.of_seen 3 ?_ <;> simp [seen, upd, noIdsE, noIdsL, noIds, U, UU, Nat.add_assoc] <;> fail) | refine Sees.agg ?_ | refine And.intro ?_ ?_ | simp only [SeesL])) ?_; simp (maxSteps := 400000) (dsimp := false) only [h1, h2, h4, hH, hH1, hne, hn3, e1, e2, hn4, b1, b2, U_len, hi, eq_false hi, axs, AThen, ABlock, dstsOk, AStep, callsF, AWant, aop, AS.ev, AS.put, upd, AS.bound, abin, aint, aload, astore, cellsAt, AV.cells, alen, elems, AV.int?, FPost, aresL, ares1, pack, afill, splice, Value.oneCell', Nat.reduceLT, Nat.reduceLeDiff, Nat.reduceEqDiff, Nat.reduceAdd, Nat.reduceMul, Nat.reduceSub, Nat.reduceBEq, Int.reduceLE, Int.reduceLT, Int.reduceToNat, Int.reduceNeg, Int.reduceEq, axt, ftK, ft3, pickP, AScope, AAll, pickQ, ftQ, inHeap, SL, tys]
        refine ⟨(⟨C, S, q⟩, out ++ [k]), Nat.lt_succ_self _, by omega, rfl, by rw [← hs]; exact hx2, by show ((many 2 (S) : Nat) : Int) ≤ z; rw [← hs]; exact hmS, by show (S).length ≤ _; rw [← hs, hlS]; exact hxl, by show (out ++ [k]).length + q.length ≤ _; rw [List.length_append, List.length_singleton]; omega, ?_, fun id z o m e => by cases e; omega⟩
        rw [hsn]; exact Live.mk (upd_same _ _ _) (by simp [U_len])
  · rw [shrunk_stop hc] at hx
    subst hx
    refine ACallP.pure rfl (cm) ?_; simp (maxSteps := 400000) (dsimp := false) only [h1, h2, h4, hH, hH1, hne, U_len, w1, hc, axs, AThen, ABlock, dstsOk, AStep, callsF, AWant, aop, AS.ev, AS.put, upd, AS.bound, abin, aint, aload, astore, cellsAt, AV.cells, alen, elems, AV.int?, FPost, aresL, ares1, pack, afill, splice, Value.oneCell', Nat.reduceLT, Nat.reduceLeDiff, Nat.reduceEqDiff, Nat.reduceAdd, Nat.reduceMul, Nat.reduceSub, Nat.reduceBEq, Int.reduceLE, Int.reduceLT, Int.reduceToNat, Int.reduceNeg, Int.reduceEq, axt, ftK, ft3, pickP, AScope, AAll, pickQ, ftQ, inHeap, SL, tys]
    refine ⟨_, rfl, Sees.tup ?_⟩
    simp only [SeesL]
    refine ⟨Sees.same (by simp [SL, noIds, noIdsL, noIdsE_IT, noIdsE_U]), Live.sees (te := 35) ?_ (noIdsE_U _), trivial⟩
    rcases hv with ⟨e1, e2⟩ | ⟨id, e1, e2⟩
    · exact .inl ⟨e1, e2⟩
    · exact .inr ⟨id, e1, (upd_ne _ _ (by have := hid _ _ _ _ e1; omega)).trans e2⟩
theorem rLKeys (s : LS) (hl : s.S.length ≤ 100000) (hq : s.Q.length ≤ 100000) : PCalls Try.prog 17 [SL s] (.lst 1 (U (liKeys s))) := by
  obtain ⟨C, S, Q⟩ := s
  simp only at hl hq
  show PCalls _ _ _ (.lst 1 (U (hotK S ++ Q)))
  refine PCalls.intro2 Try.func17 rfl rfl Try.ntmps17 Try.results17 (by simp) fun n => ?_; simp (maxSteps := 400000) (dsimp := false) only [axs, AThen, ABlock, dstsOk, AStep, callsF, AWant, aop, AS.ev, AS.put, upd, AS.bound, abin, aint, aload, astore, cellsAt, AV.cells, alen, elems, AV.int?, FPost, aresL, ares1, pack, afill, splice, Value.oneCell', Nat.reduceLT, Nat.reduceLeDiff, Nat.reduceEqDiff, Nat.reduceAdd, Nat.reduceMul, Nat.reduceSub, Nat.reduceBEq, Int.reduceLE, Int.reduceLT, Int.reduceToNat, Int.reduceNeg, Int.reduceEq, axt, ftK, ft3, pickP, AScope, AAll, pickQ, ftQ, inHeap, SL, tys]
  refine ALoop.upto S.length (fun p t => t.t 1 = .ptr n 3 0 0 ∧ t.t 4 = .sc (.int .i64 p) ∧ n < t.n ∧ t.H n = some (.obj 31 3 [[.sc (.int .i64 C), .lst 2 (IT S), .lst 1 (U Q)]] false) ∧ Live 35 1 t.H (U (hotK (S.take p))) (t.t 3)) ⟨rfl, rfl, Nat.lt_succ_self _, upd_same _ _ _, Live.nil⟩ ?_
  rintro p t hp hb ⟨h1, h4, hlt0, hH, hv⟩
  have hnn : (¬ n = t.n ∧ ¬ t.n = n) ∧ (¬ n = t.n + 1 ∧ ¬ t.n + 1 = n) := by omega
  have hml := many_le 2 (S.take p)
  rw [List.length_take, ← hotK_len] at hml
  rcases Nat.lt_or_ge p S.length with hlt | hge
  · obtain ⟨x, hx, hp0, hpl, hw, hT, hD⟩ := idx hlt (by omega)
    have hg := IT_get hx
    have hs : U (hotK (S.take (p + 1))) = U (hotK (S.take p)) ++ (if x.2 = 2 then [[.sc (.int .u64 x.1)]] else []) := by
      rw [hT, hotK_snoc]
      split <;> simp [U]
    rw [hs]
    have b1 : ((hotK (S.take p)).length + 1) * 8 ≤ 140737488355328 := by omega
    have b2 : (hotK (S.take p)).length + 1 ≤ 1099511627776 := by omega
    generalize hotK (S.take p) = q at *
    by_cases hk : x.2 = 2
    · rw [if_pos hk]
      rcases hv.cases hb with ⟨e1, e2⟩ | ⟨id, i1, i2, e1, e2⟩
      · obtain rfl : q = [] := by simpa [U] using e1
        simp (maxSteps := 400000) (dsimp := false) only [h1, h4, hH, hp0, hpl, hg, hw, hk, e2, hnn, IT_len, axs, AThen, ABlock, dstsOk, AStep, callsF, AWant, aop, AS.ev, AS.put, upd, AS.bound, abin, aint, aload, astore, cellsAt, AV.cells, alen, elems, AV.int?, FPost, aresL, ares1, pack, afill, splice, Value.oneCell', Nat.reduceLT, Nat.reduceLeDiff, Nat.reduceEqDiff, Nat.reduceAdd, Nat.reduceMul, Nat.reduceSub, Nat.reduceBEq, Int.reduceLE, Int.reduceLT, Int.reduceToNat, Int.reduceNeg, Int.reduceEq, axt, ftK, ft3, pickP, AScope, AAll, pickQ, ftQ, inHeap, SL, tys]
        exact ⟨hlt, by omega, Live.mk (upd_same _ _ _) rfl⟩
      · rw [U_len] at e1
        have hin : ¬ id = n ∧ ¬ n = id := by
          have : id ≠ n := by rintro rfl; rw [hH] at e2; simp at e2
          omega
        have hn4 : (¬ id = t.n ∧ ¬ t.n = id) ∧ (¬ id = t.n + 1 ∧ ¬ t.n + 1 = id) := by omega
        simp (maxSteps := 400000) (dsimp := false) only [h1, h4, hH, hp0, hpl, hg, hw, hk, e1, e2, hnn, hn4, hin, IT_len, U_len, b1, b2, axs, AThen, ABlock, dstsOk, AStep, callsF, AWant, aop, AS.ev, AS.put, upd, AS.bound, abin, aint, aload, astore, cellsAt, AV.cells, alen, elems, AV.int?, FPost, aresL, ares1, pack, afill, splice, Value.oneCell', Nat.reduceLT, Nat.reduceLeDiff, Nat.reduceEqDiff, Nat.reduceAdd, Nat.reduceMul, Nat.reduceSub, Nat.reduceBEq, Int.reduceLE, Int.reduceLT, Int.reduceToNat, Int.reduceNeg, Int.reduceEq, axt, ftK, ft3, pickP, AScope, AAll, pickQ, ftQ, inHeap, SL, tys]
        exact ⟨hlt, by omega, Live.mk (upd_same _ _ _) (by simp [U_len])⟩
    · rw [if_neg hk, List.append_nil]
      simp (maxSteps := 400000) (dsimp := false) only [h1, h4, hH, hp0, hpl, hg, hw, hk, hnn, IT_len, axs, AThen, ABlock, dstsOk, AStep, callsF, AWant, aop, AS.ev, AS.put, upd, AS.bound, abin, aint, aload, astore, cellsAt, AV.cells, alen, elems, AV.int?, FPost, aresL, ares1, pack, afill, splice, Value.oneCell', Nat.reduceLT, Nat.reduceLeDiff, Nat.reduceEqDiff, Nat.reduceAdd, Nat.reduceMul, Nat.reduceSub, Nat.reduceBEq, Int.reduceLE, Int.reduceLT, Int.reduceToNat, Int.reduceNeg, Int.reduceEq, axt, ftK, ft3, pickP, AScope, AAll, pickQ, ftQ, inHeap, SL, tys]
      exact ⟨hlt, hlt0, hv⟩
  · have hpl : ¬ (p : Int) < S.length := by omega
    rw [List.take_of_length_le hge] at hv hml
    have hsn : U (hotK S ++ Q) = U (hotK S) ++ U Q := by simp [U]
    generalize hotK S = q at *
    have b1 : (q.length + Q.length) * 8 ≤ 140737488355328 := by omega
    have b2 : q.length + Q.length ≤ 1099511627776 := by omega
    rcases hv.cases hb with ⟨e1, e2⟩ | ⟨id, i1, i2, e1, e2⟩
    · obtain rfl : q = [] := by simpa [U] using e1
      cases Q with
      | nil =>
        simp (maxSteps := 400000) (dsimp := false) only [h1, h4, hH, hpl, e2, hnn, U_nil, IT_len, axs, AThen, ABlock, dstsOk, AStep, callsF, AWant, aop, AS.ev, AS.put, upd, AS.bound, abin, aint, aload, astore, cellsAt, AV.cells, alen, elems, AV.int?, FPost, aresL, ares1, pack, afill, splice, Value.oneCell', Nat.reduceLT, Nat.reduceLeDiff, Nat.reduceEqDiff, Nat.reduceAdd, Nat.reduceMul, Nat.reduceSub, Nat.reduceBEq, Int.reduceLE, Int.reduceLT, Int.reduceToNat, Int.reduceNeg, Int.reduceEq, axt, ftK, ft3, pickP, AScope, AAll, pickQ, ftQ, inHeap, SL, tys]
        exact ⟨_, rfl, Sees.none⟩
      | cons y Q =>
        have hu : U (y :: Q) = [.sc (.int .u64 y)] :: U Q := rfl
        rw [List.length_cons] at hq
        have b1 : (Q.length + 1) * 8 ≤ 140737488355328 := by omega
        have b2 : Q.length + 1 ≤ 1099511627776 := by omega
        have b3 : Q.length ≤ 1099511627775 := by omega
        simp (maxSteps := 400000) (dsimp := false) only [h1, h4, hH, hpl, e2, hnn, hu, U_len, b1, b2, b3, IT_len, axs, AThen, ABlock, dstsOk, AStep, callsF, AWant, aop, AS.ev, AS.put, upd, AS.bound, abin, aint, aload, astore, cellsAt, AV.cells, alen, elems, AV.int?, FPost, aresL, ares1, pack, afill, splice, Value.oneCell', Nat.reduceLT, Nat.reduceLeDiff, Nat.reduceEqDiff, Nat.reduceAdd, Nat.reduceMul, Nat.reduceSub, Nat.reduceBEq, Int.reduceLE, Int.reduceLT, Int.reduceToNat, Int.reduceNeg, Int.reduceEq, axt, ftK, ft3, pickP, AScope, AAll, pickQ, ftQ, inHeap, SL, tys]
        exact ⟨_, rfl, (Live.mk (upd_same _ _ _) (by simp [U_len]) : Live 35 1 _ (U (y :: Q)) _).sees (noIdsE_U _)⟩
    · rw [U_len] at e1
      have hn4 : (¬ id = t.n ∧ ¬ t.n = id) := by omega
      simp (maxSteps := 400000) (dsimp := false) only [h1, h4, hH, hpl, e1, e2, hnn, hn4, U_len, b1, b2, IT_len, axs, AThen, ABlock, dstsOk, AStep, callsF, AWant, aop, AS.ev, AS.put, upd, AS.bound, abin, aint, aload, astore, cellsAt, AV.cells, alen, elems, AV.int?, FPost, aresL, ares1, pack, afill, splice, Value.oneCell', Nat.reduceLT, Nat.reduceLeDiff, Nat.reduceEqDiff, Nat.reduceAdd, Nat.reduceMul, Nat.reduceSub, Nat.reduceBEq, Int.reduceLE, Int.reduceLT, Int.reduceToNat, Int.reduceNeg, Int.reduceEq, axt, ftK, ft3, pickP, AScope, AAll, pickQ, ftQ, inHeap, SL, tys]
      rw [← hsn]
      exact ⟨_, rfl, (Live.mk (upd_same _ _ _) (by simp [U_len]) : Live 35 1 _ (U (q ++ Q)) _).sees (noIdsE_U _)⟩
end Go.Al
