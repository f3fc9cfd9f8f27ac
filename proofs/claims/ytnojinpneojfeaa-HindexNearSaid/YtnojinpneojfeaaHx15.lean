/- Numbers by keys, in slots: the laws of acts and of what is got answer true. Conditions: the numbers fit their kinds. -/
import Derived.Test.YtnojinpneojfeaaHx14
set_option linter.unusedVariables false
set_option linter.unusedSimpArgs false
set_option maxRecDepth 20000
set_option maxHeartbeats 1600000
-- axs, AThen, ABlock, dstsOk, AStep, callsF, AWant, aop, AS.ev, AS.put, upd, AS.bound, abin, aint, aload, astore, cellsAt, AV.cells, alen, elems, AV.int?, FPost, aresL, ares1, pack, afill, splice, Value.oneCell', Nat.reduceLT, Nat.reduceLeDiff, Nat.reduceEqDiff, Nat.reduceAdd, Nat.reduceMul, Nat.reduceSub, Nat.reduceBEq, Int.reduceLE, Int.reduceLT, Int.reduceToNat, Int.reduceNeg, Int.reduceEq, axt, ftK, pickP, AScope, AAll, pickQ, ftQ, inHeap, RT, Sl3.cells, tys: RT, Sl3.cells
-- NOIDS: noIdsE_TL, noIdsE_HA
-- LENS: TL_len, HA_len
namespace Go.Al
open Go.Proofs
theorem law_HindexActs (e : List (List Value)) (f : ∀ x ∈ e, FitK [some .u8, some .u64, some .i32] x) : PCalls Try.prog 3 [.lst 3 (e.map fun x => x.map .sc)] (.sc (.bool true)) := by
  obtain ⟨l, hl, hf, _⟩ := rows_HA f
  rw [hl]
  refine PCalls.intro2 Try.func3 rfl rfl Try.ntmps3 Try.results3 (by simp) fun n => ?_; simp (maxSteps := 400000) (dsimp := false) only [axs, AThen, ABlock, dstsOk, AStep, callsF, AWant, aop, AS.ev, AS.put, upd, AS.bound, abin, aint, aload, astore, cellsAt, AV.cells, alen, elems, AV.int?, FPost, aresL, ares1, pack, afill, splice, Value.oneCell', Nat.reduceLT, Nat.reduceLeDiff, Nat.reduceEqDiff, Nat.reduceAdd, Nat.reduceMul, Nat.reduceSub, Nat.reduceBEq, Int.reduceLE, Int.reduceLT, Int.reduceToNat, Int.reduceNeg, Int.reduceEq, axt, ftK, pickP, AScope, AAll, pickQ, ftQ, inHeap, RT, Sl3.cells, tys]
  refine ACallK.strict rfl (f8) (by simp only [SeesL, HA_len, axs, axt, AS.ev, AS.put, upd, inHeap, Nat.reduceLT, Nat.reduceEqDiff, Nat.reduceAdd, Nat.reduceBEq, RT, Sl3.cells]; repeat' (first | exact True.intro | exact Sees.sc | exact Sees.none | ((with_reducible refine Sees.same ?_) <;> simp [noIds, noIdsL, noIdsE, noIdsE_U, noIdsE_UU, noIdsE_TL, noIdsE_HA] <;> fail) | (refine Live.sees ?_ ?_ <;> first | assumption | (simp [noIdsE_U, noIdsE_UU, noIdsE_TL, noIdsE_HA] <;> fail)) | (refine Sees.obj ?_ ?_ ?_ <;> first | exact ⟨_, _, by assumption, rfl⟩ | (simp [U_len, UU_len, TL_len, HA_len] <;> fail) | (simp [noIdsE_U, noIdsE_UU, noIdsE_TL, noIdsE_HA] <;> fail) | (simp [U, UU, upd] <;> fail) | (simp [U, UU, upd, neS, *] <;> fail)) | (refine Sees.of_seen 3 ?_ <;> simp [seen, upd, noIdsE, noIdsL, noIds, U, UU, Nat.add_assoc] <;> fail) | refine Sees.agg ?_ | refine And.intro ?_ ?_ | simp only [SeesL])) ?_; simp (maxSteps := 400000) (dsimp := false) only [HA_len, axs, AThen, ABlock, dstsOk, AStep, callsF, AWant, aop, AS.ev, AS.put, upd, AS.bound, abin, aint, aload, astore, cellsAt, AV.cells, alen, elems, AV.int?, FPost, aresL, ares1, pack, afill, splice, Value.oneCell', Nat.reduceLT, Nat.reduceLeDiff, Nat.reduceEqDiff, Nat.reduceAdd, Nat.reduceMul, Nat.reduceSub, Nat.reduceBEq, Int.reduceLE, Int.reduceLT, Int.reduceToNat, Int.reduceNeg, Int.reduceEq, axt, ftK, pickP, AScope, AAll, pickQ, ftQ, inHeap, RT, Sl3.cells, tys]
  by_cases h : l.length ≤ 50
  · have h' : ¬ (l.length : Int) > 50 := by omega
    simp (maxSteps := 400000) (dsimp := false) only [h', axs, AThen, ABlock, dstsOk, AStep, callsF, AWant, aop, AS.ev, AS.put, upd, AS.bound, abin, aint, aload, astore, cellsAt, AV.cells, alen, elems, AV.int?, FPost, aresL, ares1, pack, afill, splice, Value.oneCell', Nat.reduceLT, Nat.reduceLeDiff, Nat.reduceEqDiff, Nat.reduceAdd, Nat.reduceMul, Nat.reduceSub, Nat.reduceBEq, Int.reduceLE, Int.reduceLT, Int.reduceToNat, Int.reduceNeg, Int.reduceEq, axt, ftK, pickP, AScope, AAll, pickQ, ftQ, inHeap, RT, Sl3.cells, tys]
    refine ACallK.heap _ rfl (cHtRun l (by omega) hf _ _) ?_
    rintro r H' n' ⟨a, s, rfl, hle, hkeep, hA, ha, hs⟩
    obtain ⟨ok, le1, le2⟩ := hRun_ok l hf (by omega)
    generalize hRun l = R at *
    have hlen := ok.len
    simp (maxSteps := 400000) (dsimp := false) only [axs, AThen, ABlock, dstsOk, AStep, callsF, AWant, aop, AS.ev, AS.put, upd, AS.bound, abin, aint, aload, astore, cellsAt, AV.cells, alen, elems, AV.int?, FPost, aresL, ares1, pack, afill, splice, Value.oneCell', Nat.reduceLT, Nat.reduceLeDiff, Nat.reduceEqDiff, Nat.reduceAdd, Nat.reduceMul, Nat.reduceSub, Nat.reduceBEq, Int.reduceLE, Int.reduceLT, Int.reduceToNat, Int.reduceNeg, Int.reduceEq, axt, ftK, pickP, AScope, AAll, pickQ, ftQ, inHeap, RT, Sl3.cells, tys]
    refine ALoop.upto (R.length + 2) (fun p t => t.t 3 = .sc (.bool true) ∧ t.t 4 = .ptr a 2 0 0 ∧ t.t 5 = .ptr n' 1 0 0 ∧ t.t 6 = .sc (.bool true) ∧ t.t 7 = .sc (.int .i64 ((p : Int) - 1)) ∧ n' < t.n ∧ t.H n' = some (.obj 27 1 [[.lst 3 (TL R)]] false) ∧ HtH t.H t.n a s R (cnt R)) ⟨rfl, rfl, rfl, rfl, rfl, by show n' < n' + 1; omega, by simp [upd], ?_⟩ ?_
    · refine hA.keep (by show n' ≤ n' + 1; omega) (fun j hj ho => ?_)
      have : ¬ j = n' := by omega
      simp [upd, this]
    · rintro p t hp hb ⟨e3, e4, e5, e6, e7, hlt, en, hA⟩
      have hwp : IntKind.i64.wrap ((p : Int) - 1 + 1) = ((p + 1 : Nat) : Int) - 1 := by rw [IntWalk.i64_in _ ⟨by omega, by omega⟩]; omega
      by_cases hc : (p : Int) - 1 ≤ R.length
      · have hplt : p < R.length + 2 := by omega
        have hwi : ((p : Int) - 1) = ((p : Int) - 1) := rfl
        generalize (p : Int) - 1 = i at *
        simp (maxSteps := 400000) (dsimp := false) only [e3, e4, e5, e6, e7, en, hc, TL_len, axs, AThen, ABlock, dstsOk, AStep, callsF, AWant, aop, AS.ev, AS.put, upd, AS.bound, abin, aint, aload, astore, cellsAt, AV.cells, alen, elems, AV.int?, FPost, aresL, ares1, pack, afill, splice, Value.oneCell', Nat.reduceLT, Nat.reduceLeDiff, Nat.reduceEqDiff, Nat.reduceAdd, Nat.reduceMul, Nat.reduceSub, Nat.reduceBEq, Int.reduceLE, Int.reduceLT, Int.reduceToNat, Int.reduceNeg, Int.reduceEq, axt, ftK, pickP, AScope, AAll, pickQ, ftQ, inHeap, RT, Sl3.cells, tys]
        refine ACallK.heap _ rfl (cHtSlot hA i) ?_
        rintro r H2 n2 ⟨rfl, kp⟩
        have en2 : H2 n' = some (.obj 27 1 [[.lst 3 (TL R)]] false) := (kp.2 n' hlt).trans en
        have hA2 := hA.keeps kp
        have hle2 := kp.1
        have hne : ¬ n' = n2 ∧ ¬ n2 = n' := by omega
        by_cases h0 : i ≥ 0
        · by_cases h1 : i < R.length
          · have hat : atF R i = sl R i.toNat := if_pos ⟨h0, h1⟩
            have hg := TL_get (T := R) (q := i.toNat) (by omega)
            have h0' : 0 ≤ i := h0
            rw [hat]
            simp (maxSteps := 400000) (dsimp := false) only [e3, e4, e5, e6, e7, en2, hne, h0, h0', h1, hg, TL_len, upd_upd, bne_self_eq_false, hwp, axs, AThen, ABlock, dstsOk, AStep, callsF, AWant, aop, AS.ev, AS.put, upd, AS.bound, abin, aint, aload, astore, cellsAt, AV.cells, alen, elems, AV.int?, FPost, aresL, ares1, pack, afill, splice, Value.oneCell', Nat.reduceLT, Nat.reduceLeDiff, Nat.reduceEqDiff, Nat.reduceAdd, Nat.reduceMul, Nat.reduceSub, Nat.reduceBEq, Int.reduceLE, Int.reduceLT, Int.reduceToNat, Int.reduceNeg, Int.reduceEq, axt, ftK, pickP, AScope, AAll, pickQ, ftQ, inHeap, RT, Sl3.cells, tys]
            exact ⟨hplt, by omega, hA2.new⟩
          · have hat : atF R i = z3 := if_neg (fun hh => h1 hh.2)
            rw [hat]
            simp (maxSteps := 400000) (dsimp := false) only [e3, e4, e5, e6, e7, en2, hne, h0, h1, z3, TL_len, upd_upd, bne_self_eq_false, hwp, axs, AThen, ABlock, dstsOk, AStep, callsF, AWant, aop, AS.ev, AS.put, upd, AS.bound, abin, aint, aload, astore, cellsAt, AV.cells, alen, elems, AV.int?, FPost, aresL, ares1, pack, afill, splice, Value.oneCell', Nat.reduceLT, Nat.reduceLeDiff, Nat.reduceEqDiff, Nat.reduceAdd, Nat.reduceMul, Nat.reduceSub, Nat.reduceBEq, Int.reduceLE, Int.reduceLT, Int.reduceToNat, Int.reduceNeg, Int.reduceEq, axt, ftK, pickP, AScope, AAll, pickQ, ftQ, inHeap, RT, Sl3.cells, tys]
            exact ⟨hplt, by omega, hA2.new⟩
        · have hat : atF R i = z3 := if_neg (fun hh => h0 hh.1)
          rw [hat]
          simp (maxSteps := 400000) (dsimp := false) only [e3, e4, e5, e6, e7, en2, hne, h0, z3, TL_len, upd_upd, bne_self_eq_false, hwp, axs, AThen, ABlock, dstsOk, AStep, callsF, AWant, aop, AS.ev, AS.put, upd, AS.bound, abin, aint, aload, astore, cellsAt, AV.cells, alen, elems, AV.int?, FPost, aresL, ares1, pack, afill, splice, Value.oneCell', Nat.reduceLT, Nat.reduceLeDiff, Nat.reduceEqDiff, Nat.reduceAdd, Nat.reduceMul, Nat.reduceSub, Nat.reduceBEq, Int.reduceLE, Int.reduceLT, Int.reduceToNat, Int.reduceNeg, Int.reduceEq, axt, ftK, pickP, AScope, AAll, pickQ, ftQ, inHeap, RT, Sl3.cells, tys]
          exact ⟨hplt, by omega, hA2.new⟩
      · simp (maxSteps := 400000) (dsimp := false) only [e3, e4, e5, e6, e7, en, hc, TL_len, axs, AThen, ABlock, dstsOk, AStep, callsF, AWant, aop, AS.ev, AS.put, upd, AS.bound, abin, aint, aload, astore, cellsAt, AV.cells, alen, elems, AV.int?, FPost, aresL, ares1, pack, afill, splice, Value.oneCell', Nat.reduceLT, Nat.reduceLeDiff, Nat.reduceEqDiff, Nat.reduceAdd, Nat.reduceMul, Nat.reduceSub, Nat.reduceBEq, Int.reduceLE, Int.reduceLT, Int.reduceToNat, Int.reduceNeg, Int.reduceEq, axt, ftK, pickP, AScope, AAll, pickQ, ftQ, inHeap, RT, Sl3.cells, tys]
        exact ⟨_, rfl, Sees.sc⟩
  · have h' : (l.length : Int) > 50 := by omega
    simp (maxSteps := 400000) (dsimp := false) only [h', axs, AThen, ABlock, dstsOk, AStep, callsF, AWant, aop, AS.ev, AS.put, upd, AS.bound, abin, aint, aload, astore, cellsAt, AV.cells, alen, elems, AV.int?, FPost, aresL, ares1, pack, afill, splice, Value.oneCell', Nat.reduceLT, Nat.reduceLeDiff, Nat.reduceEqDiff, Nat.reduceAdd, Nat.reduceMul, Nat.reduceSub, Nat.reduceBEq, Int.reduceLE, Int.reduceLT, Int.reduceToNat, Int.reduceNeg, Int.reduceEq, axt, ftK, pickP, AScope, AAll, pickQ, ftQ, inHeap, RT, Sl3.cells, tys]
    exact ⟨_, rfl, Sees.sc⟩
theorem law_HindexGets (e : List (List Value)) (f : ∀ x ∈ e, FitK [some .u8, some .u64, some .i32] x) (k : Int) (w : (Lit.int .u64 k).wf = true) : PCalls Try.prog 4 [.lst 3 (e.map fun x => x.map .sc), .sc (.int .u64 k)] (.sc (.bool true)) := by
  obtain ⟨l, hl, hf, _⟩ := rows_HA f
  have hk : Key k := by
    simp [Lit.wf, IntKind.min, IntKind.max, IntKind.signed, IntKind.bits] at w
    exact ⟨w.1, by omega⟩
  rw [hl]
  refine PCalls.intro2 Try.func4 rfl rfl Try.ntmps4 Try.results4 (by simp) fun n => ?_; simp (maxSteps := 400000) (dsimp := false) only [axs, AThen, ABlock, dstsOk, AStep, callsF, AWant, aop, AS.ev, AS.put, upd, AS.bound, abin, aint, aload, astore, cellsAt, AV.cells, alen, elems, AV.int?, FPost, aresL, ares1, pack, afill, splice, Value.oneCell', Nat.reduceLT, Nat.reduceLeDiff, Nat.reduceEqDiff, Nat.reduceAdd, Nat.reduceMul, Nat.reduceSub, Nat.reduceBEq, Int.reduceLE, Int.reduceLT, Int.reduceToNat, Int.reduceNeg, Int.reduceEq, axt, ftK, pickP, AScope, AAll, pickQ, ftQ, inHeap, RT, Sl3.cells, tys]
  refine ACallK.strict rfl (f8) (by simp only [SeesL, HA_len, axs, axt, AS.ev, AS.put, upd, inHeap, Nat.reduceLT, Nat.reduceEqDiff, Nat.reduceAdd, Nat.reduceBEq, RT, Sl3.cells]; repeat' (first | exact True.intro | exact Sees.sc | exact Sees.none | ((with_reducible refine Sees.same ?_) <;> simp [noIds, noIdsL, noIdsE, noIdsE_U, noIdsE_UU, noIdsE_TL, noIdsE_HA] <;> fail) | (refine Live.sees ?_ ?_ <;> first | assumption | (simp [noIdsE_U, noIdsE_UU, noIdsE_TL, noIdsE_HA] <;> fail)) | (refine Sees.obj ?_ ?_ ?_ <;> first | exact ⟨_, _, by assumption, rfl⟩ | (simp [U_len, UU_len, TL_len, HA_len] <;> fail) | (simp [noIdsE_U, noIdsE_UU, noIdsE_TL, noIdsE_HA] <;> fail) | (simp [U, UU, upd] <;> fail) | (simp [U, UU, upd, neS, *] <;> fail)) | (refine Sees.of_seen 3 ?_ <;> simp [seen, upd, noIdsE, noIdsL, noIds, U, UU, Nat.add_assoc] <;> fail) | refine Sees.agg ?_ | refine And.intro ?_ ?_ | simp only [SeesL])) ?_; simp (maxSteps := 400000) (dsimp := false) only [HA_len, axs, AThen, ABlock, dstsOk, AStep, callsF, AWant, aop, AS.ev, AS.put, upd, AS.bound, abin, aint, aload, astore, cellsAt, AV.cells, alen, elems, AV.int?, FPost, aresL, ares1, pack, afill, splice, Value.oneCell', Nat.reduceLT, Nat.reduceLeDiff, Nat.reduceEqDiff, Nat.reduceAdd, Nat.reduceMul, Nat.reduceSub, Nat.reduceBEq, Int.reduceLE, Int.reduceLT, Int.reduceToNat, Int.reduceNeg, Int.reduceEq, axt, ftK, pickP, AScope, AAll, pickQ, ftQ, inHeap, RT, Sl3.cells, tys]
  by_cases h : l.length ≤ 50
  · have h' : ¬ (l.length : Int) > 50 := by omega
    simp (maxSteps := 400000) (dsimp := false) only [h', axs, AThen, ABlock, dstsOk, AStep, callsF, AWant, aop, AS.ev, AS.put, upd, AS.bound, abin, aint, aload, astore, cellsAt, AV.cells, alen, elems, AV.int?, FPost, aresL, ares1, pack, afill, splice, Value.oneCell', Nat.reduceLT, Nat.reduceLeDiff, Nat.reduceEqDiff, Nat.reduceAdd, Nat.reduceMul, Nat.reduceSub, Nat.reduceBEq, Int.reduceLE, Int.reduceLT, Int.reduceToNat, Int.reduceNeg, Int.reduceEq, axt, ftK, pickP, AScope, AAll, pickQ, ftQ, inHeap, RT, Sl3.cells, tys]
    refine ACallK.heap _ rfl (cHtRun l (by omega) hf _ _) ?_
    rintro r H' n' ⟨a, s, rfl, hle, hkeep, hA, ha, hs⟩
    obtain ⟨ok, le1, le2⟩ := hRun_ok l hf (by omega)
    generalize hRun l = R at *
    have hq := ok.find k
    generalize hF R k = q at *
    simp (maxSteps := 400000) (dsimp := false) only [axs, AThen, ABlock, dstsOk, AStep, callsF, AWant, aop, AS.ev, AS.put, upd, AS.bound, abin, aint, aload, astore, cellsAt, AV.cells, alen, elems, AV.int?, FPost, aresL, ares1, pack, afill, splice, Value.oneCell', Nat.reduceLT, Nat.reduceLeDiff, Nat.reduceEqDiff, Nat.reduceAdd, Nat.reduceMul, Nat.reduceSub, Nat.reduceBEq, Int.reduceLE, Int.reduceLT, Int.reduceToNat, Int.reduceNeg, Int.reduceEq, axt, ftK, pickP, AScope, AAll, pickQ, ftQ, inHeap, RT, Sl3.cells, tys]
    refine ACallK.heap _ rfl (cHtGet (T := R) (s := s) (m := (cnt R : Int)) ?_ ok.pw hk hq) ?_
    · refine hA.keep (by show n' ≤ n' + 1; omega) (fun j hj ho => ?_)
      have : ¬ j = n' := by omega
      simp [upd, this]
    rintro r H2 n2 ⟨rfl, kp⟩
    have en2 : H2 n' = some (.obj 27 1 [[.lst 3 (TL R)]] false) := (kp.2 n' (by show n' < n' + 1; omega)).trans (by simp [upd])
    have hA2 : HtH H2 n2 a s R (cnt R) := by
      have h1 := kp.1
      have h1 : n' + 1 ≤ n2 := h1
      refine hA.keep (by omega) (fun j hj ho => ?_)
      refine (kp.2 j (by show j < n' + 1; omega)).trans ?_
      have : ¬ j = n' := by omega
      simp [upd, this]
    simp (maxSteps := 400000) (dsimp := false) only [getF, en2, axs, AThen, ABlock, dstsOk, AStep, callsF, AWant, aop, AS.ev, AS.put, upd, AS.bound, abin, aint, aload, astore, cellsAt, AV.cells, alen, elems, AV.int?, FPost, aresL, ares1, pack, afill, splice, Value.oneCell', Nat.reduceLT, Nat.reduceLeDiff, Nat.reduceEqDiff, Nat.reduceAdd, Nat.reduceMul, Nat.reduceSub, Nat.reduceBEq, Int.reduceLE, Int.reduceLT, Int.reduceToNat, Int.reduceNeg, Int.reduceEq, axt, ftK, pickP, AScope, AAll, pickQ, ftQ, inHeap, RT, Sl3.cells, tys]
    refine ACallK.strict rfl (rHtGet ok.pw hk hq) (by simp only [SeesL, getF, en2, axs, axt, AS.ev, AS.put, upd, inHeap, Nat.reduceLT, Nat.reduceEqDiff, Nat.reduceAdd, Nat.reduceBEq, RT, Sl3.cells]; repeat' (first | exact True.intro | exact Sees.sc | exact Sees.none | ((with_reducible refine Sees.same ?_) <;> simp [noIds, noIdsL, noIdsE, noIdsE_U, noIdsE_UU, noIdsE_TL, noIdsE_HA] <;> fail) | (refine Live.sees ?_ ?_ <;> first | assumption | (simp [noIdsE_U, noIdsE_UU, noIdsE_TL, noIdsE_HA] <;> fail)) | (refine Sees.obj ?_ ?_ ?_ <;> first | exact ⟨_, _, by assumption, rfl⟩ | (simp [U_len, UU_len, TL_len, HA_len] <;> fail) | (simp [noIdsE_U, noIdsE_UU, noIdsE_TL, noIdsE_HA] <;> fail) | (simp [U, UU, upd] <;> fail) | (simp [U, UU, upd, neS, *] <;> fail)) | (refine Sees.of_seen 3 ?_ <;> simp [seen, upd, noIdsE, noIdsL, noIds, U, UU, Nat.add_assoc] <;> fail) | refine Sees.agg ?_ | refine And.intro ?_ ?_ | simp only [SeesL])) ?_; simp (maxSteps := 400000) (dsimp := false) only [getF, en2, axs, AThen, ABlock, dstsOk, AStep, callsF, AWant, aop, AS.ev, AS.put, upd, AS.bound, abin, aint, aload, astore, cellsAt, AV.cells, alen, elems, AV.int?, FPost, aresL, ares1, pack, afill, splice, Value.oneCell', Nat.reduceLT, Nat.reduceLeDiff, Nat.reduceEqDiff, Nat.reduceAdd, Nat.reduceMul, Nat.reduceSub, Nat.reduceBEq, Int.reduceLE, Int.reduceLT, Int.reduceToNat, Int.reduceNeg, Int.reduceEq, axt, ftK, pickP, AScope, AAll, pickQ, ftQ, inHeap, RT, Sl3.cells, tys]
    refine ADraw.planQR [] [17] [(0, true), (1, true), (2, true), (3, true), (4, true), (5, true), (6, true), (7, true), (8, true), (9, true), (10, true), (11, true), (12, true), (13, true), (14, true), (15, true), (16, true), (18, true), (19, true), (17, true), (20, true), (21, true), (22, true), (23, true)] [(0, 0), (0, 0), (0, 0), (0, 0), (0, 0), (0, 0), (0, 0), (0, 0), (0, 0), (0, 0), (0, 0), (0, 0), (0, 0), (0, 0), (0, 0), (0, 0), (0, 0), (1, 0), (1, 0), (0, 2), (0, 0), (0, 0), (0, 0), (0, 0)] mixed (by kernel_rfl) (by kernel_rfl) ?_
    simp (maxSteps := 400000) (dsimp := false) only [en2, axs, AThen, ABlock, dstsOk, AStep, callsF, AWant, aop, AS.ev, AS.put, upd, AS.bound, abin, aint, aload, astore, cellsAt, AV.cells, alen, elems, AV.int?, FPost, aresL, ares1, pack, afill, splice, Value.oneCell', Nat.reduceLT, Nat.reduceLeDiff, Nat.reduceEqDiff, Nat.reduceAdd, Nat.reduceMul, Nat.reduceSub, Nat.reduceBEq, Int.reduceLE, Int.reduceLT, Int.reduceToNat, Int.reduceNeg, Int.reduceEq, axt, ftK, pickP, AScope, AAll, pickQ, ftQ, inHeap, RT, Sl3.cells, tys]
    refine AQuietK.intro rfl rfl (cHtProbes hA2 ok.pw hk hq) (fun id hid => fdH_old _ _ hid) ?_
    simp (maxSteps := 400000) (dsimp := false) only [en2, axs, AThen, ABlock, dstsOk, AStep, callsF, AWant, aop, AS.ev, AS.put, upd, AS.bound, abin, aint, aload, astore, cellsAt, AV.cells, alen, elems, AV.int?, FPost, aresL, ares1, pack, afill, splice, Value.oneCell', Nat.reduceLT, Nat.reduceLeDiff, Nat.reduceEqDiff, Nat.reduceAdd, Nat.reduceMul, Nat.reduceSub, Nat.reduceBEq, Int.reduceLE, Int.reduceLT, Int.reduceToNat, Int.reduceNeg, Int.reduceEq, axt, ftK, pickP, AScope, AAll, pickQ, ftQ, inHeap, RT, Sl3.cells, tys]
    refine ACallP.pure rfl (rHtProbes ok.pw hk hq) ?_; simp (maxSteps := 400000) (dsimp := false) only [en2, axs, AThen, ABlock, dstsOk, AStep, callsF, AWant, aop, AS.ev, AS.put, upd, AS.bound, abin, aint, aload, astore, cellsAt, AV.cells, alen, elems, AV.int?, FPost, aresL, ares1, pack, afill, splice, Value.oneCell', Nat.reduceLT, Nat.reduceLeDiff, Nat.reduceEqDiff, Nat.reduceAdd, Nat.reduceMul, Nat.reduceSub, Nat.reduceBEq, Int.reduceLE, Int.reduceLT, Int.reduceToNat, Int.reduceNeg, Int.reduceEq, axt, ftK, pickP, AScope, AAll, pickQ, ftQ, inHeap, RT, Sl3.cells, tys]
    exact ⟨_, rfl, Sees.sc⟩
  · have h' : (l.length : Int) > 50 := by omega
    simp (maxSteps := 400000) (dsimp := false) only [h', axs, AThen, ABlock, dstsOk, AStep, callsF, AWant, aop, AS.ev, AS.put, upd, AS.bound, abin, aint, aload, astore, cellsAt, AV.cells, alen, elems, AV.int?, FPost, aresL, ares1, pack, afill, splice, Value.oneCell', Nat.reduceLT, Nat.reduceLeDiff, Nat.reduceEqDiff, Nat.reduceAdd, Nat.reduceMul, Nat.reduceSub, Nat.reduceBEq, Int.reduceLE, Int.reduceLT, Int.reduceToNat, Int.reduceNeg, Int.reduceEq, axt, ftK, pickP, AScope, AAll, pickQ, ftQ, inHeap, RT, Sl3.cells, tys]
    exact ⟨_, rfl, Sees.sc⟩
end Go.Al
