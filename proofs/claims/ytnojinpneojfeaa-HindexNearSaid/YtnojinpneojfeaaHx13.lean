/- Numbers by keys, in slots: acts that are run, by the program and by the reference. Conditions: the numbers fit their kinds. -/
import Derived.Test.YtnojinpneojfeaaHx12
set_option linter.unusedVariables false
set_option linter.unusedSimpArgs false
set_option maxRecDepth 20000
set_option maxHeartbeats 1600000
-- axs, AThen, ABlock, dstsOk, AStep, callsF, AWant, aop, AS.ev, AS.put, upd, AS.bound, abin, aint, aload, astore, cellsAt, AV.cells, alen, elems, AV.int?, FPost, aresL, ares1, pack, afill, splice, Value.oneCell', Nat.reduceLT, Nat.reduceLeDiff, Nat.reduceEqDiff, Nat.reduceAdd, Nat.reduceMul, Nat.reduceSub, Nat.reduceBEq, Int.reduceLE, Int.reduceLT, Int.reduceToNat, Int.reduceNeg, Int.reduceEq, axt, ftK, pickP, AScope, AAll, pickQ, ftQ, inHeap, RT, Sl3.cells, tys: RT, Sl3.cells
-- NOIDS: noIdsE_TL, noIdsE_HA
-- LENS: TL_len, HA_len
namespace Go.Al
open Go.Proofs
theorem cHtRun (l : List HAct) (hl : l.length ≤ 10000) (hf : ∀ a ∈ l, a.Fits) (H : AH) (n : Nat) :
    HCalls Try.prog 9 [.lst 3 (HA l)] H n fun r H' n' => ∃ a s, r = .tup [.ptr a 2 0 0, RT (hRun l), .sc (.bool true)] ∧ n ≤ n' ∧ (∀ j, j < n → H' j = H j) ∧ HtH H' n' a s (hRun l) (cnt (hRun l)) ∧ n ≤ a ∧ n ≤ s := by
  refine HCalls.walk Try.func9 rfl rfl Try.ntmps9 Try.results9 (by simp) ?_; simp (maxSteps := 400000) (dsimp := false) only [axs, AThen, ABlock, dstsOk, AStep, callsF, AWant, aop, AS.ev, AS.put, upd, AS.bound, abin, aint, aload, astore, cellsAt, AV.cells, alen, elems, AV.int?, FPost, aresL, ares1, pack, afill, splice, Value.oneCell', Nat.reduceLT, Nat.reduceLeDiff, Nat.reduceEqDiff, Nat.reduceAdd, Nat.reduceMul, Nat.reduceSub, Nat.reduceBEq, Int.reduceLE, Int.reduceLT, Int.reduceToNat, Int.reduceNeg, Int.reduceEq, axt, ftK, pickP, AScope, AAll, pickQ, ftQ, inHeap, RT, Sl3.cells, tys]
  refine ACallK.heap _ rfl (cHtNew _ _) ?_; rintro r' H' n' ⟨rfl, eH, en⟩; obtain rfl := eH.symm; obtain rfl := en.symm; clear eH en; simp (maxSteps := 400000) (dsimp := false) only [axs, AThen, ABlock, dstsOk, AStep, callsF, AWant, aop, AS.ev, AS.put, upd, AS.bound, abin, aint, aload, astore, cellsAt, AV.cells, alen, elems, AV.int?, FPost, aresL, ares1, pack, afill, splice, Value.oneCell', Nat.reduceLT, Nat.reduceLeDiff, Nat.reduceEqDiff, Nat.reduceAdd, Nat.reduceMul, Nat.reduceSub, Nat.reduceBEq, Int.reduceLE, Int.reduceLT, Int.reduceToNat, Int.reduceNeg, Int.reduceEq, axt, ftK, pickP, AScope, AAll, pickQ, ftQ, inHeap, RT, Sl3.cells, tys]
  refine ACallK.strict rfl (rHtNew) (by simp only [SeesL, axs, axt, AS.ev, AS.put, upd, inHeap, Nat.reduceLT, Nat.reduceEqDiff, Nat.reduceAdd, Nat.reduceBEq, RT, Sl3.cells]; repeat' (first | exact True.intro | exact Sees.sc | exact Sees.none | ((with_reducible refine Sees.same ?_) <;> simp [noIds, noIdsL, noIdsE, noIdsE_U, noIdsE_UU, noIdsE_TL, noIdsE_HA] <;> fail) | (refine Live.sees ?_ ?_ <;> first | assumption | (simp [noIdsE_U, noIdsE_UU, noIdsE_TL, noIdsE_HA] <;> fail)) | (refine Sees.obj ?_ ?_ ?_ <;> first | exact ⟨_, _, by assumption, rfl⟩ | (simp [U_len, UU_len, TL_len, HA_len] <;> fail) | (simp [noIdsE_U, noIdsE_UU, noIdsE_TL, noIdsE_HA] <;> fail) | (simp [U, UU, upd] <;> fail) | (simp [U, UU, upd, neS, *] <;> fail)) | (refine Sees.of_seen 3 ?_ <;> simp [seen, upd, noIdsE, noIdsL, noIds, U, UU, Nat.add_assoc] <;> fail) | refine Sees.agg ?_ | refine And.intro ?_ ?_ | simp only [SeesL])) ?_; simp (maxSteps := 400000) (dsimp := false) only [axs, AThen, ABlock, dstsOk, AStep, callsF, AWant, aop, AS.ev, AS.put, upd, AS.bound, abin, aint, aload, astore, cellsAt, AV.cells, alen, elems, AV.int?, FPost, aresL, ares1, pack, afill, splice, Value.oneCell', Nat.reduceLT, Nat.reduceLeDiff, Nat.reduceEqDiff, Nat.reduceAdd, Nat.reduceMul, Nat.reduceSub, Nat.reduceBEq, Int.reduceLE, Int.reduceLT, Int.reduceToNat, Int.reduceNeg, Int.reduceEq, axt, ftK, pickP, AScope, AAll, pickQ, ftQ, inHeap, RT, Sl3.cells, tys]
  refine ALoop.upto l.length (fun p t => t.t 0 = .lst 3 (HA l) ∧ t.t 5 = .ptr (n + 1 + 1) 2 0 0 ∧ t.t 3 = .ptr n 1 0 0 ∧ t.t 6 = .ptr (n + 1 + 1 + 1) 1 0 0 ∧ t.t 7 = .sc (.int .i64 p) ∧ n + 1 + 1 + 1 < t.n ∧ (∀ j, j < n → t.H j = H j) ∧ t.H n = some (.obj 27 1 [[.sc (.slice none 0 0)]] false) ∧ t.H (n + 1 + 1 + 1) = some (.obj 27 1 [[.lst 3 (TL (hRun (l.take p)))]] false) ∧ ∃ s, HtH t.H t.n (n + 1 + 1) s (hRun (l.take p)) (cnt (hRun (l.take p))) ∧ n < s ∧ s ≠ n + 1 + 1 + 1) ?_ ?_
  · refine ⟨rfl, rfl, rfl, rfl, rfl, by show n + 1 + 1 + 1 < n + 1 + 1 + 1 + 1; omega, ?_, ?_, ?_, n + 1, ?_, by omega, by omega⟩
    · intro j hj
      have : ¬ j = n ∧ ¬ j = n + 1 ∧ ¬ j = n + 1 + 1 ∧ ¬ j = n + 1 + 1 + 1 := by and_intros <;> omega
      simp [upd, newH, this]
    · simp [upd, newH, neS]
    · simp [upd, newH, neS]; rfl
    · refine HtH.keep (newH_is (upd H n (some (.obj 27 1 [[.sc (.slice none 0 0)]] false))) (n + 1)) (by show n + 1 + 1 + 1 ≤ n + 1 + 1 + 1 + 1; omega) (fun j hj ho => ?_)
      have : ¬ j = n + 1 + 1 + 1 := by omega
      simp [upd, this]
  · rintro p s hp hb ⟨e0, e5, e3, e6, e7, hlt3, hkH, en, eb, sl, hA, hs1, hs2⟩
    obtain ⟨ok, le1, le2⟩ := hRun_ok (l.take p) (fun a ha => hf a (List.mem_of_mem_take ha)) (by rw [List.length_take]; omega)
    have hpl2 : (l.take p).length ≤ l.length := by rw [List.length_take]; omega
    rcases Nat.lt_or_ge p l.length with hlt | hge
    · obtain ⟨x, hx, hp0, hpl, hw, hT, hD⟩ := idx hlt (by omega)
      have hg := HA_get hx
      have hsn := hRun_snoc (l.take p) x
      rw [← hT] at hsn
      have hxf := hf x (List.mem_of_getElem? hx)
      obtain ⟨ok2, le3, le4⟩ := hRun_ok (l.take (p + 1)) (fun a ha => hf a (List.mem_of_mem_take ha)) (by rw [List.length_take]; omega)
      have hdo := cHtDo hA ok (by omega) x hxf
      have hrdo := rHtDo (T := hRun (l.take p)) ok (by omega) x hxf
      rw [← hsn] at hdo hrdo
      generalize hRun (l.take p) = R at *
      generalize hRun (l.take (p + 1)) = R2 at *
      simp (maxSteps := 400000) (dsimp := false) only [e0, e5, e6, e7, hpl, HA_len, hg, hp0, axs, AThen, ABlock, dstsOk, AStep, callsF, AWant, aop, AS.ev, AS.put, upd, AS.bound, abin, aint, aload, astore, cellsAt, AV.cells, alen, elems, AV.int?, FPost, aresL, ares1, pack, afill, splice, Value.oneCell', Nat.reduceLT, Nat.reduceLeDiff, Nat.reduceEqDiff, Nat.reduceAdd, Nat.reduceMul, Nat.reduceSub, Nat.reduceBEq, Int.reduceLE, Int.reduceLT, Int.reduceToNat, Int.reduceNeg, Int.reduceEq, axt, ftK, pickP, AScope, AAll, pickQ, ftQ, inHeap, RT, Sl3.cells, tys]
      refine ACallK.heap _ rfl hdo ?_
      rintro r H' n' ⟨rfl, hle, hkeep, s', hA', hs'⟩
      have eb' := (hkeep (n + 1 + 1 + 1) (by omega) (by omega) (by omega)).trans eb
      have en' := (hkeep n (by omega) (by omega) (by omega)).trans en
      have hs'lt := hA'.ls
      have hs'ne : n < s' ∧ s' ≠ n + 1 + 1 + 1 := by
        rcases hs' with h | h
        · rw [h]; exact ⟨hs1, hs2⟩
        · omega
      have hneq : ¬ n + 1 + 1 + 1 = n' ∧ ¬ n' = n + 1 + 1 + 1 ∧ ¬ n = n' ∧ ¬ n' = n := by and_intros <;> omega
      have hA2 : ∀ y z, HtH (upd (upd H' n' y) (n + 1 + 1 + 1) z) (n' + 1) (n + 1 + 1) s' R2 (cnt R2) := fun y z => hA'.keep (by omega) (fun j hj ho => by rw [upd_ne _ _ (by omega), upd_ne _ _ (by omega)])
      simp (maxSteps := 400000) (dsimp := false) only [e0, e5, e6, e7, axs, AThen, ABlock, dstsOk, AStep, callsF, AWant, aop, AS.ev, AS.put, upd, AS.bound, abin, aint, aload, astore, cellsAt, AV.cells, alen, elems, AV.int?, FPost, aresL, ares1, pack, afill, splice, Value.oneCell', Nat.reduceLT, Nat.reduceLeDiff, Nat.reduceEqDiff, Nat.reduceAdd, Nat.reduceMul, Nat.reduceSub, Nat.reduceBEq, Int.reduceLE, Int.reduceLT, Int.reduceToNat, Int.reduceNeg, Int.reduceEq, axt, ftK, pickP, AScope, AAll, pickQ, ftQ, inHeap, RT, Sl3.cells, tys]
      refine ADraw.planR [] [(0, true), (1, true), (2, true), (3, true), (4, true), (5, true), (6, true), (7, true), (8, true), (9, true), (10, true), (11, true)] [(0, false), (0, false), (0, false), (0, false), (0, false), (0, false), (0, false), (0, false), (0, false), (0, false), (0, false), (0, false)] mixed (by kernel_rfl) (by kernel_rfl) ?_
      simp (maxSteps := 400000) (dsimp := false) only [e0, e5, e6, e7, hg, hp0, eb', axs, AThen, ABlock, dstsOk, AStep, callsF, AWant, aop, AS.ev, AS.put, upd, AS.bound, abin, aint, aload, astore, cellsAt, AV.cells, alen, elems, AV.int?, FPost, aresL, ares1, pack, afill, splice, Value.oneCell', Nat.reduceLT, Nat.reduceLeDiff, Nat.reduceEqDiff, Nat.reduceAdd, Nat.reduceMul, Nat.reduceSub, Nat.reduceBEq, Int.reduceLE, Int.reduceLT, Int.reduceToNat, Int.reduceNeg, Int.reduceEq, axt, ftK, pickP, AScope, AAll, pickQ, ftQ, inHeap, RT, Sl3.cells, tys]
      refine ACallP.pure rfl (hrdo) ?_; simp (maxSteps := 400000) (dsimp := false) only [e0, e5, e6, e7, hneq, eb', upd_upd, axs, AThen, ABlock, dstsOk, AStep, callsF, AWant, aop, AS.ev, AS.put, upd, AS.bound, abin, aint, aload, astore, cellsAt, AV.cells, alen, elems, AV.int?, FPost, aresL, ares1, pack, afill, splice, Value.oneCell', Nat.reduceLT, Nat.reduceLeDiff, Nat.reduceEqDiff, Nat.reduceAdd, Nat.reduceMul, Nat.reduceSub, Nat.reduceBEq, Int.reduceLE, Int.reduceLT, Int.reduceToNat, Int.reduceNeg, Int.reduceEq, axt, ftK, pickP, AScope, AAll, pickQ, ftQ, inHeap, RT, Sl3.cells, tys]
      refine ADraw.planQR [] [5, 12] [(0, true), (1, true), (2, true), (3, true), (4, true), (6, true), (5, true), (7, true), (8, true), (9, true), (10, true), (11, true), (13, true), (14, true), (15, true), (12, true), (16, true), (17, true)] [(0, 0), (0, 0), (0, 0), (0, 0), (0, 0), (1, 0), (0, 2), (0, 0), (0, 0), (0, 0), (0, 0), (0, 0), (1, 0), (1, 0), (1, 0), (0, 2), (0, 0), (0, 0)] mixed (by kernel_rfl) (by kernel_rfl) ?_
      simp (maxSteps := 400000) (dsimp := false) only [e5, e6, bne_self_eq_false, axs, AThen, ABlock, dstsOk, AStep, callsF, AWant, aop, AS.ev, AS.put, upd, AS.bound, abin, aint, aload, astore, cellsAt, AV.cells, alen, elems, AV.int?, FPost, aresL, ares1, pack, afill, splice, Value.oneCell', Nat.reduceLT, Nat.reduceLeDiff, Nat.reduceEqDiff, Nat.reduceAdd, Nat.reduceMul, Nat.reduceSub, Nat.reduceBEq, Int.reduceLE, Int.reduceLT, Int.reduceToNat, Int.reduceNeg, Int.reduceEq, axt, ftK, pickP, AScope, AAll, pickQ, ftQ, inHeap, RT, Sl3.cells, tys]
      have hk3 : ∀ j, j < n' → j = n + 1 + 1 ∨ j = s' → ¬ j = n + 1 + 1 + 1 ∧ ¬ j = n' := fun j hj ho => by omega
      refine AQuietK.intro rfl rfl (cHtLen (T := R2) (s := s') (m := (cnt R2 : Int)) ?_) (fun _ _ => rfl) ?_
      · exact hA'.keep (by show n' ≤ n' + 1; omega) (fun j hj ho => by have := hk3 j hj ho; simp [upd, this])
      simp (maxSteps := 400000) (dsimp := false) only [e6, axs, AThen, ABlock, dstsOk, AStep, callsF, AWant, aop, AS.ev, AS.put, upd, AS.bound, abin, aint, aload, astore, cellsAt, AV.cells, alen, elems, AV.int?, FPost, aresL, ares1, pack, afill, splice, Value.oneCell', Nat.reduceLT, Nat.reduceLeDiff, Nat.reduceEqDiff, Nat.reduceAdd, Nat.reduceMul, Nat.reduceSub, Nat.reduceBEq, Int.reduceLE, Int.reduceLT, Int.reduceToNat, Int.reduceNeg, Int.reduceEq, axt, ftK, pickP, AScope, AAll, pickQ, ftQ, inHeap, RT, Sl3.cells, tys]
      refine ACallP.pure rfl (rHtLen (T := R2) ok2.pw) ?_; simp (maxSteps := 400000) (dsimp := false) only [e5, e6, TL_len, axs, AThen, ABlock, dstsOk, AStep, callsF, AWant, aop, AS.ev, AS.put, upd, AS.bound, abin, aint, aload, astore, cellsAt, AV.cells, alen, elems, AV.int?, FPost, aresL, ares1, pack, afill, splice, Value.oneCell', Nat.reduceLT, Nat.reduceLeDiff, Nat.reduceEqDiff, Nat.reduceAdd, Nat.reduceMul, Nat.reduceSub, Nat.reduceBEq, Int.reduceLE, Int.reduceLT, Int.reduceToNat, Int.reduceNeg, Int.reduceEq, axt, ftK, pickP, AScope, AAll, pickQ, ftQ, inHeap, RT, Sl3.cells, tys]
      refine AQuietK.intro rfl rfl (cHtSlots (T := R2) (s := s') (m := (cnt R2 : Int)) ?_) (fun _ _ => rfl) ?_
      · exact hA'.keep (by show n' ≤ n' + 1; omega) (fun j hj ho => by have := hk3 j hj ho; simp [upd, this])
      simp (maxSteps := 400000) (dsimp := false) only [e6, e7, hw, TL_len, axs, AThen, ABlock, dstsOk, AStep, callsF, AWant, aop, AS.ev, AS.put, upd, AS.bound, abin, aint, aload, astore, cellsAt, AV.cells, alen, elems, AV.int?, FPost, aresL, ares1, pack, afill, splice, Value.oneCell', Nat.reduceLT, Nat.reduceLeDiff, Nat.reduceEqDiff, Nat.reduceAdd, Nat.reduceMul, Nat.reduceSub, Nat.reduceBEq, Int.reduceLE, Int.reduceLT, Int.reduceToNat, Int.reduceNeg, Int.reduceEq, axt, ftK, pickP, AScope, AAll, pickQ, ftQ, inHeap, RT, Sl3.cells, tys]
      refine ⟨hlt, e0, e5, e3, by omega, ?_, ?_, s', hA'.keep (by omega) (fun j hj ho => by have := hk3 j hj ho; simp [upd, this]), hs'ne⟩
      · intro j hj
        have : ¬ j = n + 1 + 1 + 1 ∧ ¬ j = n' := by and_intros <;> omega
        simp only [this, if_false]
        rw [hkeep j (by omega) (by omega) (by omega)]
        exact hkH j hj
      · simp [hneq]
        exact en'
    · have hpl : ¬ (p : Int) < l.length := by omega
      rw [List.take_of_length_le hge] at hA eb
      simp (maxSteps := 400000) (dsimp := false) only [e0, e5, e6, e7, hpl, HA_len, axs, AThen, ABlock, dstsOk, AStep, callsF, AWant, aop, AS.ev, AS.put, upd, AS.bound, abin, aint, aload, astore, cellsAt, AV.cells, alen, elems, AV.int?, FPost, aresL, ares1, pack, afill, splice, Value.oneCell', Nat.reduceLT, Nat.reduceLeDiff, Nat.reduceEqDiff, Nat.reduceAdd, Nat.reduceMul, Nat.reduceSub, Nat.reduceBEq, Int.reduceLE, Int.reduceLT, Int.reduceToNat, Int.reduceNeg, Int.reduceEq, axt, ftK, pickP, AScope, AAll, pickQ, ftQ, inHeap, RT, Sl3.cells, tys]
      refine ADraw.planR [] [(0, true), (1, true), (2, true), (3, true), (4, true)] [(0, false), (0, false), (0, false), (0, false), (0, false)] mixed (by kernel_rfl) (by kernel_rfl) ?_
      simp (maxSteps := 400000) (dsimp := false) only [e0, e5, e3, e6, e7, eb, en, axs, AThen, ABlock, dstsOk, AStep, callsF, AWant, aop, AS.ev, AS.put, upd, AS.bound, abin, aint, aload, astore, cellsAt, AV.cells, alen, elems, AV.int?, FPost, aresL, ares1, pack, afill, splice, Value.oneCell', Nat.reduceLT, Nat.reduceLeDiff, Nat.reduceEqDiff, Nat.reduceAdd, Nat.reduceMul, Nat.reduceSub, Nat.reduceBEq, Int.reduceLE, Int.reduceLT, Int.reduceToNat, Int.reduceNeg, Int.reduceEq, axt, ftK, pickP, AScope, AAll, pickQ, ftQ, inHeap, RT, Sl3.cells, tys]
      refine ⟨_, rfl, _, sl, rfl, by omega, fun j hj => ?_, hA.keep (Nat.le_refl _) (fun j hj ho => ?_), by omega, by omega⟩
      · have : ¬ j = n := by omega
        rw [if_neg this]
        exact hkH j hj
      · have : ¬ j = n := by omega
        rw [upd_ne _ _ this]
end Go.Al
