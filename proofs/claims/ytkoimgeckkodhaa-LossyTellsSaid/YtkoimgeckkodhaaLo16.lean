/- A map that forgets: of any operations, and any answers: the first one that doesn't fit, and the pairs that are left. Conditions: the numbers fit their kinds. -/
import Derived.Test.YtkoimgeckkodhaaLo15
set_option linter.unusedVariables false
set_option linter.unusedSimpArgs false
set_option maxRecDepth 20000
set_option maxHeartbeats 6400000
-- NOIDS: noIdsE_PR, noIdsE_OL, noIdsE_AL
-- LENS: PR_len, OL_len, AL_len
namespace Go.Al
open Go.Proofs
theorem rWalk (l : List LOp) (bs : List LAns) (hl : l.length ≤ 900) (ho : ∀ a ∈ bs, a.out.length ≤ 1000) (hbs : bs.length ≤ 1000000) : PCalls Try.prog 10 [.lst 4 (OL l), .lst 5 (AL bs)] (.tup [.sc (.int .i64 (wkN l bs)), .lst 2 (PR (wkM l bs))]) := by
  refine PCalls.intro2 Try.func10 rfl rfl Try.ntmps10 Try.results10 (by simp) fun n => ?_; simp (maxSteps := 400000) (dsimp := false) only [OL_len, axs, AThen, ABlock, dstsOk, AStep, callsF, AWant, aop, AS.ev, AS.put, upd, AS.bound, abin, aint, aload, astore, cellsAt, AV.cells, alen, elems, AV.int?, FPost, aresL, ares1, pack, afill, splice, Value.oneCell', Nat.reduceLT, Nat.reduceLeDiff, Nat.reduceEqDiff, Nat.reduceAdd, Nat.reduceMul, Nat.reduceSub, Nat.reduceBEq, Int.reduceLE, Int.reduceLT, Int.reduceToNat, Int.reduceNeg, Int.reduceEq, axt, ftK, ft3, pickP, AScope, AAll, pickQ, ftQ, inHeap, tys]
  refine ALoop.upto l.length (fun p s => s.t 1 = .lst 5 (AL bs) ∧ s.t 0 = .lst 4 (OL l) ∧ s.t 7 = .sc (.int .i64 p) ∧ (∀ q, q < p → fitAt l bs q = true) ∧ ∃ v, s.t 6 = v ∧ ((v = .sc (.slice none 0 0) ∧ mapAt l bs p = []) ∨ v = .lst 2 (PR (mapAt l bs p)))) ⟨rfl, rfl, rfl, fun q hq => absurd hq (Nat.not_lt_zero q), _, rfl, .inl ⟨rfl, rfl⟩⟩ ?_
  rintro p s hp hb ⟨h1, h0, h7, hfit, v, h6, hv⟩
  have hs : ∀ H, Sees H true v (.lst 2 (PR (mapAt l bs p))) := by
    intro H
    rcases hv with ⟨rfl, e⟩ | rfl
    · rw [e]; exact Sees.none
    · exact Sees.same (by simp [noIds, noIdsE_PR])
  have hml := mapAt_len l bs p
  have nd := mapAt_nodup p hfit
  rcases Nat.lt_or_ge p l.length with hlt | hge
  · obtain ⟨o, hx, hp0, hpl, hw, hT, hD⟩ := idx hlt (by omega)
    have hg := OL_get hx
    have hgo : l.getD p o0 = o := by rw [List.getD_eq_getElem?_getD, hx]; rfl
    by_cases hba : p < bs.length
    · obtain ⟨a, ha⟩ : ∃ a, bs[p]? = some a := ⟨_, List.getElem?_eq_getElem hba⟩
      have hga := AL_get ha
      have hgb : bs.getD p a0 = a := by rw [List.getD_eq_getElem?_getD, ha]; rfl
      have hal := ho a (List.mem_of_getElem? ha)
      have hpb : (p : Int) < bs.length := by omega
      have nge : ¬ (p : Int) ≥ bs.length := by omega
      have hfa : fitAt l bs p = fitsB (mapAt l bs p) o a := by unfold fitAt; rw [decide_eq_true hba, Bool.true_and, hgo, hgb]
      have hms : mapAt l bs (p + 1) = behindM (mapAt l bs p) o a := by show behindM _ _ _ = _; rw [hgo, hgb]
      have cf : PCalls Try.prog 17 [v, .agg o.cells, .agg a.cells] (.sc (.bool (fitsB (mapAt l bs p) o a))) := by
        rcases hv with ⟨rfl, e⟩ | rfl
        · rw [e]; exact (rFits [] o a List.nodup_nil (by simp) (by omega)).nilArg
        · exact rFits _ o a nd (by omega) (by omega)
      cases hf : fitsB (mapAt l bs p) o a with
      | true =>
        have hou := (fitsB_out hf).2.2.1
        have cb : PCalls Try.prog 18 [v, .agg o.cells, .agg a.cells] (.lst 2 (PR (behindM (mapAt l bs p) o a))) := by
          rcases hv with ⟨rfl, e⟩ | rfl
          · rw [e] at hou ⊢
            exact (rBehind [] o a List.nodup_nil (by simp) (by omega) hou).nilArg
          · exact rBehind _ o a nd (by omega) (by omega) hou
        rw [hf] at cf hfa
        unfold LOp.cells LAns.cells at cf cb
        clear hv
        simp (maxSteps := 400000) (dsimp := false) only [h0, h1, h6, h7, hp0, hpl, hg, OL_len, axs, AThen, ABlock, dstsOk, AStep, callsF, AWant, aop, AS.ev, AS.put, upd, AS.bound, abin, aint, aload, astore, cellsAt, AV.cells, alen, elems, AV.int?, FPost, aresL, ares1, pack, afill, splice, Value.oneCell', Nat.reduceLT, Nat.reduceLeDiff, Nat.reduceEqDiff, Nat.reduceAdd, Nat.reduceMul, Nat.reduceSub, Nat.reduceBEq, Int.reduceLE, Int.reduceLT, Int.reduceToNat, Int.reduceNeg, Int.reduceEq, axt, ftK, ft3, pickP, AScope, AAll, pickQ, ftQ, inHeap, tys]
        refine ADraw.planR [] [(0, true), (1, true), (2, true), (3, true), (4, true), (5, true), (6, true), (7, true), (8, true), (9, true), (10, true), (11, true), (12, true), (13, true), (14, true), (15, true), (16, true)] [(0, false), (0, false), (0, false), (0, false), (0, false), (0, false), (0, false), (0, false), (0, false), (0, false), (0, false), (0, false), (0, false), (0, false), (0, false), (0, false), (0, false)] mixed (by kernel_rfl) (by kernel_rfl) ?_
        simp (maxSteps := 400000) (dsimp := false) only [h0, h1, h6, h7, hp0, hpl, hpb, nge, hg, hga, OL_len, AL_len, axs, AThen, ABlock, dstsOk, AStep, callsF, AWant, aop, AS.ev, AS.put, upd, AS.bound, abin, aint, aload, astore, cellsAt, AV.cells, alen, elems, AV.int?, FPost, aresL, ares1, pack, afill, splice, Value.oneCell', Nat.reduceLT, Nat.reduceLeDiff, Nat.reduceEqDiff, Nat.reduceAdd, Nat.reduceMul, Nat.reduceSub, Nat.reduceBEq, Int.reduceLE, Int.reduceLT, Int.reduceToNat, Int.reduceNeg, Int.reduceEq, axt, ftK, ft3, pickP, AScope, AAll, pickQ, ftQ, inHeap, tys]
        refine ACallP.pure rfl (cf) ?_; simp (maxSteps := 400000) (dsimp := false) only [h0, h1, h6, h7, hp0, hpl, hpb, hg, hga, OL_len, AL_len, axs, AThen, ABlock, dstsOk, AStep, callsF, AWant, aop, AS.ev, AS.put, upd, AS.bound, abin, aint, aload, astore, cellsAt, AV.cells, alen, elems, AV.int?, FPost, aresL, ares1, pack, afill, splice, Value.oneCell', Nat.reduceLT, Nat.reduceLeDiff, Nat.reduceEqDiff, Nat.reduceAdd, Nat.reduceMul, Nat.reduceSub, Nat.reduceBEq, Int.reduceLE, Int.reduceLT, Int.reduceToNat, Int.reduceNeg, Int.reduceEq, axt, ftK, ft3, pickP, AScope, AAll, pickQ, ftQ, inHeap, tys]
        refine ADraw.planR [] [(0, true), (1, true), (2, true), (3, true), (4, true), (5, true), (6, true), (7, true), (8, true), (9, true), (10, true)] [(0, false), (0, false), (0, false), (0, false), (0, false), (0, false), (0, false), (0, false), (0, false), (0, false), (0, false)] mixed (by kernel_rfl) (by kernel_rfl) ?_
        simp (maxSteps := 400000) (dsimp := false) only [h0, h1, h6, h7, hp0, hpl, hpb, hg, hga, OL_len, AL_len, axs, AThen, ABlock, dstsOk, AStep, callsF, AWant, aop, AS.ev, AS.put, upd, AS.bound, abin, aint, aload, astore, cellsAt, AV.cells, alen, elems, AV.int?, FPost, aresL, ares1, pack, afill, splice, Value.oneCell', Nat.reduceLT, Nat.reduceLeDiff, Nat.reduceEqDiff, Nat.reduceAdd, Nat.reduceMul, Nat.reduceSub, Nat.reduceBEq, Int.reduceLE, Int.reduceLT, Int.reduceToNat, Int.reduceNeg, Int.reduceEq, axt, ftK, ft3, pickP, AScope, AAll, pickQ, ftQ, inHeap, tys]
        refine ACallP.pure rfl (cb) ?_; simp (maxSteps := 400000) (dsimp := false) only [h0, h1, h6, h7, hw, axs, AThen, ABlock, dstsOk, AStep, callsF, AWant, aop, AS.ev, AS.put, upd, AS.bound, abin, aint, aload, astore, cellsAt, AV.cells, alen, elems, AV.int?, FPost, aresL, ares1, pack, afill, splice, Value.oneCell', Nat.reduceLT, Nat.reduceLeDiff, Nat.reduceEqDiff, Nat.reduceAdd, Nat.reduceMul, Nat.reduceSub, Nat.reduceBEq, Int.reduceLE, Int.reduceLT, Int.reduceToNat, Int.reduceNeg, Int.reduceEq, axt, ftK, ft3, pickP, AScope, AAll, pickQ, ftQ, inHeap, tys]
        refine ⟨hlt, fun q hq => ?_, _, rfl, .inr (by rw [hms])⟩
        rcases Nat.lt_succ_iff_lt_or_eq.1 hq with h | rfl
        · exact hfit q h
        · exact hfa
      | false =>
        rw [hf] at cf hfa
        unfold LOp.cells LAns.cells at cf
        clear hv
        have hwn := wrongN_at hlt hfa hfit
        simp (maxSteps := 400000) (dsimp := false) only [h0, h1, h6, h7, hp0, hpl, hg, OL_len, axs, AThen, ABlock, dstsOk, AStep, callsF, AWant, aop, AS.ev, AS.put, upd, AS.bound, abin, aint, aload, astore, cellsAt, AV.cells, alen, elems, AV.int?, FPost, aresL, ares1, pack, afill, splice, Value.oneCell', Nat.reduceLT, Nat.reduceLeDiff, Nat.reduceEqDiff, Nat.reduceAdd, Nat.reduceMul, Nat.reduceSub, Nat.reduceBEq, Int.reduceLE, Int.reduceLT, Int.reduceToNat, Int.reduceNeg, Int.reduceEq, axt, ftK, ft3, pickP, AScope, AAll, pickQ, ftQ, inHeap, tys]
        refine ADraw.planR [] [(0, true), (1, true), (2, true), (3, true), (4, true), (5, true), (6, true), (7, true), (8, true), (9, true), (10, true), (11, true), (12, true), (13, true), (14, true), (15, true), (16, true)] [(0, false), (0, false), (0, false), (0, false), (0, false), (0, false), (0, false), (0, false), (0, false), (0, false), (0, false), (0, false), (0, false), (0, false), (0, false), (0, false), (0, false)] mixed (by kernel_rfl) (by kernel_rfl) ?_
        simp (maxSteps := 400000) (dsimp := false) only [h0, h1, h6, h7, hp0, hpl, hpb, nge, hg, hga, OL_len, AL_len, axs, AThen, ABlock, dstsOk, AStep, callsF, AWant, aop, AS.ev, AS.put, upd, AS.bound, abin, aint, aload, astore, cellsAt, AV.cells, alen, elems, AV.int?, FPost, aresL, ares1, pack, afill, splice, Value.oneCell', Nat.reduceLT, Nat.reduceLeDiff, Nat.reduceEqDiff, Nat.reduceAdd, Nat.reduceMul, Nat.reduceSub, Nat.reduceBEq, Int.reduceLE, Int.reduceLT, Int.reduceToNat, Int.reduceNeg, Int.reduceEq, axt, ftK, ft3, pickP, AScope, AAll, pickQ, ftQ, inHeap, tys]
        refine ACallP.pure rfl (cf) ?_; simp (maxSteps := 400000) (dsimp := false) only [h0, h1, h6, h7, hp0, hpl, hpb, hg, hga, OL_len, AL_len, axs, AThen, ABlock, dstsOk, AStep, callsF, AWant, aop, AS.ev, AS.put, upd, AS.bound, abin, aint, aload, astore, cellsAt, AV.cells, alen, elems, AV.int?, FPost, aresL, ares1, pack, afill, splice, Value.oneCell', Nat.reduceLT, Nat.reduceLeDiff, Nat.reduceEqDiff, Nat.reduceAdd, Nat.reduceMul, Nat.reduceSub, Nat.reduceBEq, Int.reduceLE, Int.reduceLT, Int.reduceToNat, Int.reduceNeg, Int.reduceEq, axt, ftK, ft3, pickP, AScope, AAll, pickQ, ftQ, inHeap, tys]
        have e1 : wkN l bs = (p : Int) := by unfold wkN; rw [hwn]
        have e2 : wkM l bs = mapAt l bs p := by unfold wkM; rw [hwn]
        rw [e1, e2]
        exact ⟨_, rfl, Sees.tup (by simp only [SeesL]; exact ⟨Sees.sc, hs _, trivial⟩)⟩
    · have nge : (p : Int) ≥ bs.length := by omega
      have hfa : fitAt l bs p = false := by unfold fitAt; rw [decide_eq_false hba]; rfl
      have hwn := wrongN_at hlt hfa hfit
      simp (maxSteps := 400000) (dsimp := false) only [h0, h1, h6, h7, hp0, hpl, hg, OL_len, axs, AThen, ABlock, dstsOk, AStep, callsF, AWant, aop, AS.ev, AS.put, upd, AS.bound, abin, aint, aload, astore, cellsAt, AV.cells, alen, elems, AV.int?, FPost, aresL, ares1, pack, afill, splice, Value.oneCell', Nat.reduceLT, Nat.reduceLeDiff, Nat.reduceEqDiff, Nat.reduceAdd, Nat.reduceMul, Nat.reduceSub, Nat.reduceBEq, Int.reduceLE, Int.reduceLT, Int.reduceToNat, Int.reduceNeg, Int.reduceEq, axt, ftK, ft3, pickP, AScope, AAll, pickQ, ftQ, inHeap, tys]
      refine ADraw.planR [] [(0, true), (1, true), (2, true), (3, true), (4, true), (5, true), (6, true), (7, true), (8, true), (9, true), (10, true), (11, true), (12, true), (13, true), (14, true), (15, true), (16, true)] [(0, false), (0, false), (0, false), (0, false), (0, false), (0, false), (0, false), (0, false), (0, false), (0, false), (0, false), (0, false), (0, false), (0, false), (0, false), (0, false), (0, false)] mixed (by kernel_rfl) (by kernel_rfl) ?_
      simp (maxSteps := 400000) (dsimp := false) only [h0, h1, h6, h7, hp0, hpl, nge, hg, OL_len, AL_len, axs, AThen, ABlock, dstsOk, AStep, callsF, AWant, aop, AS.ev, AS.put, upd, AS.bound, abin, aint, aload, astore, cellsAt, AV.cells, alen, elems, AV.int?, FPost, aresL, ares1, pack, afill, splice, Value.oneCell', Nat.reduceLT, Nat.reduceLeDiff, Nat.reduceEqDiff, Nat.reduceAdd, Nat.reduceMul, Nat.reduceSub, Nat.reduceBEq, Int.reduceLE, Int.reduceLT, Int.reduceToNat, Int.reduceNeg, Int.reduceEq, axt, ftK, ft3, pickP, AScope, AAll, pickQ, ftQ, inHeap, tys]
      have e1 : wkN l bs = (p : Int) := by unfold wkN; rw [hwn]
      have e2 : wkM l bs = mapAt l bs p := by unfold wkM; rw [hwn]
      rw [e1, e2]
      exact ⟨_, rfl, Sees.tup (by simp only [SeesL]; exact ⟨Sees.sc, hs _, trivial⟩)⟩
  · have hpl : ¬ (p : Int) < l.length := by omega
    have ep : p = l.length := by omega
    subst ep
    have hwn := wrongN_none hfit
    have hle : l.length ≤ bs.length := by
      rcases Nat.eq_zero_or_pos l.length with h | h
      · omega
      · have := hfit (l.length - 1) (by omega)
        unfold fitAt at this
        rw [Bool.and_eq_true] at this
        have := of_decide_eq_true this.1
        omega
    by_cases hne : (bs.length : Int) = l.length
    · simp (maxSteps := 400000) (dsimp := false) only [h0, h1, h6, h7, hpl, hne, bne_self_eq_false, OL_len, AL_len, axs, AThen, ABlock, dstsOk, AStep, callsF, AWant, aop, AS.ev, AS.put, upd, AS.bound, abin, aint, aload, astore, cellsAt, AV.cells, alen, elems, AV.int?, FPost, aresL, ares1, pack, afill, splice, Value.oneCell', Nat.reduceLT, Nat.reduceLeDiff, Nat.reduceEqDiff, Nat.reduceAdd, Nat.reduceMul, Nat.reduceSub, Nat.reduceBEq, Int.reduceLE, Int.reduceLT, Int.reduceToNat, Int.reduceNeg, Int.reduceEq, axt, ftK, ft3, pickP, AScope, AAll, pickQ, ftQ, inHeap, tys]
      have e1 : wkN l bs = -1 := by unfold wkN; rw [hwn]; exact if_neg (by omega)
      have e2 : wkM l bs = mapAt l bs l.length := by unfold wkM; rw [hwn]
      rw [e1, e2]
      exact ⟨_, rfl, Sees.tup (by simp only [SeesL]; exact ⟨Sees.sc, hs _, trivial⟩)⟩
    · simp (maxSteps := 400000) (dsimp := false) only [h0, h1, h6, h7, hpl, hne, OL_len, AL_len, axs, AThen, ABlock, dstsOk, AStep, callsF, AWant, aop, AS.ev, AS.put, upd, AS.bound, abin, aint, aload, astore, cellsAt, AV.cells, alen, elems, AV.int?, FPost, aresL, ares1, pack, afill, splice, Value.oneCell', Nat.reduceLT, Nat.reduceLeDiff, Nat.reduceEqDiff, Nat.reduceAdd, Nat.reduceMul, Nat.reduceSub, Nat.reduceBEq, Int.reduceLE, Int.reduceLT, Int.reduceToNat, Int.reduceNeg, Int.reduceEq, axt, ftK, ft3, pickP, AScope, AAll, pickQ, ftQ, inHeap, tys]
      have e1 : wkN l bs = (l.length : Int) := by unfold wkN; rw [hwn]; exact if_pos (by omega)
      have e2 : wkM l bs = mapAt l bs l.length := by unfold wkM; rw [hwn]
      rw [e1, e2]
      exact ⟨_, rfl, Sees.tup (by simp only [SeesL]; exact ⟨Sees.sc, hs _, trivial⟩)⟩
theorem wkM_len (l : List LOp) (bs : List LAns) : (wkM l bs).length ≤ l.length := by
  unfold wkM
  rcases wrongN_cases l bs with ⟨h, _⟩ | ⟨p, h, hp, _⟩
  · rw [h]; exact mapAt_len l bs _
  · rw [h]; exact Nat.le_trans (mapAt_len l bs p) (by omega)
theorem law_LossyTells (e0 : List (List Value)) (f0 : ∀ x ∈ e0, FitK [some .i64, some .u64, some .u64, some .i64] x) (e1 : List (List AV)) (f1 : ∀ x ∈ e1, FitN [.sc none, .sc (some .u64), .sc (some .i64), .row [some .u64, some .u64], .sc (some .i64)] x) :
    PCalls Try.prog 3 [.lst 4 (e0.map fun e => e.map .sc), .lst 5 e1] (.sc (.bool true)) := by
  obtain ⟨l, hl, _⟩ := rows_OL f0
  obtain ⟨bs, rfl, _⟩ := rows_AL f1
  rw [hl]
  refine PCalls.intro2 Try.func3 rfl rfl Try.ntmps3 Try.results3 (by simp) fun n => ?_; simp (maxSteps := 400000) (dsimp := false) only [axs, AThen, ABlock, dstsOk, AStep, callsF, AWant, aop, AS.ev, AS.put, upd, AS.bound, abin, aint, aload, astore, cellsAt, AV.cells, alen, elems, AV.int?, FPost, aresL, ares1, pack, afill, splice, Value.oneCell', Nat.reduceLT, Nat.reduceLeDiff, Nat.reduceEqDiff, Nat.reduceAdd, Nat.reduceMul, Nat.reduceSub, Nat.reduceBEq, Int.reduceLE, Int.reduceLT, Int.reduceToNat, Int.reduceNeg, Int.reduceEq, axt, ftK, ft3, pickP, AScope, AAll, pickQ, ftQ, inHeap, tys]
  refine ACallK.strict rfl (awake22) (by simp only [SeesL, OL_len, axs, axt, AS.ev, AS.put, upd, inHeap, Nat.reduceLT, Nat.reduceEqDiff, Nat.reduceAdd, Nat.reduceBEq]; repeat' (first | exact True.intro | exact Sees.sc | exact Sees.none | ((with_reducible refine Sees.same ?_) <;> simp [noIds, noIdsL, noIdsE, noIdsE_U, noIdsE_UU, noIdsE_PR, noIdsE_OL, noIdsE_AL] <;> fail) | (refine Live.sees ?_ ?_ <;> first | assumption | (simp [noIdsE_U, noIdsE_UU, noIdsE_PR, noIdsE_OL, noIdsE_AL] <;> fail)) | (refine Sees.obj ?_ ?_ ?_ <;> first | exact ⟨_, _, by assumption, rfl⟩ | (simp [U_len, UU_len, PR_len, OL_len, AL_len] <;> fail) | (simp [noIdsE_U, noIdsE_UU, noIdsE_PR, noIdsE_OL, noIdsE_AL] <;> fail) | (simp [U, UU, upd] <;> fail) | (simp [U, UU, upd, neS, *] <;> fail)) | (refine Sees.of_seen 3 ?_ <;> simp [seen, upd, noIdsE, noIdsL, noIds, U, UU, Nat.add_assoc] <;> fail) | refine Sees.agg ?_ | refine And.intro ?_ ?_ | simp only [SeesL])) ?_; simp (maxSteps := 400000) (dsimp := false) only [OL_len, axs, AThen, ABlock, dstsOk, AStep, callsF, AWant, aop, AS.ev, AS.put, upd, AS.bound, abin, aint, aload, astore, cellsAt, AV.cells, alen, elems, AV.int?, FPost, aresL, ares1, pack, afill, splice, Value.oneCell', Nat.reduceLT, Nat.reduceLeDiff, Nat.reduceEqDiff, Nat.reduceAdd, Nat.reduceMul, Nat.reduceSub, Nat.reduceBEq, Int.reduceLE, Int.reduceLT, Int.reduceToNat, Int.reduceNeg, Int.reduceEq, axt, ftK, ft3, pickP, AScope, AAll, pickQ, ftQ, inHeap, tys]
  by_cases h60 : (l.length : Int) > 60
  · simp (maxSteps := 400000) (dsimp := false) only [h60, axs, AThen, ABlock, dstsOk, AStep, callsF, AWant, aop, AS.ev, AS.put, upd, AS.bound, abin, aint, aload, astore, cellsAt, AV.cells, alen, elems, AV.int?, FPost, aresL, ares1, pack, afill, splice, Value.oneCell', Nat.reduceLT, Nat.reduceLeDiff, Nat.reduceEqDiff, Nat.reduceAdd, Nat.reduceMul, Nat.reduceSub, Nat.reduceBEq, Int.reduceLE, Int.reduceLT, Int.reduceToNat, Int.reduceNeg, Int.reduceEq, axt, ftK, ft3, pickP, AScope, AAll, pickQ, ftQ, inHeap, tys]
    exact ⟨_, rfl, Sees.sc⟩
  · simp (maxSteps := 400000) (dsimp := false) only [h60, axs, AThen, ABlock, dstsOk, AStep, callsF, AWant, aop, AS.ev, AS.put, upd, AS.bound, abin, aint, aload, astore, cellsAt, AV.cells, alen, elems, AV.int?, FPost, aresL, ares1, pack, afill, splice, Value.oneCell', Nat.reduceLT, Nat.reduceLeDiff, Nat.reduceEqDiff, Nat.reduceAdd, Nat.reduceMul, Nat.reduceSub, Nat.reduceBEq, Int.reduceLE, Int.reduceLT, Int.reduceToNat, Int.reduceNeg, Int.reduceEq, axt, ftK, ft3, pickP, AScope, AAll, pickQ, ftQ, inHeap, tys]
    cases hf : fewB bs with
    | false =>
      have cf := rFew bs
      rw [hf] at cf
      refine ACallK.strict rfl (cf) (by simp only [SeesL, AL_len, axs, axt, AS.ev, AS.put, upd, inHeap, Nat.reduceLT, Nat.reduceEqDiff, Nat.reduceAdd, Nat.reduceBEq]; repeat' (first | exact True.intro | exact Sees.sc | exact Sees.none | ((with_reducible refine Sees.same ?_) <;> simp [noIds, noIdsL, noIdsE, noIdsE_U, noIdsE_UU, noIdsE_PR, noIdsE_OL, noIdsE_AL] <;> fail) | (refine Live.sees ?_ ?_ <;> first | assumption | (simp [noIdsE_U, noIdsE_UU, noIdsE_PR, noIdsE_OL, noIdsE_AL] <;> fail)) | (refine Sees.obj ?_ ?_ ?_ <;> first | exact ⟨_, _, by assumption, rfl⟩ | (simp [U_len, UU_len, PR_len, OL_len, AL_len] <;> fail) | (simp [noIdsE_U, noIdsE_UU, noIdsE_PR, noIdsE_OL, noIdsE_AL] <;> fail) | (simp [U, UU, upd] <;> fail) | (simp [U, UU, upd, neS, *] <;> fail)) | (refine Sees.of_seen 3 ?_ <;> simp [seen, upd, noIdsE, noIdsL, noIds, U, UU, Nat.add_assoc] <;> fail) | refine Sees.agg ?_ | refine And.intro ?_ ?_ | simp only [SeesL])) ?_; simp (maxSteps := 400000) (dsimp := false) only [AL_len, axs, AThen, ABlock, dstsOk, AStep, callsF, AWant, aop, AS.ev, AS.put, upd, AS.bound, abin, aint, aload, astore, cellsAt, AV.cells, alen, elems, AV.int?, FPost, aresL, ares1, pack, afill, splice, Value.oneCell', Nat.reduceLT, Nat.reduceLeDiff, Nat.reduceEqDiff, Nat.reduceAdd, Nat.reduceMul, Nat.reduceSub, Nat.reduceBEq, Int.reduceLE, Int.reduceLT, Int.reduceToNat, Int.reduceNeg, Int.reduceEq, axt, ftK, ft3, pickP, AScope, AAll, pickQ, ftQ, inHeap, tys]
      exact ⟨_, rfl, Sees.sc⟩
    | true =>
      obtain ⟨g1, g2⟩ := few_iff.1 hf
      have cf := rFew bs
      rw [hf] at cf
      have hml := wkM_len l bs
      have ho : ∀ a ∈ bs, a.out.length ≤ 1000 := fun a ha => by have := g2 a ha; omega
      have cw := cWrong l bs (by omega) ho (by omega)
      have cl := cLeft l bs (by omega) ho (by omega)
      have cr := rWalk l bs (by omega) ho (by omega)
      have cs := rSameP (wkM l bs) (by omega)
      generalize wkM l bs = M at *
      generalize wkN l bs = N at *
      refine ACallK.strict rfl (cf) (by simp only [SeesL, axs, axt, AS.ev, AS.put, upd, inHeap, Nat.reduceLT, Nat.reduceEqDiff, Nat.reduceAdd, Nat.reduceBEq]; repeat' (first | exact True.intro | exact Sees.sc | exact Sees.none | ((with_reducible refine Sees.same ?_) <;> simp [noIds, noIdsL, noIdsE, noIdsE_U, noIdsE_UU, noIdsE_PR, noIdsE_OL, noIdsE_AL] <;> fail) | (refine Live.sees ?_ ?_ <;> first | assumption | (simp [noIdsE_U, noIdsE_UU, noIdsE_PR, noIdsE_OL, noIdsE_AL] <;> fail)) | (refine Sees.obj ?_ ?_ ?_ <;> first | exact ⟨_, _, by assumption, rfl⟩ | (simp [U_len, UU_len, PR_len, OL_len, AL_len] <;> fail) | (simp [noIdsE_U, noIdsE_UU, noIdsE_PR, noIdsE_OL, noIdsE_AL] <;> fail) | (simp [U, UU, upd] <;> fail) | (simp [U, UU, upd, neS, *] <;> fail)) | (refine Sees.of_seen 3 ?_ <;> simp [seen, upd, noIdsE, noIdsL, noIds, U, UU, Nat.add_assoc] <;> fail) | refine Sees.agg ?_ | refine And.intro ?_ ?_ | simp only [SeesL])) ?_; simp (maxSteps := 400000) (dsimp := false) only [axs, AThen, ABlock, dstsOk, AStep, callsF, AWant, aop, AS.ev, AS.put, upd, AS.bound, abin, aint, aload, astore, cellsAt, AV.cells, alen, elems, AV.int?, FPost, aresL, ares1, pack, afill, splice, Value.oneCell', Nat.reduceLT, Nat.reduceLeDiff, Nat.reduceEqDiff, Nat.reduceAdd, Nat.reduceMul, Nat.reduceSub, Nat.reduceBEq, Int.reduceLE, Int.reduceLT, Int.reduceToNat, Int.reduceNeg, Int.reduceEq, axt, ftK, ft3, pickP, AScope, AAll, pickQ, ftQ, inHeap, tys]
      refine ACallK.strict rfl (cr) (by simp only [SeesL, axs, axt, AS.ev, AS.put, upd, inHeap, Nat.reduceLT, Nat.reduceEqDiff, Nat.reduceAdd, Nat.reduceBEq]; repeat' (first | exact True.intro | exact Sees.sc | exact Sees.none | ((with_reducible refine Sees.same ?_) <;> simp [noIds, noIdsL, noIdsE, noIdsE_U, noIdsE_UU, noIdsE_PR, noIdsE_OL, noIdsE_AL] <;> fail) | (refine Live.sees ?_ ?_ <;> first | assumption | (simp [noIdsE_U, noIdsE_UU, noIdsE_PR, noIdsE_OL, noIdsE_AL] <;> fail)) | (refine Sees.obj ?_ ?_ ?_ <;> first | exact ⟨_, _, by assumption, rfl⟩ | (simp [U_len, UU_len, PR_len, OL_len, AL_len] <;> fail) | (simp [noIdsE_U, noIdsE_UU, noIdsE_PR, noIdsE_OL, noIdsE_AL] <;> fail) | (simp [U, UU, upd] <;> fail) | (simp [U, UU, upd, neS, *] <;> fail)) | (refine Sees.of_seen 3 ?_ <;> simp [seen, upd, noIdsE, noIdsL, noIds, U, UU, Nat.add_assoc] <;> fail) | refine Sees.agg ?_ | refine And.intro ?_ ?_ | simp only [SeesL])) ?_; simp (maxSteps := 400000) (dsimp := false) only [axs, AThen, ABlock, dstsOk, AStep, callsF, AWant, aop, AS.ev, AS.put, upd, AS.bound, abin, aint, aload, astore, cellsAt, AV.cells, alen, elems, AV.int?, FPost, aresL, ares1, pack, afill, splice, Value.oneCell', Nat.reduceLT, Nat.reduceLeDiff, Nat.reduceEqDiff, Nat.reduceAdd, Nat.reduceMul, Nat.reduceSub, Nat.reduceBEq, Int.reduceLE, Int.reduceLT, Int.reduceToNat, Int.reduceNeg, Int.reduceEq, axt, ftK, ft3, pickP, AScope, AAll, pickQ, ftQ, inHeap, tys]
      refine ACallK.strict rfl (cw) (by simp only [SeesL, axs, axt, AS.ev, AS.put, upd, inHeap, Nat.reduceLT, Nat.reduceEqDiff, Nat.reduceAdd, Nat.reduceBEq]; repeat' (first | exact True.intro | exact Sees.sc | exact Sees.none | ((with_reducible refine Sees.same ?_) <;> simp [noIds, noIdsL, noIdsE, noIdsE_U, noIdsE_UU, noIdsE_PR, noIdsE_OL, noIdsE_AL] <;> fail) | (refine Live.sees ?_ ?_ <;> first | assumption | (simp [noIdsE_U, noIdsE_UU, noIdsE_PR, noIdsE_OL, noIdsE_AL] <;> fail)) | (refine Sees.obj ?_ ?_ ?_ <;> first | exact ⟨_, _, by assumption, rfl⟩ | (simp [U_len, UU_len, PR_len, OL_len, AL_len] <;> fail) | (simp [noIdsE_U, noIdsE_UU, noIdsE_PR, noIdsE_OL, noIdsE_AL] <;> fail) | (simp [U, UU, upd] <;> fail) | (simp [U, UU, upd, neS, *] <;> fail)) | (refine Sees.of_seen 3 ?_ <;> simp [seen, upd, noIdsE, noIdsL, noIds, U, UU, Nat.add_assoc] <;> fail) | refine Sees.agg ?_ | refine And.intro ?_ ?_ | simp only [SeesL])) ?_; simp (maxSteps := 400000) (dsimp := false) only [axs, AThen, ABlock, dstsOk, AStep, callsF, AWant, aop, AS.ev, AS.put, upd, AS.bound, abin, aint, aload, astore, cellsAt, AV.cells, alen, elems, AV.int?, FPost, aresL, ares1, pack, afill, splice, Value.oneCell', Nat.reduceLT, Nat.reduceLeDiff, Nat.reduceEqDiff, Nat.reduceAdd, Nat.reduceMul, Nat.reduceSub, Nat.reduceBEq, Int.reduceLE, Int.reduceLT, Int.reduceToNat, Int.reduceNeg, Int.reduceEq, axt, ftK, ft3, pickP, AScope, AAll, pickQ, ftQ, inHeap, tys]
      refine ACallK.strict rfl (cl) (by simp only [SeesL, axs, axt, AS.ev, AS.put, upd, inHeap, Nat.reduceLT, Nat.reduceEqDiff, Nat.reduceAdd, Nat.reduceBEq]; repeat' (first | exact True.intro | exact Sees.sc | exact Sees.none | ((with_reducible refine Sees.same ?_) <;> simp [noIds, noIdsL, noIdsE, noIdsE_U, noIdsE_UU, noIdsE_PR, noIdsE_OL, noIdsE_AL] <;> fail) | (refine Live.sees ?_ ?_ <;> first | assumption | (simp [noIdsE_U, noIdsE_UU, noIdsE_PR, noIdsE_OL, noIdsE_AL] <;> fail)) | (refine Sees.obj ?_ ?_ ?_ <;> first | exact ⟨_, _, by assumption, rfl⟩ | (simp [U_len, UU_len, PR_len, OL_len, AL_len] <;> fail) | (simp [noIdsE_U, noIdsE_UU, noIdsE_PR, noIdsE_OL, noIdsE_AL] <;> fail) | (simp [U, UU, upd] <;> fail) | (simp [U, UU, upd, neS, *] <;> fail)) | (refine Sees.of_seen 3 ?_ <;> simp [seen, upd, noIdsE, noIdsL, noIds, U, UU, Nat.add_assoc] <;> fail) | refine Sees.agg ?_ | refine And.intro ?_ ?_ | simp only [SeesL])) ?_; simp (maxSteps := 400000) (dsimp := false) only [axs, AThen, ABlock, dstsOk, AStep, callsF, AWant, aop, AS.ev, AS.put, upd, AS.bound, abin, aint, aload, astore, cellsAt, AV.cells, alen, elems, AV.int?, FPost, aresL, ares1, pack, afill, splice, Value.oneCell', Nat.reduceLT, Nat.reduceLeDiff, Nat.reduceEqDiff, Nat.reduceAdd, Nat.reduceMul, Nat.reduceSub, Nat.reduceBEq, Int.reduceLE, Int.reduceLT, Int.reduceToNat, Int.reduceNeg, Int.reduceEq, axt, ftK, ft3, pickP, AScope, AAll, pickQ, ftQ, inHeap, tys]
      refine ACallK.strict rfl (cs) (by simp only [SeesL, axs, axt, AS.ev, AS.put, upd, inHeap, Nat.reduceLT, Nat.reduceEqDiff, Nat.reduceAdd, Nat.reduceBEq]; repeat' (first | exact True.intro | exact Sees.sc | exact Sees.none | ((with_reducible refine Sees.same ?_) <;> simp [noIds, noIdsL, noIdsE, noIdsE_U, noIdsE_UU, noIdsE_PR, noIdsE_OL, noIdsE_AL] <;> fail) | (refine Live.sees ?_ ?_ <;> first | assumption | (simp [noIdsE_U, noIdsE_UU, noIdsE_PR, noIdsE_OL, noIdsE_AL] <;> fail)) | (refine Sees.obj ?_ ?_ ?_ <;> first | exact ⟨_, _, by assumption, rfl⟩ | (simp [U_len, UU_len, PR_len, OL_len, AL_len] <;> fail) | (simp [noIdsE_U, noIdsE_UU, noIdsE_PR, noIdsE_OL, noIdsE_AL] <;> fail) | (simp [U, UU, upd] <;> fail) | (simp [U, UU, upd, neS, *] <;> fail)) | (refine Sees.of_seen 3 ?_ <;> simp [seen, upd, noIdsE, noIdsL, noIds, U, UU, Nat.add_assoc] <;> fail) | refine Sees.agg ?_ | refine And.intro ?_ ?_ | simp only [SeesL])) ?_; simp (maxSteps := 400000) (dsimp := false) only [axs, AThen, ABlock, dstsOk, AStep, callsF, AWant, aop, AS.ev, AS.put, upd, AS.bound, abin, aint, aload, astore, cellsAt, AV.cells, alen, elems, AV.int?, FPost, aresL, ares1, pack, afill, splice, Value.oneCell', Nat.reduceLT, Nat.reduceLeDiff, Nat.reduceEqDiff, Nat.reduceAdd, Nat.reduceMul, Nat.reduceSub, Nat.reduceBEq, Int.reduceLE, Int.reduceLT, Int.reduceToNat, Int.reduceNeg, Int.reduceEq, axt, ftK, ft3, pickP, AScope, AAll, pickQ, ftQ, inHeap, tys]
      exact ⟨_, rfl, Sees.sc⟩
end Go.Al
