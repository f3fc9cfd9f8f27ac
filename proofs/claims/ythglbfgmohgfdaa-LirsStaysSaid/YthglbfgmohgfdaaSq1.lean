/- What the library's searches over rows of numbers come to. Conditions: none. -/
import Derived.Test.YthglbfgmohgfdaaTy
set_option linter.unusedVariables false
set_option linter.unusedSimpArgs false
namespace Go.Al
open Go.Proofs
def idxF (l : List Int) (v : Int) : Int := match l.findIdx? (· == v) with | some i => i | none => -1
theorem idxF_hit {l : List Int} {p : Nat} {v : Int} (h : l[p]? = some v) (hq : ∀ q, q < p → l[q]? ≠ some v) : idxF l v = p := by
  have hp := (List.getElem?_eq_some_iff.1 h).1
  have : l.findIdx? (· == v) = some p := by
    rw [List.findIdx?_eq_some_iff_getElem]
    refine ⟨hp, by simpa using (List.getElem?_eq_some_iff.1 h).2, fun j hj => ?_⟩
    have := hq j hj
    rw [List.getElem?_eq_getElem (by omega)] at this
    simpa using this
  simp [idxF, this]
theorem idxF_miss {l : List Int} {v : Int} (hq : ∀ q, q < l.length → l[q]? ≠ some v) : idxF l v = -1 := by
  have : l.findIdx? (· == v) = none := by
    rw [List.findIdx?_eq_none_iff]
    intro x hx
    obtain ⟨q, h1, h2⟩ := List.mem_iff_getElem.1 hx
    have := hq q h1
    rw [List.getElem?_eq_getElem h1, h2] at this
    simpa using this
  simp [idxF, this]
theorem idxF_nonneg {l : List Int} {v : Int} : decide (idxF l v ≥ 0) = decide (v ∈ l) := by
  by_cases h : v ∈ l
  · have : ∃ i, l.findIdx? (· == v) = some i := by
      cases e : l.findIdx? (· == v) with
      | some i => exact ⟨i, rfl⟩
      | none =>
        rw [List.findIdx?_eq_none_iff] at e
        have := e v h
        simp at this
    obtain ⟨i, e⟩ := this
    simp only [idxF, e, h, decide_true, ge_iff_le, decide_eq_true_eq]
    omega
  · have e : l.findIdx? (· == v) = none := by
      rw [List.findIdx?_eq_none_iff]
      intro x hx
      have : x ≠ v := by rintro rfl; exact h hx
      simpa using this
    simp [idxF, e, h]
theorem cIndex (l : List Int) (v : Int) (hl : l.length ≤ 1099511627776) : PCalls Try.prog 76 [.lst 1 (U l), .sc (.int .u64 v)] (.sc (.int .i64 (idxF l v))) := by
  refine PCalls.walk Try.func76 rfl rfl Try.ntmps76 Try.results76 (by simp) fun n => ?_; simp (maxSteps := 400000) (dsimp := false) only [U_len, axs, AThen, ABlock, dstsOk, AStep, callsF, AWant, aop, AS.ev, AS.put, upd, AS.bound, abin, aint, aload, astore, cellsAt, AV.cells, alen, elems, AV.int?, FPost, aresL, ares1, pack, afill, splice, Value.oneCell', Nat.reduceLT, Nat.reduceLeDiff, Nat.reduceEqDiff, Nat.reduceAdd, Nat.reduceMul, Nat.reduceSub, Nat.reduceBEq, Int.reduceLE, Int.reduceLT, Int.reduceToNat, Int.reduceNeg, Int.reduceEq, axt, ftK, ft3, pickP, AScope, AAll, pickQ, ftQ, inHeap, tys]
  refine ALoop.intro (fun k s => ∃ p : Nat, p ≤ l.length ∧ k = l.length - p ∧ s.t 0 = .lst 1 (U l) ∧ s.t 1 = .sc (.int .u64 v) ∧ s.t 7 = .sc (.int .i64 l.length) ∧ s.t 8 = .sc (.int .i64 p) ∧ ∀ q, q < p → l[q]? ≠ some v) l.length ⟨0, by omega, rfl, rfl, rfl, rfl, rfl, by omega⟩ ?_
  rintro k s ⟨p, hp, rfl, h0, h1, h7, h8, hq⟩
  simp (maxSteps := 400000) (dsimp := false) only [h0, h1, h7, h8, axs, AThen, ABlock, dstsOk, AStep, callsF, AWant, aop, AS.ev, AS.put, upd, AS.bound, abin, aint, aload, astore, cellsAt, AV.cells, alen, elems, AV.int?, FPost, aresL, ares1, pack, afill, splice, Value.oneCell', Nat.reduceLT, Nat.reduceLeDiff, Nat.reduceEqDiff, Nat.reduceAdd, Nat.reduceMul, Nat.reduceSub, Nat.reduceBEq, Int.reduceLE, Int.reduceLT, Int.reduceToNat, Int.reduceNeg, Int.reduceEq, axt, ftK, ft3, pickP, AScope, AAll, pickQ, ftQ, inHeap, tys]
  refine ACond.intro _ (fun hc => ?_) (fun hc => ?_)
  · have hlt : p < l.length := by simp at hc; omega
    obtain ⟨x, hx⟩ : ∃ x, l[p]? = some x := ⟨_, List.getElem?_eq_getElem hlt⟩
    have hg := U_get hx
    have hp0 : (0 : Int) ≤ p := by omega
    have hpn : ((p : Int)).toNat = p := by omega
    simp (maxSteps := 400000) (dsimp := false) only [h0, h1, h7, h8, hp0, hpn, hg, axs, AThen, ABlock, dstsOk, AStep, callsF, AWant, aop, AS.ev, AS.put, upd, AS.bound, abin, aint, aload, astore, cellsAt, AV.cells, alen, elems, AV.int?, FPost, aresL, ares1, pack, afill, splice, Value.oneCell', Nat.reduceLT, Nat.reduceLeDiff, Nat.reduceEqDiff, Nat.reduceAdd, Nat.reduceMul, Nat.reduceSub, Nat.reduceBEq, Int.reduceLE, Int.reduceLT, Int.reduceToNat, Int.reduceNeg, Int.reduceEq, axt, ftK, ft3, pickP, AScope, AAll, pickQ, ftQ, inHeap, tys]
    refine ACond.intro _ (fun hd => ?_) (fun hd => ?_)
    · have e : v = x := by simpa using hd
      subst e
      have := idxF_hit hx hq
      simp (maxSteps := 400000) (dsimp := false) only [h0, h1, h7, h8, this, axs, AThen, ABlock, dstsOk, AStep, callsF, AWant, aop, AS.ev, AS.put, upd, AS.bound, abin, aint, aload, astore, cellsAt, AV.cells, alen, elems, AV.int?, FPost, aresL, ares1, pack, afill, splice, Value.oneCell', Nat.reduceLT, Nat.reduceLeDiff, Nat.reduceEqDiff, Nat.reduceAdd, Nat.reduceMul, Nat.reduceSub, Nat.reduceBEq, Int.reduceLE, Int.reduceLT, Int.reduceToNat, Int.reduceNeg, Int.reduceEq, axt, ftK, ft3, pickP, AScope, AAll, pickQ, ftQ, inHeap, tys]
      exact endsc _ _
    · have e : ¬ v = x := by simpa using hd
      simp (maxSteps := 400000) (dsimp := false) only [h0, h1, h7, h8, axs, AThen, ABlock, dstsOk, AStep, callsF, AWant, aop, AS.ev, AS.put, upd, AS.bound, abin, aint, aload, astore, cellsAt, AV.cells, alen, elems, AV.int?, FPost, aresL, ares1, pack, afill, splice, Value.oneCell', Nat.reduceLT, Nat.reduceLeDiff, Nat.reduceEqDiff, Nat.reduceAdd, Nat.reduceMul, Nat.reduceSub, Nat.reduceBEq, Int.reduceLE, Int.reduceLT, Int.reduceToNat, Int.reduceNeg, Int.reduceEq, axt, ftK, ft3, pickP, AScope, AAll, pickQ, ftQ, inHeap, tys]
      refine ⟨_, ?_, p + 1, by omega, rfl, ?_, ?_⟩
      · omega
      · rw [wrap_in (by omega) (by omega)]; rfl
      · intro q hq'
        rcases Nat.lt_succ_iff_lt_or_eq.1 hq' with h | rfl
        · exact hq q h
        · rw [hx]; simpa using Ne.symm e
  · have hge : p = l.length := by simp at hc; omega
    subst hge
    have := idxF_miss hq
    simp (maxSteps := 400000) (dsimp := false) only [this, axs, AThen, ABlock, dstsOk, AStep, callsF, AWant, aop, AS.ev, AS.put, upd, AS.bound, abin, aint, aload, astore, cellsAt, AV.cells, alen, elems, AV.int?, FPost, aresL, ares1, pack, afill, splice, Value.oneCell', Nat.reduceLT, Nat.reduceLeDiff, Nat.reduceEqDiff, Nat.reduceAdd, Nat.reduceMul, Nat.reduceSub, Nat.reduceBEq, Int.reduceLE, Int.reduceLT, Int.reduceToNat, Int.reduceNeg, Int.reduceEq, axt, ftK, ft3, pickP, AScope, AAll, pickQ, ftQ, inHeap, tys]
    exact endsc _ _
theorem cContains (l : List Int) (v : Int) (hl : l.length ≤ 1099511627776) : PCalls Try.prog 59 [.lst 1 (U l), .sc (.int .u64 v)] (.sc (.bool (decide (v ∈ l)))) := by
  refine PCalls.walk Try.func59 rfl rfl Try.ntmps59 Try.results59 (by simp) fun n => ?_; simp (maxSteps := 400000) (dsimp := false) only [axs, AThen, ABlock, dstsOk, AStep, callsF, AWant, aop, AS.ev, AS.put, upd, AS.bound, abin, aint, aload, astore, cellsAt, AV.cells, alen, elems, AV.int?, FPost, aresL, ares1, pack, afill, splice, Value.oneCell', Nat.reduceLT, Nat.reduceLeDiff, Nat.reduceEqDiff, Nat.reduceAdd, Nat.reduceMul, Nat.reduceSub, Nat.reduceBEq, Int.reduceLE, Int.reduceLT, Int.reduceToNat, Int.reduceNeg, Int.reduceEq, axt, ftK, ft3, pickP, AScope, AAll, pickQ, ftQ, inHeap, tys]
  refine ACallK.pure 1 rfl (by first | rfl | simp [AS.ev, upd, seen, noIds, noIdsL, noIdsE, noIdsE_U]) (cIndex l v hl) ?_; simp (maxSteps := 400000) (dsimp := false) only [idxF_nonneg, axs, AThen, ABlock, dstsOk, AStep, callsF, AWant, aop, AS.ev, AS.put, upd, AS.bound, abin, aint, aload, astore, cellsAt, AV.cells, alen, elems, AV.int?, FPost, aresL, ares1, pack, afill, splice, Value.oneCell', Nat.reduceLT, Nat.reduceLeDiff, Nat.reduceEqDiff, Nat.reduceAdd, Nat.reduceMul, Nat.reduceSub, Nat.reduceBEq, Int.reduceLE, Int.reduceLT, Int.reduceToNat, Int.reduceNeg, Int.reduceEq, axt, ftK, ft3, pickP, AScope, AAll, pickQ, ftQ, inHeap, tys]
  exact endsc _ _
end Go.Al
