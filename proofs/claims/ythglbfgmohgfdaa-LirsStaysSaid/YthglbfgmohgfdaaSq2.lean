/- What the library's copies and deletions come to. Conditions: none. -/
import Derived.Test.YthglbfgmohgfdaaSq1
set_option linter.unusedVariables false
set_option linter.unusedSimpArgs false
namespace Go.Al
open Go.Proofs
def CloneR (l : List Int) (H : AH) (n : Nat) (r : AV) (H' : AH) (n' : Nat) : Prop :=
  (l = [] ∧ r = .sc (.slice none 0 0) ∧ H' = H ∧ n' = n) ∨
  (r = .sl (n + 1) 1 0 l.length ∧ H' = upd (upd (upd H n (some (.obj 35 1 [] false))) n none) (n + 1) (some (.obj 35 1 (U l) false)) ∧ n' = n + 1 + 1)
theorem elems_lst (H : AH) (l : List Int) : elems H 1 (.lst 1 (U l)) = some (U l) := rfl
theorem cClone (l : List Int) (hl : l.length ≤ 1000000) (H : AH) (n : Nat) : HCalls Try.prog 61 [.lst 1 (U l)] H n (CloneR l H n) := by
  refine HCalls.walk Try.func61 rfl rfl Try.ntmps61 Try.results61 (by simp) ?_; simp (maxSteps := 400000) (dsimp := false) only [axs, AThen, ABlock, dstsOk, AStep, callsF, AWant, aop, AS.ev, AS.put, upd, AS.bound, abin, aint, aload, astore, cellsAt, AV.cells, alen, elems, AV.int?, FPost, aresL, ares1, pack, afill, splice, Value.oneCell', Nat.reduceLT, Nat.reduceLeDiff, Nat.reduceEqDiff, Nat.reduceAdd, Nat.reduceMul, Nat.reduceSub, Nat.reduceBEq, Int.reduceLE, Int.reduceLT, Int.reduceToNat, Int.reduceNeg, Int.reduceEq, axt, ftK, ft3, pickP, AScope, AAll, pickQ, ftQ, inHeap, tys]
  refine AStepX.eql_nil rfl rfl sl25 (fun b hb => ?_)
  simp (maxSteps := 400000) (dsimp := false) only [axs, AThen, ABlock, dstsOk, AStep, callsF, AWant, aop, AS.ev, AS.put, upd, AS.bound, abin, aint, aload, astore, cellsAt, AV.cells, alen, elems, AV.int?, FPost, aresL, ares1, pack, afill, splice, Value.oneCell', Nat.reduceLT, Nat.reduceLeDiff, Nat.reduceEqDiff, Nat.reduceAdd, Nat.reduceMul, Nat.reduceSub, Nat.reduceBEq, Int.reduceLE, Int.reduceLT, Int.reduceToNat, Int.reduceNeg, Int.reduceEq, axt, ftK, ft3, pickP, AScope, AAll, pickQ, ftQ, inHeap, tys]
  refine ACond.intro _ (fun hc => ?_) (fun hc => ?_)
  · simp (maxSteps := 400000) (dsimp := false) only [axs, AThen, ABlock, dstsOk, AStep, callsF, AWant, aop, AS.ev, AS.put, upd, AS.bound, abin, aint, aload, astore, cellsAt, AV.cells, alen, elems, AV.int?, FPost, aresL, ares1, pack, afill, splice, Value.oneCell', Nat.reduceLT, Nat.reduceLeDiff, Nat.reduceEqDiff, Nat.reduceAdd, Nat.reduceMul, Nat.reduceSub, Nat.reduceBEq, Int.reduceLE, Int.reduceLT, Int.reduceToNat, Int.reduceNeg, Int.reduceEq, axt, ftK, ft3, pickP, AScope, AAll, pickQ, ftQ, inHeap, tys]
    have : l = [] := by
      have := hb hc
      simpa [U] using this
    exact ⟨_, rfl, .inl ⟨this, rfl, rfl, rfl⟩⟩
  · have h1 : l.length * 8 ≤ 140737488355328 := by omega
    have h2 : l.length ≤ 1099511627776 := by omega
    simp (maxSteps := 400000) (dsimp := false) only [U_len, upd_same, h1, h2, axs, AThen, ABlock, dstsOk, AStep, callsF, AWant, aop, AS.ev, AS.put, upd, AS.bound, abin, aint, aload, astore, cellsAt, AV.cells, alen, elems, AV.int?, FPost, aresL, ares1, pack, afill, splice, Value.oneCell', Nat.reduceLT, Nat.reduceLeDiff, Nat.reduceEqDiff, Nat.reduceAdd, Nat.reduceMul, Nat.reduceSub, Nat.reduceBEq, Int.reduceLE, Int.reduceLT, Int.reduceToNat, Int.reduceNeg, Int.reduceEq, axt, ftK, ft3, pickP, AScope, AAll, pickQ, ftQ, inHeap, tys]
    exact ⟨_, rfl, .inr ⟨rfl, rfl, rfl⟩⟩
/-- The test of Without: is it v? -/
theorem cIs (v x : Int) (H : AH) (n kb te : Nat) (hk : H kb = some (.obj te 1 [[.sc (.int .u64 v)]] false)) :
    HCalls Try.prog 68 [.sc (.int .u64 x), .ptr kb 1 0 0] H n fun r H' n' => r = .sc (.bool (decide (x = v))) ∧ H' = H ∧ n' = n := by
  refine HCalls.walk Try.func68 rfl rfl Try.ntmps68 Try.results68 (by simp) ?_; simp (maxSteps := 400000) (dsimp := false) only [hk, axs, AThen, ABlock, dstsOk, AStep, callsF, AWant, aop, AS.ev, AS.put, upd, AS.bound, abin, aint, aload, astore, cellsAt, AV.cells, alen, elems, AV.int?, FPost, aresL, ares1, pack, afill, splice, Value.oneCell', Nat.reduceLT, Nat.reduceLeDiff, Nat.reduceEqDiff, Nat.reduceAdd, Nat.reduceMul, Nat.reduceSub, Nat.reduceBEq, Int.reduceLE, Int.reduceLT, Int.reduceToNat, Int.reduceNeg, Int.reduceEq, axt, ftK, ft3, pickP, AScope, AAll, pickQ, ftQ, inHeap, tys]
  exact ⟨_, rfl, rfl⟩
theorem cIndexFunc (l : List Int) (v : Int) (hl : l.length ≤ 1000000) (H : AH) (n id kb te tf : Nat) (s : Bool) (es : List (List AV)) (hid : H id = some (.obj te 1 (U l) false)) (hk : H kb = some (.obj tf 1 [[.sc (.int .u64 v)]] false)) :
    HCalls Try.prog 79 [.sl id 1 0 l.length, .fn 68 [.ptr kb 1 0 0]] H n fun r H' n' => r = .sc (.int .i64 (idxF l v)) ∧ H' = H ∧ n' = n := by
  refine HCalls.walk Try.func79 rfl rfl Try.ntmps79 Try.results79 (by simp) ?_; simp (maxSteps := 400000) (dsimp := false) only [axs, AThen, ABlock, dstsOk, AStep, callsF, AWant, aop, AS.ev, AS.put, upd, AS.bound, abin, aint, aload, astore, cellsAt, AV.cells, alen, elems, AV.int?, FPost, aresL, ares1, pack, afill, splice, Value.oneCell', Nat.reduceLT, Nat.reduceLeDiff, Nat.reduceEqDiff, Nat.reduceAdd, Nat.reduceMul, Nat.reduceSub, Nat.reduceBEq, Int.reduceLE, Int.reduceLT, Int.reduceToNat, Int.reduceNeg, Int.reduceEq, axt, ftK, ft3, pickP, AScope, AAll, pickQ, ftQ, inHeap, tys]
  refine ALoop.intro (fun k s => ∃ p : Nat, p ≤ l.length ∧ k = l.length - p ∧ s.t 0 = .sl id 1 0 l.length ∧ s.t 1 = .fn 68 [.ptr kb 1 0 0] ∧ s.t 7 = .sc (.int .i64 l.length) ∧ s.t 8 = .sc (.int .i64 p) ∧ s.H = H ∧ s.n = n ∧ ∀ q, q < p → l[q]? ≠ some v) l.length ⟨0, by omega, rfl, rfl, rfl, rfl, rfl, rfl, rfl, by omega⟩ ?_
  rintro k s ⟨p, hp, rfl, h0, h1, h7, h8, hH, hn, hq⟩
  simp (maxSteps := 400000) (dsimp := false) only [h0, h1, h7, h8, axs, AThen, ABlock, dstsOk, AStep, callsF, AWant, aop, AS.ev, AS.put, upd, AS.bound, abin, aint, aload, astore, cellsAt, AV.cells, alen, elems, AV.int?, FPost, aresL, ares1, pack, afill, splice, Value.oneCell', Nat.reduceLT, Nat.reduceLeDiff, Nat.reduceEqDiff, Nat.reduceAdd, Nat.reduceMul, Nat.reduceSub, Nat.reduceBEq, Int.reduceLE, Int.reduceLT, Int.reduceToNat, Int.reduceNeg, Int.reduceEq, axt, ftK, ft3, pickP, AScope, AAll, pickQ, ftQ, inHeap, tys]
  refine ACond.intro _ (fun hc => ?_) (fun hc => ?_)
  · have hlt : p < l.length := by simp at hc; omega
    obtain ⟨x, hx⟩ : ∃ x, l[p]? = some x := ⟨_, List.getElem?_eq_getElem hlt⟩
    have hg := U_get hx
    have hp0 : (0 : Int) ≤ p := by omega
    have hpl : (p : Int) < l.length := by omega
    have hpn : ((p : Int)).toNat = p := by omega
    simp (maxSteps := 400000) (dsimp := false) only [h0, h1, h7, h8, hp0, hpl, hpn, hg, hH, hn, hid, axs, AThen, ABlock, dstsOk, AStep, callsF, AWant, aop, AS.ev, AS.put, upd, AS.bound, abin, aint, aload, astore, cellsAt, AV.cells, alen, elems, AV.int?, FPost, aresL, ares1, pack, afill, splice, Value.oneCell', Nat.reduceLT, Nat.reduceLeDiff, Nat.reduceEqDiff, Nat.reduceAdd, Nat.reduceMul, Nat.reduceSub, Nat.reduceBEq, Int.reduceLE, Int.reduceLT, Int.reduceToNat, Int.reduceNeg, Int.reduceEq, axt, ftK, ft3, pickP, AScope, AAll, pickQ, ftQ, inHeap, tys]
    refine ACallK.heap _ rfl (cIs v x _ _ kb tf hk) ?_
    rintro r H' n' ⟨rfl, rfl, rfl⟩
    simp (maxSteps := 400000) (dsimp := false) only [h0, h1, h7, h8, axs, AThen, ABlock, dstsOk, AStep, callsF, AWant, aop, AS.ev, AS.put, upd, AS.bound, abin, aint, aload, astore, cellsAt, AV.cells, alen, elems, AV.int?, FPost, aresL, ares1, pack, afill, splice, Value.oneCell', Nat.reduceLT, Nat.reduceLeDiff, Nat.reduceEqDiff, Nat.reduceAdd, Nat.reduceMul, Nat.reduceSub, Nat.reduceBEq, Int.reduceLE, Int.reduceLT, Int.reduceToNat, Int.reduceNeg, Int.reduceEq, axt, ftK, ft3, pickP, AScope, AAll, pickQ, ftQ, inHeap, tys]
    refine ACond.intro _ (fun hd => ?_) (fun hd => ?_)
    · have e : x = v := by simpa using hd
      subst e
      have := idxF_hit hx hq
      simp (maxSteps := 400000) (dsimp := false) only [h0, h1, h7, h8, this, axs, AThen, ABlock, dstsOk, AStep, callsF, AWant, aop, AS.ev, AS.put, upd, AS.bound, abin, aint, aload, astore, cellsAt, AV.cells, alen, elems, AV.int?, FPost, aresL, ares1, pack, afill, splice, Value.oneCell', Nat.reduceLT, Nat.reduceLeDiff, Nat.reduceEqDiff, Nat.reduceAdd, Nat.reduceMul, Nat.reduceSub, Nat.reduceBEq, Int.reduceLE, Int.reduceLT, Int.reduceToNat, Int.reduceNeg, Int.reduceEq, axt, ftK, ft3, pickP, AScope, AAll, pickQ, ftQ, inHeap, tys]
      exact ⟨_, rfl, rfl⟩
    · have e : ¬ x = v := by simpa using hd
      simp (maxSteps := 400000) (dsimp := false) only [h0, h1, h7, h8, axs, AThen, ABlock, dstsOk, AStep, callsF, AWant, aop, AS.ev, AS.put, upd, AS.bound, abin, aint, aload, astore, cellsAt, AV.cells, alen, elems, AV.int?, FPost, aresL, ares1, pack, afill, splice, Value.oneCell', Nat.reduceLT, Nat.reduceLeDiff, Nat.reduceEqDiff, Nat.reduceAdd, Nat.reduceMul, Nat.reduceSub, Nat.reduceBEq, Int.reduceLE, Int.reduceLT, Int.reduceToNat, Int.reduceNeg, Int.reduceEq, axt, ftK, ft3, pickP, AScope, AAll, pickQ, ftQ, inHeap, tys]
      refine ⟨_, ?_, p + 1, by omega, rfl, ?_, ?_⟩
      · omega
      · rw [wrap_in (by omega) (by omega)]; rfl
      · intro q hq'
        rcases Nat.lt_succ_iff_lt_or_eq.1 hq' with h | rfl
        · exact hq q h
        · rw [hx]; simpa using e
  · have hge : p = l.length := by simp at hc; omega
    subst hge
    have := idxF_miss hq
    simp (maxSteps := 400000) (dsimp := false) only [this, hH, hn, axs, AThen, ABlock, dstsOk, AStep, callsF, AWant, aop, AS.ev, AS.put, upd, AS.bound, abin, aint, aload, astore, cellsAt, AV.cells, alen, elems, AV.int?, FPost, aresL, ares1, pack, afill, splice, Value.oneCell', Nat.reduceLT, Nat.reduceLeDiff, Nat.reduceEqDiff, Nat.reduceAdd, Nat.reduceMul, Nat.reduceSub, Nat.reduceBEq, Int.reduceLE, Int.reduceLT, Int.reduceToNat, Int.reduceNeg, Int.reduceEq, axt, ftK, ft3, pickP, AScope, AAll, pickQ, ftQ, inHeap, tys]
    exact ⟨_, rfl, rfl⟩
end Go.Al
