/- Items in rows: places, copies, by the library. Conditions: the rows are short. -/
import Derived.Test.YthglbfgmohgfdaaKp1
set_option linter.unusedVariables false
set_option linter.unusedSimpArgs false
set_option maxRecDepth 20000
set_option maxHeartbeats 3200000
-- NOIDS: noIdsE_IT
-- LENS: IT_len
namespace Go.Al
open Go.Proofs
def IT (l : List (Int × Int)) : List (List AV) := l.map fun p => [.sc (.int .u64 p.1), .sc (.int .i64 p.2)]
theorem IT_len (l : List (Int × Int)) : (IT l).length = l.length := by simp [IT]
theorem IT_get {l : List (Int × Int)} {p : Nat} {x : Int × Int} (h : l[p]? = some x) : (IT l)[p]? = some [.sc (.int .u64 x.1), .sc (.int .i64 x.2)] := by simp [IT, h]
theorem IT_take (l : List (Int × Int)) (k : Nat) : (IT l).take k = IT (l.take k) := by simp [IT]
theorem IT_drop (l : List (Int × Int)) (k : Nat) : (IT l).drop k = IT (l.drop k) := by simp [IT]
theorem IT_append (a b : List (Int × Int)) : IT (a ++ b) = IT a ++ IT b := by simp [IT]
theorem IT_set (l : List (Int × Int)) (p : Nat) (a b : Int) : (IT l).set p [.sc (.int .u64 a), .sc (.int .i64 b)] = IT (l.set p (a, b)) := by simp [IT, List.map_set]
theorem noIdsE_IT (l : List (Int × Int)) : noIdsE (IT l) = true := noIdsE_map _ (fun x => by simp [noIdsL, noIds]) l
theorem IT_nil {l : List (Int × Int)} (h : IT l = []) : l = [] := by simpa [IT] using h
/-- A test of pairs, as a function: it changes nothing. -/
def TestF (g : Nat) (caps : List AV) (t : Int × Int → Bool) (H : AH) (b : Nat) : Prop := ∀ (n : Nat) (x : Int × Int), b ≤ n → HCalls Try.prog g (.agg [.sc (.int .u64 x.1), .sc (.int .i64 x.2)] :: caps) H n fun v H' n' => v = .sc (.bool (t x)) ∧ H' = H ∧ n' = n
theorem cIdxR (t : Int × Int → Bool) (l : List (Int × Int)) (hl : l.length ≤ 1000000) {g : Nat} {caps : List AV} {H : AH} {n : Nat} (hf : TestF g caps t H n) :
    HCalls Try.prog 62 [.lst 2 (IT l), .fn g caps] H n fun v H' n' => v = .sc (.int .i64 (idxT t l)) ∧ H' = H ∧ n' = n := by
  refine HCalls.walk Try.func62 rfl rfl Try.ntmps62 Try.results62 (by simp) ?_; simp (maxSteps := 400000) (dsimp := false) only [IT_len, axs, AThen, ABlock, dstsOk, AStep, callsF, AWant, aop, AS.ev, AS.put, upd, AS.bound, abin, aint, aload, astore, cellsAt, AV.cells, alen, elems, AV.int?, FPost, aresL, ares1, pack, afill, splice, Value.oneCell', Nat.reduceLT, Nat.reduceLeDiff, Nat.reduceEqDiff, Nat.reduceAdd, Nat.reduceMul, Nat.reduceSub, Nat.reduceBEq, Int.reduceLE, Int.reduceLT, Int.reduceToNat, Int.reduceNeg, Int.reduceEq, axt, ftK, ft3, pickP, AScope, AAll, pickQ, ftQ, inHeap, tys]
  refine ALoop.upto l.length (fun p s => s.t 0 = .lst 2 (IT l) ∧ s.t 1 = .fn g caps ∧ s.t 7 = .sc (.int .i64 l.length) ∧ s.t 8 = .sc (.int .i64 p) ∧ s.H = H ∧ s.n = n ∧ ∀ (q : Nat) (y : Int × Int), q < p → l[q]? = some y → t y = false) ⟨rfl, rfl, rfl, rfl, rfl, rfl, fun q y hq => absurd hq (Nat.not_lt_zero q)⟩ ?_
  rintro p s hp hb ⟨h0, h1, h7, h8, hH, hn, hq⟩
  rcases Nat.lt_or_ge p l.length with hlt | hge
  · obtain ⟨x, hx, hp0, hpl, hw, hT, hD⟩ := idx hlt (by omega)
    have hg := IT_get hx
    simp (maxSteps := 400000) (dsimp := false) only [h0, h1, h7, h8, hp0, hpl, hg, IT_len, axs, AThen, ABlock, dstsOk, AStep, callsF, AWant, aop, AS.ev, AS.put, upd, AS.bound, abin, aint, aload, astore, cellsAt, AV.cells, alen, elems, AV.int?, FPost, aresL, ares1, pack, afill, splice, Value.oneCell', Nat.reduceLT, Nat.reduceLeDiff, Nat.reduceEqDiff, Nat.reduceAdd, Nat.reduceMul, Nat.reduceSub, Nat.reduceBEq, Int.reduceLE, Int.reduceLT, Int.reduceToNat, Int.reduceNeg, Int.reduceEq, axt, ftK, ft3, pickP, AScope, AAll, pickQ, ftQ, inHeap, tys]
    refine ACallK.heap _ rfl (by rw [hH]; exact hf _ x (Nat.le_of_eq hn.symm)) ?_
    rintro v H' n' ⟨rfl, eH, en⟩
    have eH : H' = s.H := eH.trans hH.symm
    have en : n' = s.n := en
    subst eH
    subst en
    cases ht : t x with
    | true =>
      have := idxT_hit hx ht hq
      simp (maxSteps := 400000) (dsimp := false) only [h0, h1, h7, h8, this, axs, AThen, ABlock, dstsOk, AStep, callsF, AWant, aop, AS.ev, AS.put, upd, AS.bound, abin, aint, aload, astore, cellsAt, AV.cells, alen, elems, AV.int?, FPost, aresL, ares1, pack, afill, splice, Value.oneCell', Nat.reduceLT, Nat.reduceLeDiff, Nat.reduceEqDiff, Nat.reduceAdd, Nat.reduceMul, Nat.reduceSub, Nat.reduceBEq, Int.reduceLE, Int.reduceLT, Int.reduceToNat, Int.reduceNeg, Int.reduceEq, axt, ftK, ft3, pickP, AScope, AAll, pickQ, ftQ, inHeap, tys]
      exact ⟨_, rfl, rfl, hH, hn⟩
    | false =>
      simp (maxSteps := 400000) (dsimp := false) only [h0, h1, h7, h8, hw, axs, AThen, ABlock, dstsOk, AStep, callsF, AWant, aop, AS.ev, AS.put, upd, AS.bound, abin, aint, aload, astore, cellsAt, AV.cells, alen, elems, AV.int?, FPost, aresL, ares1, pack, afill, splice, Value.oneCell', Nat.reduceLT, Nat.reduceLeDiff, Nat.reduceEqDiff, Nat.reduceAdd, Nat.reduceMul, Nat.reduceSub, Nat.reduceBEq, Int.reduceLE, Int.reduceLT, Int.reduceToNat, Int.reduceNeg, Int.reduceEq, axt, ftK, ft3, pickP, AScope, AAll, pickQ, ftQ, inHeap, tys]
      refine ⟨hlt, hH, hn, fun q y hq' hy => ?_⟩
      rcases Nat.lt_succ_iff_lt_or_eq.1 hq' with h | rfl
      · exact hq q y h hy
      · rw [hx] at hy; cases hy; exact ht
  · have hge2 : p = l.length := by omega
    subst hge2
    have hpl : ¬ (l.length : Int) < l.length := by omega
    have := idxT_miss hq
    simp (maxSteps := 400000) (dsimp := false) only [h0, h1, h7, h8, hpl, this, axs, AThen, ABlock, dstsOk, AStep, callsF, AWant, aop, AS.ev, AS.put, upd, AS.bound, abin, aint, aload, astore, cellsAt, AV.cells, alen, elems, AV.int?, FPost, aresL, ares1, pack, afill, splice, Value.oneCell', Nat.reduceLT, Nat.reduceLeDiff, Nat.reduceEqDiff, Nat.reduceAdd, Nat.reduceMul, Nat.reduceSub, Nat.reduceBEq, Int.reduceLE, Int.reduceLT, Int.reduceToNat, Int.reduceNeg, Int.reduceEq, axt, ftK, ft3, pickP, AScope, AAll, pickQ, ftQ, inHeap, tys]
    exact ⟨_, rfl, rfl, hH, hn⟩
/-- The test of at: is it the key? -/
theorem cAtF (k : Int) {H : AH} {kb te : Nat} (hk : H kb = some (.obj te 1 [[.sc (.int .u64 k)]] false)) : TestF 63 [.ptr kb 1 0 0] (fun x => decide (x.1 = k)) H (kb + 1) := by
  intro n x hn
  refine HCalls.forget ?_ rfl
  have hkn : ¬ kb = n := by omega
  refine HCalls.walk Try.func63 rfl rfl Try.ntmps63 Try.results63 (by simp) ?_; simp (maxSteps := 400000) (dsimp := false) only [hk, hkn, axs, AThen, ABlock, dstsOk, AStep, callsF, AWant, aop, AS.ev, AS.put, upd, AS.bound, abin, aint, aload, astore, cellsAt, AV.cells, alen, elems, AV.int?, FPost, aresL, ares1, pack, afill, splice, Value.oneCell', Nat.reduceLT, Nat.reduceLeDiff, Nat.reduceEqDiff, Nat.reduceAdd, Nat.reduceMul, Nat.reduceSub, Nat.reduceBEq, Int.reduceLE, Int.reduceLT, Int.reduceToNat, Int.reduceNeg, Int.reduceEq, axt, ftK, ft3, pickP, AScope, AAll, pickQ, ftQ, inHeap, tys]
  exact ⟨_, rfl, rfl, (Keeps.refl _ _).upd⟩
theorem Keeps.put {H H2 : AH} {n n2 j : Nat} {x : Option AO} (k : Keeps H n H2 n2) (h : n ≤ j) : Keeps H n (Al.upd H2 j x) n2 := ⟨k.1, fun i hi => by rw [upd_ne _ _ (by omega), k.2 i hi]⟩
theorem cCloneX (l : List (Int × Int)) (hl : l.length ≤ 1000000) (H : AH) (n : Nat) : HCalls Try.prog 60 [.lst 2 (IT l)] H n fun v H' n' => Live 58 2 H' (IT l) v ∧ (∀ id z o m, v = .sl id z o m → n ≤ id ∧ id < n') ∧ Keeps H n H' n' := by
  refine HCalls.walk Try.func60 rfl rfl Try.ntmps60 Try.results60 (by simp) ?_; simp (maxSteps := 400000) (dsimp := false) only [axs, AThen, ABlock, dstsOk, AStep, callsF, AWant, aop, AS.ev, AS.put, upd, AS.bound, abin, aint, aload, astore, cellsAt, AV.cells, alen, elems, AV.int?, FPost, aresL, ares1, pack, afill, splice, Value.oneCell', Nat.reduceLT, Nat.reduceLeDiff, Nat.reduceEqDiff, Nat.reduceAdd, Nat.reduceMul, Nat.reduceSub, Nat.reduceBEq, Int.reduceLE, Int.reduceLT, Int.reduceToNat, Int.reduceNeg, Int.reduceEq, axt, ftK, ft3, pickP, AScope, AAll, pickQ, ftQ, inHeap, tys]
  refine AStepX.eql_nil rfl rfl sl24 (fun b hb => ?_)
  simp (maxSteps := 400000) (dsimp := false) only [axs, AThen, ABlock, dstsOk, AStep, callsF, AWant, aop, AS.ev, AS.put, upd, AS.bound, abin, aint, aload, astore, cellsAt, AV.cells, alen, elems, AV.int?, FPost, aresL, ares1, pack, afill, splice, Value.oneCell', Nat.reduceLT, Nat.reduceLeDiff, Nat.reduceEqDiff, Nat.reduceAdd, Nat.reduceMul, Nat.reduceSub, Nat.reduceBEq, Int.reduceLE, Int.reduceLT, Int.reduceToNat, Int.reduceNeg, Int.reduceEq, axt, ftK, ft3, pickP, AScope, AAll, pickQ, ftQ, inHeap, tys]
  cases b with
  | true =>
    simp (maxSteps := 400000) (dsimp := false) only [axs, AThen, ABlock, dstsOk, AStep, callsF, AWant, aop, AS.ev, AS.put, upd, AS.bound, abin, aint, aload, astore, cellsAt, AV.cells, alen, elems, AV.int?, FPost, aresL, ares1, pack, afill, splice, Value.oneCell', Nat.reduceLT, Nat.reduceLeDiff, Nat.reduceEqDiff, Nat.reduceAdd, Nat.reduceMul, Nat.reduceSub, Nat.reduceBEq, Int.reduceLE, Int.reduceLT, Int.reduceToNat, Int.reduceNeg, Int.reduceEq, axt, ftK, ft3, pickP, AScope, AAll, pickQ, ftQ, inHeap, tys]
    have : IT l = [] := hb rfl
    rw [this]
    exact ⟨_, rfl, Live.nil, (fun id z o m e => (nomatch e)), Keeps.refl _ _⟩
  | false =>
    have h1 : l.length * 16 ≤ 140737488355328 := by omega
    have h2 : l.length ≤ 1099511627776 := by omega
    simp (maxSteps := 400000) (dsimp := false) only [IT_len, upd_same, h1, h2, axs, AThen, ABlock, dstsOk, AStep, callsF, AWant, aop, AS.ev, AS.put, upd, AS.bound, abin, aint, aload, astore, cellsAt, AV.cells, alen, elems, AV.int?, FPost, aresL, ares1, pack, afill, splice, Value.oneCell', Nat.reduceLT, Nat.reduceLeDiff, Nat.reduceEqDiff, Nat.reduceAdd, Nat.reduceMul, Nat.reduceSub, Nat.reduceBEq, Int.reduceLE, Int.reduceLT, Int.reduceToNat, Int.reduceNeg, Int.reduceEq, axt, ftK, ft3, pickP, AScope, AAll, pickQ, ftQ, inHeap, tys]
    exact ⟨_, rfl, Live.mk (upd_same _ _ _) (by rw [IT_len]), (fun id z o m e => by cases e; omega), ((Keeps.refl _ _).upd.put (Nat.le_refl _)).upd⟩
end Go.Al
