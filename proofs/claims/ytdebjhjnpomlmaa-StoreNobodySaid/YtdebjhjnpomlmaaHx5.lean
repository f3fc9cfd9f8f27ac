/- Numbers by keys, in slots, by the program: what is told of them. Conditions: the numbers fit their kinds. -/
import Derived.Test.YtdebjhjnpomlmaaHx4
set_option linter.unusedVariables false
set_option linter.unusedSimpArgs false
set_option maxRecDepth 20000
set_option maxHeartbeats 1600000
namespace Go.Al
open Go.Proofs
/-- What a search leaves behind, with one object more. -/
def fdN (T : Tb) (k : Int) (q : Nat) : Nat := D T.length (hm T.length k) q + 1
def getF (T : Tb) (q : Nat) : List AV := [.sc (.int .i32 (sl T q).n), .sc (.bool (sl T q).full)]
theorem HtH.keeps {H H' : AH} {n n' a s : Nat} {T : Tb} {m : Int} (h : HtH H n a s T m) (hk : Keeps H n H' n') : HtH H' n' a s T m := h.keep hk.1 fun j hj _ => hk.2 j hj
theorem fdH_keeps (H : AH) (n : Nat) (T : Tb) (a j : Nat) : Keeps H n (fdH H n T a j) (n + j) := ⟨by omega, fun id h => fdH_old j id h⟩
theorem cHtGet {H : AH} {n a s : Nat} {T : Tb} {m : Int} (h : HtH H n a s T m) (hp : Pw T.length) {k : Int} (hk : Key k) {q : Nat} (hq : IsFind T.length (hm T.length) T k q) :
    HCalls Try.prog 69 [.ptr a 2 0 0, .sc (.int .u64 k)] H n fun r H' n' => r = .tup (getF T q) ∧ Keeps H n H' n' := by
  have ha := h.ha
  have hs := h.hs
  have hl := hp.le
  have hg := TL_get hq.lt
  have r0 : (0 : Int) ≤ q := by omega
  have r1 : (q : Int) < T.length := by have := hq.lt; omega
  have e0 : ∀ j, fdH H n T (hm T.length k) j s = some (.obj 130 3 (TL T) false) := fun j => by rw [fdH_old _ _ h.ls]; exact hs
  have e1 : ∀ j (x : Option AO), fdH (upd H n x) (n + 1) T (hm T.length k) j s = some (.obj 130 3 (TL T) false) := fun j x => by rw [fdH_old _ _ (by have := h.ls; omega), upd_ne _ _ (by have := h.ls; omega)]; exact hs
  have e2 : ∀ j (x : Option AO), fdH (upd H n x) (n + 1) T (hm T.length k) j n = x := fun j x => by rw [fdH_old _ _ (by omega), upd_same]
  have ne1 : ¬ s = n := by have := h.ls; omega
  have ne2 : ∀ j, ¬ s = n + j := fun j => by have := h.ls; omega
  refine HCalls.walk Try.func69 rfl rfl Try.ntmps69 Try.results69 (by simp) ?_; simp (maxSteps := 400000) (dsimp := false) only [ha, axs, AThen, ABlock, dstsOk, AStep, callsF, AWant, aop, AS.ev, AS.put, upd, AS.bound, abin, aint, aload, astore, cellsAt, AV.cells, alen, elems, AV.int?, FPost, aresL, ares1, pack, afill, splice, Value.oneCell', Nat.reduceLT, Nat.reduceLeDiff, Nat.reduceEqDiff, Nat.reduceAdd, Nat.reduceMul, Nat.reduceSub, Nat.reduceBEq, Int.reduceLE, Int.reduceLT, Int.reduceToNat, Int.reduceNeg, Int.reduceEq, axt, ftK, ft3, pickP, AScope, AAll, pickQ, ftQ, inHeap, tys]
  refine ADraw.via (fun st => ∃ id, st.t 6 = .ptr id 3 0 0 ∧ st.H id = some (.obj 130 3 [(sl T q).cells] false) ∧ Keeps H n st.H st.n) ?_ ?_
  · refine ADraw.treeQ [] [6] [(0, true), (1, true), (2, true), (3, true), (4, true), (5, true)] 4 (.leaf [(6, true), (7, true), (8, true), (9, true), (10, true)]) (.leaf [(9, true), (6, true), (7, true), (8, true), (10, true)]) mixed (by kernel_rfl) ?_
    have hM : modeOf [] [6] 0 = 0 ∧ modeOf [] [6] 1 = 0 ∧ modeOf [] [6] 2 = 0 ∧ modeOf [] [6] 3 = 0 ∧ modeOf [] [6] 4 = 0 ∧ modeOf [] [6] 5 = 0 ∧ modeOf [] [6] 6 = 2 ∧ modeOf [] [6] 7 = 0 ∧ modeOf [] [6] 8 = 0 ∧ modeOf [] [6] 9 = 0 ∧ modeOf [] [6] 10 = 0 := by decide
    simp (maxSteps := 400000) (dsimp := false) only [ha, hM, axs, AThen, ABlock, dstsOk, AStep, callsF, AWant, aop, AS.ev, AS.put, upd, AS.bound, abin, aint, aload, astore, cellsAt, AV.cells, alen, elems, AV.int?, FPost, aresL, ares1, pack, afill, splice, Value.oneCell', Nat.reduceLT, Nat.reduceLeDiff, Nat.reduceEqDiff, Nat.reduceAdd, Nat.reduceMul, Nat.reduceSub, Nat.reduceBEq, Int.reduceLE, Int.reduceLT, Int.reduceToNat, Int.reduceNeg, Int.reduceEq, axt, ftK, ft3, pickP, AScope, AAll, pickQ, ftQ, inHeap, tys]
    refine ⟨?_, ?_⟩
    · refine AQuietK.intro rfl rfl (cFind h hp hk hq) (fun id hid => fdH_old _ _ hid) ?_
      simp (maxSteps := 400000) (dsimp := false) only [e0, r0, r1, hg, ne2, upd_upd, axs, AThen, ABlock, dstsOk, AStep, callsF, AWant, aop, AS.ev, AS.put, upd, AS.bound, abin, aint, aload, astore, cellsAt, AV.cells, alen, elems, AV.int?, FPost, aresL, ares1, pack, afill, splice, Value.oneCell', Nat.reduceLT, Nat.reduceLeDiff, Nat.reduceEqDiff, Nat.reduceAdd, Nat.reduceMul, Nat.reduceSub, Nat.reduceBEq, Int.reduceLE, Int.reduceLT, Int.reduceToNat, Int.reduceNeg, Int.reduceEq, axt, ftK, ft3, pickP, AScope, AAll, pickQ, ftQ, inHeap, tys]
      exact ⟨_, rfl, by rw [if_pos rfl]; rfl, (fdH_keeps H n T _ _).upd⟩
    · refine AQuietK.intro rfl rfl (cFind h.new hp hk hq) (fun id hid => fdH_old _ _ hid) ?_
      simp (maxSteps := 400000) (dsimp := false) only [e1, e2, r0, r1, hg, ne1, ne2, axs, AThen, ABlock, dstsOk, AStep, callsF, AWant, aop, AS.ev, AS.put, upd, AS.bound, abin, aint, aload, astore, cellsAt, AV.cells, alen, elems, AV.int?, FPost, aresL, ares1, pack, afill, splice, Value.oneCell', Nat.reduceLT, Nat.reduceLeDiff, Nat.reduceEqDiff, Nat.reduceAdd, Nat.reduceMul, Nat.reduceSub, Nat.reduceBEq, Int.reduceLE, Int.reduceLT, Int.reduceToNat, Int.reduceNeg, Int.reduceEq, axt, ftK, ft3, pickP, AScope, AAll, pickQ, ftQ, inHeap, tys]
      exact ⟨_, rfl, by rw [if_pos rfl]; rfl, by omega, fun j hj => by rw [upd_ne _ _ (by omega), fdH_old _ _ (by omega), upd_ne _ _ (by omega)]⟩
  · rintro st hb ⟨id, t6, h6, hkp⟩
    have h6 : st.H id = some (.obj 130 3 [[.sc (.int .u64 (sl T q).key), .sc (.int .i32 (sl T q).n), .sc (.bool (sl T q).full)]] false) := h6
    simp (maxSteps := 400000) (dsimp := false) only [axs, AThen, ABlock, dstsOk, AStep, callsF, AWant, aop, AS.ev, AS.put, upd, AS.bound, abin, aint, aload, astore, cellsAt, AV.cells, alen, elems, AV.int?, FPost, aresL, ares1, pack, afill, splice, Value.oneCell', Nat.reduceLT, Nat.reduceLeDiff, Nat.reduceEqDiff, Nat.reduceAdd, Nat.reduceMul, Nat.reduceSub, Nat.reduceBEq, Int.reduceLE, Int.reduceLT, Int.reduceToNat, Int.reduceNeg, Int.reduceEq, axt, ftK, ft3, pickP, AScope, AAll, pickQ, ftQ, inHeap, tys]
    refine ADraw.planR [] [(0, true), (1, true), (2, true), (3, true), (4, true), (5, true)] [(0, false), (0, false), (0, false), (0, false), (0, false), (0, false)] mixed (by kernel_rfl) (by kernel_rfl) ?_
    simp (maxSteps := 400000) (dsimp := false) only [t6, h6, axs, AThen, ABlock, dstsOk, AStep, callsF, AWant, aop, AS.ev, AS.put, upd, AS.bound, abin, aint, aload, astore, cellsAt, AV.cells, alen, elems, AV.int?, FPost, aresL, ares1, pack, afill, splice, Value.oneCell', Nat.reduceLT, Nat.reduceLeDiff, Nat.reduceEqDiff, Nat.reduceAdd, Nat.reduceMul, Nat.reduceSub, Nat.reduceBEq, Int.reduceLE, Int.reduceLT, Int.reduceToNat, Int.reduceNeg, Int.reduceEq, axt, ftK, ft3, pickP, AScope, AAll, pickQ, ftQ, inHeap, tys]
    exact ⟨_, rfl, rfl, hkp⟩
theorem cHtGet0 {H : AH} {n : Nat} (k : Int) : HCalls Try.prog 69 [.sc (.pointer none), .sc (.int .u64 k)] H n fun r H' n' => r = .tup [.sc (.int .i32 0), .sc (.bool false)] ∧ H' = H ∧ n' = n := by
  refine HCalls.walk Try.func69 rfl rfl Try.ntmps69 Try.results69 (by simp) ?_; simp (maxSteps := 400000) (dsimp := false) only [axs, AThen, ABlock, dstsOk, AStep, callsF, AWant, aop, AS.ev, AS.put, upd, AS.bound, abin, aint, aload, astore, cellsAt, AV.cells, alen, elems, AV.int?, FPost, aresL, ares1, pack, afill, splice, Value.oneCell', Nat.reduceLT, Nat.reduceLeDiff, Nat.reduceEqDiff, Nat.reduceAdd, Nat.reduceMul, Nat.reduceSub, Nat.reduceBEq, Int.reduceLE, Int.reduceLT, Int.reduceToNat, Int.reduceNeg, Int.reduceEq, axt, ftK, ft3, pickP, AScope, AAll, pickQ, ftQ, inHeap, tys]
  exact ⟨_, rfl, rfl⟩
theorem cHtLen0 {H : AH} {n : Nat} : HCalls Try.prog 40 [.sc (.pointer none)] H n fun r H' n' => r = .sc (.int .i64 0) ∧ H' = H ∧ n' = n := by
  refine HCalls.walk Try.func40 rfl rfl Try.ntmps40 Try.results40 (by simp) ?_; simp (maxSteps := 400000) (dsimp := false) only [axs, AThen, ABlock, dstsOk, AStep, callsF, AWant, aop, AS.ev, AS.put, upd, AS.bound, abin, aint, aload, astore, cellsAt, AV.cells, alen, elems, AV.int?, FPost, aresL, ares1, pack, afill, splice, Value.oneCell', Nat.reduceLT, Nat.reduceLeDiff, Nat.reduceEqDiff, Nat.reduceAdd, Nat.reduceMul, Nat.reduceSub, Nat.reduceBEq, Int.reduceLE, Int.reduceLT, Int.reduceToNat, Int.reduceNeg, Int.reduceEq, axt, ftK, ft3, pickP, AScope, AAll, pickQ, ftQ, inHeap, tys]
  exact ⟨_, rfl, rfl⟩
theorem cHtSlots0 {H : AH} {n : Nat} : HCalls Try.prog 42 [.sc (.pointer none)] H n fun r H' n' => r = .sc (.int .i64 0) ∧ H' = H ∧ n' = n := by
  refine HCalls.walk Try.func42 rfl rfl Try.ntmps42 Try.results42 (by simp) ?_; simp (maxSteps := 400000) (dsimp := false) only [axs, AThen, ABlock, dstsOk, AStep, callsF, AWant, aop, AS.ev, AS.put, upd, AS.bound, abin, aint, aload, astore, cellsAt, AV.cells, alen, elems, AV.int?, FPost, aresL, ares1, pack, afill, splice, Value.oneCell', Nat.reduceLT, Nat.reduceLeDiff, Nat.reduceEqDiff, Nat.reduceAdd, Nat.reduceMul, Nat.reduceSub, Nat.reduceBEq, Int.reduceLE, Int.reduceLT, Int.reduceToNat, Int.reduceNeg, Int.reduceEq, axt, ftK, ft3, pickP, AScope, AAll, pickQ, ftQ, inHeap, tys]
  exact ⟨_, rfl, rfl⟩
theorem cHtPut0 {H : AH} {n : Nat} (k x : Int) : HCalls Try.prog 75 [.sc (.pointer none), .sc (.int .u64 k), .sc (.int .i32 x)] H n fun r H' n' => H' = H ∧ n' = n := by
  refine HCalls.walk Try.func75 rfl rfl Try.ntmps75 Try.results75 (by simp) ?_; simp (maxSteps := 400000) (dsimp := false) only [axs, AThen, ABlock, dstsOk, AStep, callsF, AWant, aop, AS.ev, AS.put, upd, AS.bound, abin, aint, aload, astore, cellsAt, AV.cells, alen, elems, AV.int?, FPost, aresL, ares1, pack, afill, splice, Value.oneCell', Nat.reduceLT, Nat.reduceLeDiff, Nat.reduceEqDiff, Nat.reduceAdd, Nat.reduceMul, Nat.reduceSub, Nat.reduceBEq, Int.reduceLE, Int.reduceLT, Int.reduceToNat, Int.reduceNeg, Int.reduceEq, axt, ftK, ft3, pickP, AScope, AAll, pickQ, ftQ, inHeap, tys]
  exact ⟨_, rfl⟩
theorem cHtDelete0 {H : AH} {n : Nat} (k : Int) : HCalls Try.prog 60 [.sc (.pointer none), .sc (.int .u64 k)] H n fun r H' n' => r = .sc (.bool false) ∧ Keeps H n H' n' := by
  refine HCalls.walk Try.func60 rfl rfl Try.ntmps60 Try.results60 (by simp) ?_; simp (maxSteps := 400000) (dsimp := false) only [axs, AThen, ABlock, dstsOk, AStep, callsF, AWant, aop, AS.ev, AS.put, upd, AS.bound, abin, aint, aload, astore, cellsAt, AV.cells, alen, elems, AV.int?, FPost, aresL, ares1, pack, afill, splice, Value.oneCell', Nat.reduceLT, Nat.reduceLeDiff, Nat.reduceEqDiff, Nat.reduceAdd, Nat.reduceMul, Nat.reduceSub, Nat.reduceBEq, Int.reduceLE, Int.reduceLT, Int.reduceToNat, Int.reduceNeg, Int.reduceEq, axt, ftK, ft3, pickP, AScope, AAll, pickQ, ftQ, inHeap, tys]
  exact ⟨_, rfl, rfl, (Keeps.refl H n).upd⟩
def atF (T : Tb) (i : Int) : Sl3 := if 0 ≤ i ∧ i < T.length then sl T i.toNat else z3
theorem apart_D {N x y : Nat} (h : Pw N) (hx : x < N) (hy : y < N) : apartF x y N = (D N x y : Int) := by
  obtain ⟨p, h1, h2, rfl⟩ := h
  have e : (((2 ^ p : Nat)) : Int) = (2 : Int) ^ p := by push_cast; rfl
  rw [e, apartF_eq (by omega) (by omega) (by omega) (by omega) (by omega), ← e, emod_two (by omega) (by omega) (by omega)]
  unfold D
  split <;> split <;> omega
end Go.Al
