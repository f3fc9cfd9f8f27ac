/- Numbers by keys, in slots, by the program: what is told of them. Conditions: the numbers fit their kinds. -/
import Derived.Test.YtnojinpneojfeaaHx4
set_option linter.unusedVariables false
set_option linter.unusedSimpArgs false
set_option maxRecDepth 20000
set_option maxHeartbeats 1600000
namespace Go.Al
open Go.Proofs
/-- What a search leaves behind, with one object more. -/
def fdN (T : Tb) (k : Int) (q : Nat) : Nat := D T.length (hm T.length k) q + 1
def getF (T : Tb) (q : Nat) : List AV := [.sc (.int .i32 (sl T q).n), .sc (.bool (sl T q).full)]
/-- The objects that there were are as they were. -/
def Keeps (H : AH) (n : Nat) (H' : AH) (n' : Nat) : Prop := n ≤ n' ∧ ∀ j, j < n → H' j = H j
theorem HtH.keeps {H H' : AH} {n n' a s : Nat} {T : Tb} {m : Int} (h : HtH H n a s T m) (hk : Keeps H n H' n') : HtH H' n' a s T m := h.keep hk.1 fun j hj _ => hk.2 j hj
theorem Keeps.refl (H : AH) (n : Nat) : Keeps H n H n := ⟨Nat.le_refl _, fun _ _ => rfl⟩
theorem Keeps.trans {H H' H'' : AH} {n n' n'' : Nat} (a : Keeps H n H' n') (b : Keeps H' n' H'' n'') : Keeps H n H'' n'' := ⟨Nat.le_trans a.1 b.1, fun j hj => by rw [b.2 j (Nat.lt_of_lt_of_le hj a.1), a.2 j hj]⟩
theorem Keeps.upd {H H' : AH} {n n' : Nat} {x : Option AO} (a : Keeps H n H' n') : Keeps H n (upd H' n' x) (n' + 1) := ⟨Nat.le_succ_of_le a.1, fun j hj => by rw [upd_ne _ _ (by have := a.1; omega), a.2 j hj]⟩
theorem fdH_keeps (H : AH) (n : Nat) (T : Tb) (a j : Nat) : Keeps H n (fdH H n T a j) (n + j) := ⟨by omega, fun id h => fdH_old j id h⟩
theorem cHtGet {H : AH} {n a s : Nat} {T : Tb} {m : Int} (h : HtH H n a s T m) (hp : Pw T.length) {k : Int} (hk : Key k) {q : Nat} (hq : IsFind T.length (hm T.length) T k q) :
    HCalls Try.prog 11 [.ptr a 2 0 0, .sc (.int .u64 k)] H n fun r H' n' => r = .tup (getF T q) ∧ Keeps H n H' n' := by
  have ha := h.ha
  have hs := h.hs
  have hl := hp.le
  have hg := TL_get hq.lt
  have r0 : (0 : Int) ≤ q := by omega
  have r1 : (q : Int) < T.length := by have := hq.lt; omega
  have e0 : ∀ j, fdH H n T (hm T.length k) j s = some (.obj 56 3 (TL T) false) := fun j => by rw [fdH_old _ _ h.ls]; exact hs
  have e1 : ∀ j (x : Option AO), fdH (upd H n x) (n + 1) T (hm T.length k) j s = some (.obj 56 3 (TL T) false) := fun j x => by rw [fdH_old _ _ (by have := h.ls; omega), upd_ne _ _ (by have := h.ls; omega)]; exact hs
  have e2 : ∀ j (x : Option AO), fdH (upd H n x) (n + 1) T (hm T.length k) j n = x := fun j x => by rw [fdH_old _ _ (by omega), upd_same]
  have ne1 : ¬ s = n := by have := h.ls; omega
  have ne2 : ∀ j, ¬ s = n + j := fun j => by have := h.ls; omega
  refine HCalls.walk Try.func11 rfl rfl Try.ntmps11 Try.results11 (by simp) ?_; simp (maxSteps := 400000) (dsimp := false) only [ha, axs, AThen, ABlock, dstsOk, AStep, callsF, AWant, aop, AS.ev, AS.put, upd, AS.bound, abin, aint, aload, astore, cellsAt, AV.cells, alen, elems, AV.int?, FPost, aresL, ares1, pack, afill, splice, Value.oneCell', Nat.reduceLT, Nat.reduceLeDiff, Nat.reduceEqDiff, Nat.reduceAdd, Nat.reduceMul, Nat.reduceSub, Nat.reduceBEq, Int.reduceLE, Int.reduceLT, Int.reduceToNat, Int.reduceNeg, Int.reduceEq, axt, ftK, pickP, AScope, AAll, pickQ, ftQ, inHeap, tys]
  refine ADraw.via (fun st => ∃ id, st.t 6 = .ptr id 3 0 0 ∧ st.H id = some (.obj 56 3 [(sl T q).cells] false) ∧ Keeps H n st.H st.n) ?_ ?_
  · refine ADraw.treeQ [] [6] [(0, true), (1, true), (2, true), (3, true), (4, true), (5, true)] 4 (.leaf [(6, true), (7, true), (8, true), (9, true), (10, true)]) (.leaf [(9, true), (6, true), (7, true), (8, true), (10, true)]) mixed (by kernel_rfl) ?_
    have hM : modeOf [] [6] 0 = 0 ∧ modeOf [] [6] 1 = 0 ∧ modeOf [] [6] 2 = 0 ∧ modeOf [] [6] 3 = 0 ∧ modeOf [] [6] 4 = 0 ∧ modeOf [] [6] 5 = 0 ∧ modeOf [] [6] 6 = 2 ∧ modeOf [] [6] 7 = 0 ∧ modeOf [] [6] 8 = 0 ∧ modeOf [] [6] 9 = 0 ∧ modeOf [] [6] 10 = 0 := by decide
    simp (maxSteps := 400000) (dsimp := false) only [ha, hM, axs, AThen, ABlock, dstsOk, AStep, callsF, AWant, aop, AS.ev, AS.put, upd, AS.bound, abin, aint, aload, astore, cellsAt, AV.cells, alen, elems, AV.int?, FPost, aresL, ares1, pack, afill, splice, Value.oneCell', Nat.reduceLT, Nat.reduceLeDiff, Nat.reduceEqDiff, Nat.reduceAdd, Nat.reduceMul, Nat.reduceSub, Nat.reduceBEq, Int.reduceLE, Int.reduceLT, Int.reduceToNat, Int.reduceNeg, Int.reduceEq, axt, ftK, pickP, AScope, AAll, pickQ, ftQ, inHeap, tys]
    refine ⟨?_, ?_⟩
    · refine AQuietK.intro rfl rfl (cFind h hp hk hq) (fun id hid => fdH_old _ _ hid) ?_
      simp (maxSteps := 400000) (dsimp := false) only [e0, r0, r1, hg, ne2, upd_upd, axs, AThen, ABlock, dstsOk, AStep, callsF, AWant, aop, AS.ev, AS.put, upd, AS.bound, abin, aint, aload, astore, cellsAt, AV.cells, alen, elems, AV.int?, FPost, aresL, ares1, pack, afill, splice, Value.oneCell', Nat.reduceLT, Nat.reduceLeDiff, Nat.reduceEqDiff, Nat.reduceAdd, Nat.reduceMul, Nat.reduceSub, Nat.reduceBEq, Int.reduceLE, Int.reduceLT, Int.reduceToNat, Int.reduceNeg, Int.reduceEq, axt, ftK, pickP, AScope, AAll, pickQ, ftQ, inHeap, tys]
      exact ⟨_, rfl, by rw [if_pos rfl]; rfl, (fdH_keeps H n T _ _).upd⟩
    · refine AQuietK.intro rfl rfl (cFind h.new hp hk hq) (fun id hid => fdH_old _ _ hid) ?_
      simp (maxSteps := 400000) (dsimp := false) only [e1, e2, r0, r1, hg, ne1, ne2, axs, AThen, ABlock, dstsOk, AStep, callsF, AWant, aop, AS.ev, AS.put, upd, AS.bound, abin, aint, aload, astore, cellsAt, AV.cells, alen, elems, AV.int?, FPost, aresL, ares1, pack, afill, splice, Value.oneCell', Nat.reduceLT, Nat.reduceLeDiff, Nat.reduceEqDiff, Nat.reduceAdd, Nat.reduceMul, Nat.reduceSub, Nat.reduceBEq, Int.reduceLE, Int.reduceLT, Int.reduceToNat, Int.reduceNeg, Int.reduceEq, axt, ftK, pickP, AScope, AAll, pickQ, ftQ, inHeap, tys]
      exact ⟨_, rfl, by rw [if_pos rfl]; rfl, by omega, fun j hj => by rw [upd_ne _ _ (by omega), fdH_old _ _ (by omega), upd_ne _ _ (by omega)]⟩
  · rintro st hb ⟨id, t6, h6, hkp⟩
    have h6 : st.H id = some (.obj 56 3 [[.sc (.int .u64 (sl T q).key), .sc (.int .i32 (sl T q).n), .sc (.bool (sl T q).full)]] false) := h6
    simp (maxSteps := 400000) (dsimp := false) only [axs, AThen, ABlock, dstsOk, AStep, callsF, AWant, aop, AS.ev, AS.put, upd, AS.bound, abin, aint, aload, astore, cellsAt, AV.cells, alen, elems, AV.int?, FPost, aresL, ares1, pack, afill, splice, Value.oneCell', Nat.reduceLT, Nat.reduceLeDiff, Nat.reduceEqDiff, Nat.reduceAdd, Nat.reduceMul, Nat.reduceSub, Nat.reduceBEq, Int.reduceLE, Int.reduceLT, Int.reduceToNat, Int.reduceNeg, Int.reduceEq, axt, ftK, pickP, AScope, AAll, pickQ, ftQ, inHeap, tys]
    refine ADraw.planR [] [(0, true), (1, true), (2, true), (3, true), (4, true), (5, true)] [(0, false), (0, false), (0, false), (0, false), (0, false), (0, false)] mixed (by kernel_rfl) (by kernel_rfl) ?_
    simp (maxSteps := 400000) (dsimp := false) only [t6, h6, axs, AThen, ABlock, dstsOk, AStep, callsF, AWant, aop, AS.ev, AS.put, upd, AS.bound, abin, aint, aload, astore, cellsAt, AV.cells, alen, elems, AV.int?, FPost, aresL, ares1, pack, afill, splice, Value.oneCell', Nat.reduceLT, Nat.reduceLeDiff, Nat.reduceEqDiff, Nat.reduceAdd, Nat.reduceMul, Nat.reduceSub, Nat.reduceBEq, Int.reduceLE, Int.reduceLT, Int.reduceToNat, Int.reduceNeg, Int.reduceEq, axt, ftK, pickP, AScope, AAll, pickQ, ftQ, inHeap, tys]
    exact ⟨_, rfl, rfl, hkp⟩
theorem cHtGet0 {H : AH} {n : Nat} (k : Int) : HCalls Try.prog 11 [.sc (.pointer none), .sc (.int .u64 k)] H n fun r H' n' => r = .tup [.sc (.int .i32 0), .sc (.bool false)] ∧ H' = H ∧ n' = n := by
  refine HCalls.walk Try.func11 rfl rfl Try.ntmps11 Try.results11 (by simp) ?_; simp (maxSteps := 400000) (dsimp := false) only [axs, AThen, ABlock, dstsOk, AStep, callsF, AWant, aop, AS.ev, AS.put, upd, AS.bound, abin, aint, aload, astore, cellsAt, AV.cells, alen, elems, AV.int?, FPost, aresL, ares1, pack, afill, splice, Value.oneCell', Nat.reduceLT, Nat.reduceLeDiff, Nat.reduceEqDiff, Nat.reduceAdd, Nat.reduceMul, Nat.reduceSub, Nat.reduceBEq, Int.reduceLE, Int.reduceLT, Int.reduceToNat, Int.reduceNeg, Int.reduceEq, axt, ftK, pickP, AScope, AAll, pickQ, ftQ, inHeap, tys]
  exact ⟨_, rfl, rfl⟩
theorem cHtLen0 {H : AH} {n : Nat} : HCalls Try.prog 17 [.sc (.pointer none)] H n fun r H' n' => r = .sc (.int .i64 0) ∧ H' = H ∧ n' = n := by
  refine HCalls.walk Try.func17 rfl rfl Try.ntmps17 Try.results17 (by simp) ?_; simp (maxSteps := 400000) (dsimp := false) only [axs, AThen, ABlock, dstsOk, AStep, callsF, AWant, aop, AS.ev, AS.put, upd, AS.bound, abin, aint, aload, astore, cellsAt, AV.cells, alen, elems, AV.int?, FPost, aresL, ares1, pack, afill, splice, Value.oneCell', Nat.reduceLT, Nat.reduceLeDiff, Nat.reduceEqDiff, Nat.reduceAdd, Nat.reduceMul, Nat.reduceSub, Nat.reduceBEq, Int.reduceLE, Int.reduceLT, Int.reduceToNat, Int.reduceNeg, Int.reduceEq, axt, ftK, pickP, AScope, AAll, pickQ, ftQ, inHeap, tys]
  exact ⟨_, rfl, rfl⟩
theorem cHtSlots0 {H : AH} {n : Nat} : HCalls Try.prog 18 [.sc (.pointer none)] H n fun r H' n' => r = .sc (.int .i64 0) ∧ H' = H ∧ n' = n := by
  refine HCalls.walk Try.func18 rfl rfl Try.ntmps18 Try.results18 (by simp) ?_; simp (maxSteps := 400000) (dsimp := false) only [axs, AThen, ABlock, dstsOk, AStep, callsF, AWant, aop, AS.ev, AS.put, upd, AS.bound, abin, aint, aload, astore, cellsAt, AV.cells, alen, elems, AV.int?, FPost, aresL, ares1, pack, afill, splice, Value.oneCell', Nat.reduceLT, Nat.reduceLeDiff, Nat.reduceEqDiff, Nat.reduceAdd, Nat.reduceMul, Nat.reduceSub, Nat.reduceBEq, Int.reduceLE, Int.reduceLT, Int.reduceToNat, Int.reduceNeg, Int.reduceEq, axt, ftK, pickP, AScope, AAll, pickQ, ftQ, inHeap, tys]
  exact ⟨_, rfl, rfl⟩
theorem cHtSlot0 {H : AH} {n : Nat} : HCalls Try.prog 10 [.sc (.pointer none), .sc (.int .i64 0)] H n fun r H' n' => r = .tup [.sc (.int .u64 0), .sc (.int .i32 0), .sc (.bool false)] ∧ H' = H ∧ n' = n := by
  refine HCalls.walk Try.func10 rfl rfl Try.ntmps10 Try.results10 (by simp) ?_; simp (maxSteps := 400000) (dsimp := false) only [axs, AThen, ABlock, dstsOk, AStep, callsF, AWant, aop, AS.ev, AS.put, upd, AS.bound, abin, aint, aload, astore, cellsAt, AV.cells, alen, elems, AV.int?, FPost, aresL, ares1, pack, afill, splice, Value.oneCell', Nat.reduceLT, Nat.reduceLeDiff, Nat.reduceEqDiff, Nat.reduceAdd, Nat.reduceMul, Nat.reduceSub, Nat.reduceBEq, Int.reduceLE, Int.reduceLT, Int.reduceToNat, Int.reduceNeg, Int.reduceEq, axt, ftK, pickP, AScope, AAll, pickQ, ftQ, inHeap, tys]
  refine ACallK.heap _ rfl (cHtSlots0) ?_; rintro r' H' n' ⟨rfl, eH, en⟩; obtain rfl := eH.symm; obtain rfl := en.symm; clear eH en; simp (maxSteps := 400000) (dsimp := false) only [axs, AThen, ABlock, dstsOk, AStep, callsF, AWant, aop, AS.ev, AS.put, upd, AS.bound, abin, aint, aload, astore, cellsAt, AV.cells, alen, elems, AV.int?, FPost, aresL, ares1, pack, afill, splice, Value.oneCell', Nat.reduceLT, Nat.reduceLeDiff, Nat.reduceEqDiff, Nat.reduceAdd, Nat.reduceMul, Nat.reduceSub, Nat.reduceBEq, Int.reduceLE, Int.reduceLT, Int.reduceToNat, Int.reduceNeg, Int.reduceEq, axt, ftK, pickP, AScope, AAll, pickQ, ftQ, inHeap, tys]
  exact ⟨_, rfl, rfl⟩
theorem cHtProbes0 {H : AH} {n : Nat} (k : Int) : HCalls Try.prog 13 [.sc (.pointer none), .sc (.int .u64 k)] H n fun r H' n' => r = .sc (.int .i64 0) ∧ H' = H ∧ n' = n := by
  refine HCalls.walk Try.func13 rfl rfl Try.ntmps13 Try.results13 (by simp) ?_; simp (maxSteps := 400000) (dsimp := false) only [axs, AThen, ABlock, dstsOk, AStep, callsF, AWant, aop, AS.ev, AS.put, upd, AS.bound, abin, aint, aload, astore, cellsAt, AV.cells, alen, elems, AV.int?, FPost, aresL, ares1, pack, afill, splice, Value.oneCell', Nat.reduceLT, Nat.reduceLeDiff, Nat.reduceEqDiff, Nat.reduceAdd, Nat.reduceMul, Nat.reduceSub, Nat.reduceBEq, Int.reduceLE, Int.reduceLT, Int.reduceToNat, Int.reduceNeg, Int.reduceEq, axt, ftK, pickP, AScope, AAll, pickQ, ftQ, inHeap, tys]
  exact ⟨_, rfl, rfl⟩
theorem cHtPut0 {H : AH} {n : Nat} (k x : Int) : HCalls Try.prog 20 [.sc (.pointer none), .sc (.int .u64 k), .sc (.int .i32 x)] H n fun r H' n' => H' = H ∧ n' = n := by
  refine HCalls.walk Try.func20 rfl rfl Try.ntmps20 Try.results20 (by simp) ?_; simp (maxSteps := 400000) (dsimp := false) only [axs, AThen, ABlock, dstsOk, AStep, callsF, AWant, aop, AS.ev, AS.put, upd, AS.bound, abin, aint, aload, astore, cellsAt, AV.cells, alen, elems, AV.int?, FPost, aresL, ares1, pack, afill, splice, Value.oneCell', Nat.reduceLT, Nat.reduceLeDiff, Nat.reduceEqDiff, Nat.reduceAdd, Nat.reduceMul, Nat.reduceSub, Nat.reduceBEq, Int.reduceLE, Int.reduceLT, Int.reduceToNat, Int.reduceNeg, Int.reduceEq, axt, ftK, pickP, AScope, AAll, pickQ, ftQ, inHeap, tys]
  exact ⟨_, rfl⟩
theorem cHtDelete0 {H : AH} {n : Nat} (k : Int) : HCalls Try.prog 21 [.sc (.pointer none), .sc (.int .u64 k)] H n fun r H' n' => r = .sc (.bool false) ∧ Keeps H n H' n' := by
  refine HCalls.walk Try.func21 rfl rfl Try.ntmps21 Try.results21 (by simp) ?_; simp (maxSteps := 400000) (dsimp := false) only [axs, AThen, ABlock, dstsOk, AStep, callsF, AWant, aop, AS.ev, AS.put, upd, AS.bound, abin, aint, aload, astore, cellsAt, AV.cells, alen, elems, AV.int?, FPost, aresL, ares1, pack, afill, splice, Value.oneCell', Nat.reduceLT, Nat.reduceLeDiff, Nat.reduceEqDiff, Nat.reduceAdd, Nat.reduceMul, Nat.reduceSub, Nat.reduceBEq, Int.reduceLE, Int.reduceLT, Int.reduceToNat, Int.reduceNeg, Int.reduceEq, axt, ftK, pickP, AScope, AAll, pickQ, ftQ, inHeap, tys]
  exact ⟨_, rfl, rfl, (Keeps.refl H n).upd⟩
def atF (T : Tb) (i : Int) : Sl3 := if 0 ≤ i ∧ i < T.length then sl T i.toNat else z3
theorem cHtSlot {H : AH} {n a s : Nat} {T : Tb} {m : Int} (h : HtH H n a s T m) (i : Int) :
    HCalls Try.prog 10 [.ptr a 2 0 0, .sc (.int .i64 i)] H n fun r H' n' => r = .tup (atF T i).cells ∧ Keeps H n H' n' := by
  have ha := h.ha
  have hs := h.hs
  have ne1 : ¬ s = n := by have := h.ls; omega
  refine HCalls.walk Try.func10 rfl rfl Try.ntmps10 Try.results10 (by simp) ?_; simp (maxSteps := 400000) (dsimp := false) only [axs, AThen, ABlock, dstsOk, AStep, callsF, AWant, aop, AS.ev, AS.put, upd, AS.bound, abin, aint, aload, astore, cellsAt, AV.cells, alen, elems, AV.int?, FPost, aresL, ares1, pack, afill, splice, Value.oneCell', Nat.reduceLT, Nat.reduceLeDiff, Nat.reduceEqDiff, Nat.reduceAdd, Nat.reduceMul, Nat.reduceSub, Nat.reduceBEq, Int.reduceLE, Int.reduceLT, Int.reduceToNat, Int.reduceNeg, Int.reduceEq, axt, ftK, pickP, AScope, AAll, pickQ, ftQ, inHeap, tys]
  by_cases h0 : i < 0
  · have : ¬ (0 ≤ i ∧ i < T.length) := by omega
    simp (maxSteps := 400000) (dsimp := false) only [h0, axs, AThen, ABlock, dstsOk, AStep, callsF, AWant, aop, AS.ev, AS.put, upd, AS.bound, abin, aint, aload, astore, cellsAt, AV.cells, alen, elems, AV.int?, FPost, aresL, ares1, pack, afill, splice, Value.oneCell', Nat.reduceLT, Nat.reduceLeDiff, Nat.reduceEqDiff, Nat.reduceAdd, Nat.reduceMul, Nat.reduceSub, Nat.reduceBEq, Int.reduceLE, Int.reduceLT, Int.reduceToNat, Int.reduceNeg, Int.reduceEq, axt, ftK, pickP, AScope, AAll, pickQ, ftQ, inHeap, tys]
    rw [atF, if_neg this]
    exact ⟨_, rfl, rfl, Keeps.refl H n⟩
  · simp (maxSteps := 400000) (dsimp := false) only [h0, axs, AThen, ABlock, dstsOk, AStep, callsF, AWant, aop, AS.ev, AS.put, upd, AS.bound, abin, aint, aload, astore, cellsAt, AV.cells, alen, elems, AV.int?, FPost, aresL, ares1, pack, afill, splice, Value.oneCell', Nat.reduceLT, Nat.reduceLeDiff, Nat.reduceEqDiff, Nat.reduceAdd, Nat.reduceMul, Nat.reduceSub, Nat.reduceBEq, Int.reduceLE, Int.reduceLT, Int.reduceToNat, Int.reduceNeg, Int.reduceEq, axt, ftK, pickP, AScope, AAll, pickQ, ftQ, inHeap, tys]
    refine ACallK.heap _ rfl (cHtSlots h) ?_; rintro r' H' n' ⟨rfl, eH, en⟩; obtain rfl := eH.symm; obtain rfl := en.symm; clear eH en; simp (maxSteps := 400000) (dsimp := false) only [axs, AThen, ABlock, dstsOk, AStep, callsF, AWant, aop, AS.ev, AS.put, upd, AS.bound, abin, aint, aload, astore, cellsAt, AV.cells, alen, elems, AV.int?, FPost, aresL, ares1, pack, afill, splice, Value.oneCell', Nat.reduceLT, Nat.reduceLeDiff, Nat.reduceEqDiff, Nat.reduceAdd, Nat.reduceMul, Nat.reduceSub, Nat.reduceBEq, Int.reduceLE, Int.reduceLT, Int.reduceToNat, Int.reduceNeg, Int.reduceEq, axt, ftK, pickP, AScope, AAll, pickQ, ftQ, inHeap, tys]
    by_cases h1 : i ≥ T.length
    · have : ¬ (0 ≤ i ∧ i < T.length) := by omega
      simp (maxSteps := 400000) (dsimp := false) only [h1, axs, AThen, ABlock, dstsOk, AStep, callsF, AWant, aop, AS.ev, AS.put, upd, AS.bound, abin, aint, aload, astore, cellsAt, AV.cells, alen, elems, AV.int?, FPost, aresL, ares1, pack, afill, splice, Value.oneCell', Nat.reduceLT, Nat.reduceLeDiff, Nat.reduceEqDiff, Nat.reduceAdd, Nat.reduceMul, Nat.reduceSub, Nat.reduceBEq, Int.reduceLE, Int.reduceLT, Int.reduceToNat, Int.reduceNeg, Int.reduceEq, axt, ftK, pickP, AScope, AAll, pickQ, ftQ, inHeap, tys]
      rw [atF, if_neg this]
      exact ⟨_, rfl, rfl, Keeps.refl H n⟩
    · have hc : 0 ≤ i ∧ i < T.length := by omega
      have hg := TL_get (T := T) (q := i.toNat) (by omega)
      have h2 := hc.1
      have h3 := hc.2
      simp (maxSteps := 400000) (dsimp := false) only [h1, ha, hs, h2, h3, hg, upd_upd, axs, AThen, ABlock, dstsOk, AStep, callsF, AWant, aop, AS.ev, AS.put, upd, AS.bound, abin, aint, aload, astore, cellsAt, AV.cells, alen, elems, AV.int?, FPost, aresL, ares1, pack, afill, splice, Value.oneCell', Nat.reduceLT, Nat.reduceLeDiff, Nat.reduceEqDiff, Nat.reduceAdd, Nat.reduceMul, Nat.reduceSub, Nat.reduceBEq, Int.reduceLE, Int.reduceLT, Int.reduceToNat, Int.reduceNeg, Int.reduceEq, axt, ftK, pickP, AScope, AAll, pickQ, ftQ, inHeap, tys]
      refine ADraw.planR [] [(0, true), (1, true), (2, true), (3, true), (4, true), (5, true), (6, true), (7, true), (8, true)] [(0, false), (0, false), (0, false), (0, false), (0, false), (0, false), (0, false), (0, false), (0, false)] mixed (by kernel_rfl) (by kernel_rfl) ?_
      simp (maxSteps := 400000) (dsimp := false) only [axs, AThen, ABlock, dstsOk, AStep, callsF, AWant, aop, AS.ev, AS.put, upd, AS.bound, abin, aint, aload, astore, cellsAt, AV.cells, alen, elems, AV.int?, FPost, aresL, ares1, pack, afill, splice, Value.oneCell', Nat.reduceLT, Nat.reduceLeDiff, Nat.reduceEqDiff, Nat.reduceAdd, Nat.reduceMul, Nat.reduceSub, Nat.reduceBEq, Int.reduceLE, Int.reduceLT, Int.reduceToNat, Int.reduceNeg, Int.reduceEq, axt, ftK, pickP, AScope, AAll, pickQ, ftQ, inHeap, tys]
      rw [atF, if_pos hc]
      exact ⟨_, rfl, rfl, (Keeps.refl H n).upd⟩
theorem apart_D {N x y : Nat} (h : Pw N) (hx : x < N) (hy : y < N) : apartF x y N = (D N x y : Int) := by
  obtain ⟨p, h1, h2, rfl⟩ := h
  have e : (((2 ^ p : Nat)) : Int) = (2 : Int) ^ p := by push_cast; rfl
  rw [e, apartF_eq (by omega) (by omega) (by omega) (by omega) (by omega), ← e, emod_two (by omega) (by omega) (by omega)]
  unfold D
  split <;> split <;> omega
theorem cHtProbes {H : AH} {n a s : Nat} {T : Tb} {m : Int} (h : HtH H n a s T m) (hp : Pw T.length) {k : Int} (hk : Key k) {q : Nat} (hq : IsFind T.length (hm T.length) T k q) :
    HCalls Try.prog 13 [.ptr a 2 0 0, .sc (.int .u64 k)] H n fun r H' n' => r = .sc (.int .i64 (1 + (D T.length (hm T.length k) q : Int))) ∧ H' = fdH H n T (hm T.length k) (fdN T k q) ∧ n' = n + fdN T k q := by
  have ha := h.ha
  have hl := hp.le
  have hh : hm T.length k < T.length := hm_lt (by omega) k
  have e := hm_home hp hk
  have e2 := apart_D hp hh hq.lt
  have hD := D_lt hh hq.lt
  have w : IntKind.i64.wrap (1 + (D T.length (hm T.length k) q : Int)) = 1 + (D T.length (hm T.length k) q : Int) := wrap_in (by omega) (by omega)
  have e0 : ∀ j, fdH H n T (hm T.length k) j a = some (.obj 59 2 [[.sl s 3 0 T.length, .sc (.int .i64 m)]] false) := fun j => by rw [fdH_old _ _ h.la]; exact ha
  refine HCalls.walk Try.func13 rfl rfl Try.ntmps13 Try.results13 (by simp) ?_; simp (maxSteps := 400000) (dsimp := false) only [ha, axs, AThen, ABlock, dstsOk, AStep, callsF, AWant, aop, AS.ev, AS.put, upd, AS.bound, abin, aint, aload, astore, cellsAt, AV.cells, alen, elems, AV.int?, FPost, aresL, ares1, pack, afill, splice, Value.oneCell', Nat.reduceLT, Nat.reduceLeDiff, Nat.reduceEqDiff, Nat.reduceAdd, Nat.reduceMul, Nat.reduceSub, Nat.reduceBEq, Int.reduceLE, Int.reduceLT, Int.reduceToNat, Int.reduceNeg, Int.reduceEq, axt, ftK, pickP, AScope, AAll, pickQ, ftQ, inHeap, tys]
  refine ADraw.planQR [] [9] [(0, true), (1, true), (2, true), (3, true), (4, true), (5, true), (6, true), (7, true), (8, true), (10, true), (11, true), (12, true), (13, true), (14, true), (9, true), (15, true), (16, true), (17, true)] [(0, 0), (0, 0), (0, 0), (0, 0), (0, 0), (0, 0), (0, 0), (0, 0), (0, 0), (1, 0), (1, 0), (1, 0), (1, 0), (1, 0), (0, 2), (0, 0), (0, 0), (0, 0)] mixed (by kernel_rfl) (by kernel_rfl) ?_
  simp (maxSteps := 400000) (dsimp := false) only [ha, axs, AThen, ABlock, dstsOk, AStep, callsF, AWant, aop, AS.ev, AS.put, upd, AS.bound, abin, aint, aload, astore, cellsAt, AV.cells, alen, elems, AV.int?, FPost, aresL, ares1, pack, afill, splice, Value.oneCell', Nat.reduceLT, Nat.reduceLeDiff, Nat.reduceEqDiff, Nat.reduceAdd, Nat.reduceMul, Nat.reduceSub, Nat.reduceBEq, Int.reduceLE, Int.reduceLT, Int.reduceToNat, Int.reduceNeg, Int.reduceEq, axt, ftK, pickP, AScope, AAll, pickQ, ftQ, inHeap, tys]
  refine ACallP.pure rfl (f13 _ _) ?_; simp (maxSteps := 400000) (dsimp := false) only [e, ha, axs, AThen, ABlock, dstsOk, AStep, callsF, AWant, aop, AS.ev, AS.put, upd, AS.bound, abin, aint, aload, astore, cellsAt, AV.cells, alen, elems, AV.int?, FPost, aresL, ares1, pack, afill, splice, Value.oneCell', Nat.reduceLT, Nat.reduceLeDiff, Nat.reduceEqDiff, Nat.reduceAdd, Nat.reduceMul, Nat.reduceSub, Nat.reduceBEq, Int.reduceLE, Int.reduceLT, Int.reduceToNat, Int.reduceNeg, Int.reduceEq, axt, ftK, pickP, AScope, AAll, pickQ, ftQ, inHeap, tys]
  refine AQuietK.intro rfl rfl (cFind h hp hk hq) (fun id hid => fdH_old _ _ hid) ?_
  simp (maxSteps := 400000) (dsimp := false) only [axs, AThen, ABlock, dstsOk, AStep, callsF, AWant, aop, AS.ev, AS.put, upd, AS.bound, abin, aint, aload, astore, cellsAt, AV.cells, alen, elems, AV.int?, FPost, aresL, ares1, pack, afill, splice, Value.oneCell', Nat.reduceLT, Nat.reduceLeDiff, Nat.reduceEqDiff, Nat.reduceAdd, Nat.reduceMul, Nat.reduceSub, Nat.reduceBEq, Int.reduceLE, Int.reduceLT, Int.reduceToNat, Int.reduceNeg, Int.reduceEq, axt, ftK, pickP, AScope, AAll, pickQ, ftQ, inHeap, tys]
  refine ACallP.pure rfl (f15 _ _ _) ?_; simp (maxSteps := 400000) (dsimp := false) only [e2, w, axs, AThen, ABlock, dstsOk, AStep, callsF, AWant, aop, AS.ev, AS.put, upd, AS.bound, abin, aint, aload, astore, cellsAt, AV.cells, alen, elems, AV.int?, FPost, aresL, ares1, pack, afill, splice, Value.oneCell', Nat.reduceLT, Nat.reduceLeDiff, Nat.reduceEqDiff, Nat.reduceAdd, Nat.reduceMul, Nat.reduceSub, Nat.reduceBEq, Int.reduceLE, Int.reduceLT, Int.reduceToNat, Int.reduceNeg, Int.reduceEq, axt, ftK, pickP, AScope, AAll, pickQ, ftQ, inHeap, tys]
  exact ⟨_, rfl, rfl, rfl, rfl⟩
end Go.Al
