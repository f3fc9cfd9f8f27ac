/- Slots that are taken and freed, by the program: what is told of them. Conditions: the rows are short. -/
import Derived.Test.YtdebjhjnpomlmaaAn2
set_option linter.unusedVariables false
set_option linter.unusedSimpArgs false
set_option maxRecDepth 20000
set_option maxHeartbeats 1600000
namespace Go.Al
open Go.Proofs
/-- Where an arena lies: its struct at a, its slots at s, the freed ones as fv; all below n. -/
structure ArH (H : AH) (n a s : Nat) (fv : AV) (A : AR) : Prop where
  ha : H a = some (.obj 100 4 [[.sl s 7 0 A.slots.length, fv, .sc (.int .i64 A.next), .sc (.int .i64 A.live)]] false)
  hs : H s = some (.obj 115 7 (SL A.slots) false)
  hf : Live 21 1 H (I32 A.freed) fv
  la : a < n
  ls : s < n
  lf : ∀ f m, fv = .sl f 1 0 m → f < n
/-- The objects that an arena has. -/
def ArOwn (a s : Nat) (fv : AV) (j : Nat) : Prop := j = a ∨ j = s ∨ ∃ m, fv = .sl j 1 0 m
theorem ArH.ne {H : AH} {n a s : Nat} {fv : AV} {A : AR} (h : ArH H n a s fv A) : a ≠ s := by
  rintro rfl
  have := h.ha.symm.trans h.hs
  simp at this
theorem ArH.keep {H H' : AH} {n n' a s : Nat} {fv : AV} {A : AR} (h : ArH H n a s fv A) (hn : n ≤ n') (hk : ∀ j, j < n → ArOwn a s fv j → H' j = H j) : ArH H' n' a s fv A := by
  refine ⟨by rw [hk _ h.la (.inl rfl)]; exact h.ha, by rw [hk _ h.ls (.inr (.inl rfl))]; exact h.hs, ?_, Nat.lt_of_lt_of_le h.la hn, Nat.lt_of_lt_of_le h.ls hn, fun f m e => Nat.lt_of_lt_of_le (h.lf f m e) hn⟩
  rcases h.hf with ⟨h1, h2⟩ | ⟨id, h1, h2⟩
  · exact .inl ⟨h1, h2⟩
  · exact .inr ⟨id, h1, by rw [hk _ (h.lf _ _ h1) (.inr (.inr ⟨_, h1⟩))]; exact h2⟩
theorem ArH.new {H : AH} {n a s : Nat} {fv : AV} {A : AR} {x : Option AO} (h : ArH H n a s fv A) : ArH (upd H n x) (n + 1) a s fv A :=
  h.keep (by omega) fun j hj _ => upd_ne _ _ (by omega)
def I32ok (i : Int) : Prop := -2147483648 ≤ i ∧ i ≤ 2147483647
theorem i32_wrap {i : Int} (h : I32ok i) : IntKind.i64.wrap i = i := IntWalk.i64_in _ ⟨by have := h.1; omega, by have := h.2; omega⟩
theorem arIs_get {A : AR} {i : Int} (h0 : i > 0) (h1 : i < A.slots.length) : ∃ x, A.slots[i.toNat]? = some x ∧ arIs A i = x.tk ∧ A.slots.getD i.toNat slt0 = x := by
  have hlt : i.toNat < A.slots.length := by omega
  refine ⟨A.slots[i.toNat], List.getElem?_eq_getElem hlt, ?_, by simp [List.getD_eq_getElem?_getD, hlt]⟩
  unfold arIs
  rw [decide_eq_true (show 0 < i from h0), decide_eq_true h1]
  simp [List.getD_eq_getElem?_getD, hlt]
theorem arIs_no1 {A : AR} {i : Int} (h0 : ¬ i > 0) : arIs A i = false := by
  unfold arIs
  rw [decide_eq_false (show ¬ 0 < i from h0)]
  rfl
theorem arIs_no2 {A : AR} {i : Int} (h1 : ¬ i < A.slots.length) : arIs A i = false := by
  unfold arIs
  rw [decide_eq_false h1]
  simp
theorem arIs_yes {A : AR} {i : Int} (hc : arIs A i = true) : i > 0 ∧ i < A.slots.length := by
  refine ⟨?_, ?_⟩
  · by_cases h0 : i > 0
    · exact h0
    · rw [arIs_no1 h0] at hc; cases hc
  · by_cases h1 : i < A.slots.length
    · exact h1
    · rw [arIs_no2 h1] at hc; cases hc
theorem cArIs {H : AH} {n a s : Nat} {fv : AV} {A : AR} (h : ArH H n a s fv A) (i : Int) (hi : I32ok i) :
    HCalls Try.prog 70 [.ptr a 4 0 0, .sc (.int .i32 i)] H n fun r H' n' => r = .sc (.bool (arIs A i)) ∧ H' = H ∧ n' = n := by
  have ha := h.ha
  have hs := h.hs
  have hw := i32_wrap hi
  refine HCalls.walk Try.func70 rfl rfl Try.ntmps70 Try.results70 (by simp) ?_; simp (maxSteps := 400000) (dsimp := false) only [axs, AThen, ABlock, dstsOk, AStep, callsF, AWant, aop, AS.ev, AS.put, upd, AS.bound, abin, aint, aload, astore, cellsAt, AV.cells, alen, elems, AV.int?, FPost, aresL, ares1, pack, afill, splice, Value.oneCell', Nat.reduceLT, Nat.reduceLeDiff, Nat.reduceEqDiff, Nat.reduceAdd, Nat.reduceMul, Nat.reduceSub, Nat.reduceBEq, Int.reduceLE, Int.reduceLT, Int.reduceToNat, Int.reduceNeg, Int.reduceEq, axt, ftK, ft3, pickP, AScope, AAll, pickQ, ftQ, inHeap, tys]
  by_cases h0 : i > 0
  · by_cases h1 : i < A.slots.length
    · obtain ⟨x, hx, hx2, _⟩ := arIs_get h0 h1
      have hg := SL_get hx
      have h2 : 0 ≤ i := by omega
      simp (maxSteps := 400000) (dsimp := false) only [ha, hs, hw, h0, h1, hg, h2, axs, AThen, ABlock, dstsOk, AStep, callsF, AWant, aop, AS.ev, AS.put, upd, AS.bound, abin, aint, aload, astore, cellsAt, AV.cells, alen, elems, AV.int?, FPost, aresL, ares1, pack, afill, splice, Value.oneCell', Nat.reduceLT, Nat.reduceLeDiff, Nat.reduceEqDiff, Nat.reduceAdd, Nat.reduceMul, Nat.reduceSub, Nat.reduceBEq, Int.reduceLE, Int.reduceLT, Int.reduceToNat, Int.reduceNeg, Int.reduceEq, axt, ftK, ft3, pickP, AScope, AAll, pickQ, ftQ, inHeap, tys]
      rw [hx2]
      exact ⟨_, rfl, rfl⟩
    · simp (maxSteps := 400000) (dsimp := false) only [ha, hs, hw, h0, h1, axs, AThen, ABlock, dstsOk, AStep, callsF, AWant, aop, AS.ev, AS.put, upd, AS.bound, abin, aint, aload, astore, cellsAt, AV.cells, alen, elems, AV.int?, FPost, aresL, ares1, pack, afill, splice, Value.oneCell', Nat.reduceLT, Nat.reduceLeDiff, Nat.reduceEqDiff, Nat.reduceAdd, Nat.reduceMul, Nat.reduceSub, Nat.reduceBEq, Int.reduceLE, Int.reduceLT, Int.reduceToNat, Int.reduceNeg, Int.reduceEq, axt, ftK, ft3, pickP, AScope, AAll, pickQ, ftQ, inHeap, tys]
      rw [arIs_no2 h1]
      exact ⟨_, rfl, rfl⟩
  · simp (maxSteps := 400000) (dsimp := false) only [ha, hs, hw, h0, axs, AThen, ABlock, dstsOk, AStep, callsF, AWant, aop, AS.ev, AS.put, upd, AS.bound, abin, aint, aload, astore, cellsAt, AV.cells, alen, elems, AV.int?, FPost, aresL, ares1, pack, afill, splice, Value.oneCell', Nat.reduceLT, Nat.reduceLeDiff, Nat.reduceEqDiff, Nat.reduceAdd, Nat.reduceMul, Nat.reduceSub, Nat.reduceBEq, Int.reduceLE, Int.reduceLT, Int.reduceToNat, Int.reduceNeg, Int.reduceEq, axt, ftK, ft3, pickP, AScope, AAll, pickQ, ftQ, inHeap, tys]
    rw [arIs_no1 h0]
    exact ⟨_, rfl, rfl⟩
theorem cArAt {H : AH} {n a s : Nat} {fv : AV} {A : AR} (h : ArH H n a s fv A) (i : Int) (hi : I32ok i) :
    HCalls Try.prog 46 [.ptr a 4 0 0, .sc (.int .i32 i)] H n fun r H' n' => r = .agg (arAt A i).cells ∧ H' = upd H n (some (.obj 82 6 [(arAt A i).cells] false)) ∧ n' = n + 1 := by
  have ha := h.ha
  have hs := h.hs
  have ne1 : ¬ a = n := by have := h.la; omega
  have ne2 : ¬ s = n := by have := h.ls; omega
  refine HCalls.walk Try.func46 rfl rfl Try.ntmps46 Try.results46 (by simp) ?_; simp (maxSteps := 400000) (dsimp := false) only [axs, AThen, ABlock, dstsOk, AStep, callsF, AWant, aop, AS.ev, AS.put, upd, AS.bound, abin, aint, aload, astore, cellsAt, AV.cells, alen, elems, AV.int?, FPost, aresL, ares1, pack, afill, splice, Value.oneCell', Nat.reduceLT, Nat.reduceLeDiff, Nat.reduceEqDiff, Nat.reduceAdd, Nat.reduceMul, Nat.reduceSub, Nat.reduceBEq, Int.reduceLE, Int.reduceLT, Int.reduceToNat, Int.reduceNeg, Int.reduceEq, axt, ftK, ft3, pickP, AScope, AAll, pickQ, ftQ, inHeap, tys]
  refine ACallK.heap _ rfl (cArIs h.new i hi) ?_; rintro r' H' n' ⟨rfl, eH, en⟩; obtain rfl := eH.symm; obtain rfl := en.symm; clear eH en; simp (maxSteps := 400000) (dsimp := false) only [axs, AThen, ABlock, dstsOk, AStep, callsF, AWant, aop, AS.ev, AS.put, upd, AS.bound, abin, aint, aload, astore, cellsAt, AV.cells, alen, elems, AV.int?, FPost, aresL, ares1, pack, afill, splice, Value.oneCell', Nat.reduceLT, Nat.reduceLeDiff, Nat.reduceEqDiff, Nat.reduceAdd, Nat.reduceMul, Nat.reduceSub, Nat.reduceBEq, Int.reduceLE, Int.reduceLT, Int.reduceToNat, Int.reduceNeg, Int.reduceEq, axt, ftK, ft3, pickP, AScope, AAll, pickQ, ftQ, inHeap, tys]
  by_cases hc : arIs A i = true
  · obtain ⟨h0, h1⟩ := arIs_yes hc
    obtain ⟨x, hx, hx2, hx3⟩ := arIs_get h0 h1
    have hat : arAt A i = x.nd := by unfold arAt; rw [if_pos hc, hx3]
    have hg := SL_get hx
    have h2 : 0 ≤ i := by omega
    simp (maxSteps := 400000) (dsimp := false) only [ha, hs, hc, h1, hg, h2, ne1, ne2, axs, AThen, ABlock, dstsOk, AStep, callsF, AWant, aop, AS.ev, AS.put, upd, AS.bound, abin, aint, aload, astore, cellsAt, AV.cells, alen, elems, AV.int?, FPost, aresL, ares1, pack, afill, splice, Value.oneCell', Nat.reduceLT, Nat.reduceLeDiff, Nat.reduceEqDiff, Nat.reduceAdd, Nat.reduceMul, Nat.reduceSub, Nat.reduceBEq, Int.reduceLE, Int.reduceLT, Int.reduceToNat, Int.reduceNeg, Int.reduceEq, axt, ftK, ft3, pickP, AScope, AAll, pickQ, ftQ, inHeap, tys]
    rw [hat]
    exact ⟨_, rfl, rfl, upd_upd _ _ _ _⟩
  · have hc : arIs A i = false := by simpa using hc
    have hat : arAt A i = nd0 := by unfold arAt; rw [if_neg (by rw [hc]; simp)]
    simp (maxSteps := 400000) (dsimp := false) only [ha, hs, hc, ne1, ne2, axs, AThen, ABlock, dstsOk, AStep, callsF, AWant, aop, AS.ev, AS.put, upd, AS.bound, abin, aint, aload, astore, cellsAt, AV.cells, alen, elems, AV.int?, FPost, aresL, ares1, pack, afill, splice, Value.oneCell', Nat.reduceLT, Nat.reduceLeDiff, Nat.reduceEqDiff, Nat.reduceAdd, Nat.reduceMul, Nat.reduceSub, Nat.reduceBEq, Int.reduceLE, Int.reduceLT, Int.reduceToNat, Int.reduceNeg, Int.reduceEq, axt, ftK, ft3, pickP, AScope, AAll, pickQ, ftQ, inHeap, tys]
    rw [hat]
    exact ⟨_, rfl, rfl, upd_upd _ _ _ _⟩
theorem cArLen {H : AH} {n a s : Nat} {fv : AV} {A : AR} (h : ArH H n a s fv A) :
    HCalls Try.prog 41 [.ptr a 4 0 0] H n fun r H' n' => r = .sc (.int .i64 A.slots.length) ∧ H' = H ∧ n' = n := by
  have ha := h.ha
  refine HCalls.walk Try.func41 rfl rfl Try.ntmps41 Try.results41 (by simp) ?_; simp (maxSteps := 400000) (dsimp := false) only [ha, axs, AThen, ABlock, dstsOk, AStep, callsF, AWant, aop, AS.ev, AS.put, upd, AS.bound, abin, aint, aload, astore, cellsAt, AV.cells, alen, elems, AV.int?, FPost, aresL, ares1, pack, afill, splice, Value.oneCell', Nat.reduceLT, Nat.reduceLeDiff, Nat.reduceEqDiff, Nat.reduceAdd, Nat.reduceMul, Nat.reduceSub, Nat.reduceBEq, Int.reduceLE, Int.reduceLT, Int.reduceToNat, Int.reduceNeg, Int.reduceEq, axt, ftK, ft3, pickP, AScope, AAll, pickQ, ftQ, inHeap, tys]
  exact ⟨_, rfl, rfl⟩
/-- The objects behind a Set. -/
def setH (H : AH) (n s : Nat) (A : AR) (x : Nd) : AH := upd (upd H n (some (.obj 82 6 [x.cells] false))) s (some (.obj 115 7 (SL A.slots) false))
theorem ArH.set {H : AH} {n a s : Nat} {fv : AV} {A A' : AR} (h : ArH H n a s fv A) (x : Nd) (hl : A'.slots.length = A.slots.length) (hf : A'.freed = A.freed) (hn : A'.next = A.next) (hv : A'.live = A.live) : ArH (setH H n s A' x) (n + 1) a s fv A' := by
  obtain ⟨ha, hs, hff, la, ls, lf⟩ := h
  have hne : a ≠ s := (⟨ha, hs, hff, la, ls, lf⟩ : ArH H n a s fv A).ne
  refine ⟨?_, by unfold setH; rw [upd_same], ?_, by omega, by omega, fun f m e => by have := lf f m e; omega⟩
  · unfold setH
    rw [upd_ne _ _ hne, upd_ne _ _ (by omega), ha, hl, hn, hv]
  · rw [hf]
    rcases hff with ⟨h1, h2⟩ | ⟨id, h1, h2⟩
    · exact .inl ⟨h1, h2⟩
    · refine .inr ⟨id, h1, ?_⟩
      have : id ≠ s := by rintro rfl; rw [hs] at h2; simp at h2
      have h3 := lf _ _ h1
      unfold setH
      rw [upd_ne _ _ this, upd_ne _ _ (by omega)]
      exact h2
theorem arSet_rows (A : AR) (i : Int) (x : Nd) : (arSet A i x).1.slots.length = A.slots.length ∧ (arSet A i x).1.freed = A.freed ∧ (arSet A i x).1.next = A.next ∧ (arSet A i x).1.live = A.live := by
  unfold arSet
  split <;> simp
theorem cArSet {H : AH} {n a s : Nat} {fv : AV} {A : AR} (h : ArH H n a s fv A) (i : Int) (hi : I32ok i) (x : Nd) :
    HCalls Try.prog 74 [.ptr a 4 0 0, .sc (.int .i32 i), .agg x.cells] H n fun r H' n' => r = .sc (.bool (arSet A i x).2) ∧ H' = setH H n s (arSet A i x).1 x ∧ n' = n + 1 := by
  have ha := h.ha
  have hs := h.hs
  have ne1 : ¬ a = n := by have := h.la; omega
  have ne2 : ¬ s = n := by have := h.ls; omega
  have ne3 : ¬ n = s := fun e => ne2 e.symm
  refine HCalls.walk Try.func74 rfl rfl Try.ntmps74 Try.results74 (by simp) ?_; simp (maxSteps := 400000) (dsimp := false) only [Nd.cells, axs, AThen, ABlock, dstsOk, AStep, callsF, AWant, aop, AS.ev, AS.put, upd, AS.bound, abin, aint, aload, astore, cellsAt, AV.cells, alen, elems, AV.int?, FPost, aresL, ares1, pack, afill, splice, Value.oneCell', Nat.reduceLT, Nat.reduceLeDiff, Nat.reduceEqDiff, Nat.reduceAdd, Nat.reduceMul, Nat.reduceSub, Nat.reduceBEq, Int.reduceLE, Int.reduceLT, Int.reduceToNat, Int.reduceNeg, Int.reduceEq, axt, ftK, ft3, pickP, AScope, AAll, pickQ, ftQ, inHeap, tys]
  refine ACallK.heap _ rfl (cArIs h.new i hi) ?_; rintro r' H' n' ⟨rfl, eH, en⟩; obtain rfl := eH.symm; obtain rfl := en.symm; clear eH en; simp (maxSteps := 400000) (dsimp := false) only [axs, AThen, ABlock, dstsOk, AStep, callsF, AWant, aop, AS.ev, AS.put, upd, AS.bound, abin, aint, aload, astore, cellsAt, AV.cells, alen, elems, AV.int?, FPost, aresL, ares1, pack, afill, splice, Value.oneCell', Nat.reduceLT, Nat.reduceLeDiff, Nat.reduceEqDiff, Nat.reduceAdd, Nat.reduceMul, Nat.reduceSub, Nat.reduceBEq, Int.reduceLE, Int.reduceLT, Int.reduceToNat, Int.reduceNeg, Int.reduceEq, axt, ftK, ft3, pickP, AScope, AAll, pickQ, ftQ, inHeap, tys]
  by_cases hc : arIs A i = true
  · obtain ⟨h0, h1⟩ := arIs_yes hc
    obtain ⟨y, hy, hy2, hy3⟩ := arIs_get h0 h1
    have hst : arSet A i x = (⟨A.slots.set i.toNat ⟨x, true⟩, A.freed, A.next, A.live⟩, true) := by unfold arSet; rw [if_pos hc]
    have htk : y.tk = true := by rw [← hy2, hc]
    have hg := SL_get hy
    have h2 : 0 ≤ i := by omega
    simp (maxSteps := 400000) (dsimp := false) only [hc, axs, AThen, ABlock, dstsOk, AStep, callsF, AWant, aop, AS.ev, AS.put, upd, AS.bound, abin, aint, aload, astore, cellsAt, AV.cells, alen, elems, AV.int?, FPost, aresL, ares1, pack, afill, splice, Value.oneCell', Nat.reduceLT, Nat.reduceLeDiff, Nat.reduceEqDiff, Nat.reduceAdd, Nat.reduceMul, Nat.reduceSub, Nat.reduceBEq, Int.reduceLE, Int.reduceLT, Int.reduceToNat, Int.reduceNeg, Int.reduceEq, axt, ftK, ft3, pickP, AScope, AAll, pickQ, ftQ, inHeap, tys]
    refine ADraw.planR [] [(0, true), (1, true), (2, true), (3, true), (4, true), (5, true), (6, true), (7, true), (8, true)] [(0, false), (0, false), (0, false), (0, false), (0, false), (0, false), (0, false), (0, false), (0, false)] mixed (by kernel_rfl) (by kernel_rfl) ?_
    simp (maxSteps := 400000) (dsimp := false) only [ha, hs, hc, h1, hg, h2, ne1, ne2, ne3, axs, AThen, ABlock, dstsOk, AStep, callsF, AWant, aop, AS.ev, AS.put, upd, AS.bound, abin, aint, aload, astore, cellsAt, AV.cells, alen, elems, AV.int?, FPost, aresL, ares1, pack, afill, splice, Value.oneCell', Nat.reduceLT, Nat.reduceLeDiff, Nat.reduceEqDiff, Nat.reduceAdd, Nat.reduceMul, Nat.reduceSub, Nat.reduceBEq, Int.reduceLE, Int.reduceLT, Int.reduceToNat, Int.reduceNeg, Int.reduceEq, axt, ftK, ft3, pickP, AScope, AAll, pickQ, ftQ, inHeap, tys]
    rw [hst, htk]
    refine ⟨_, rfl, rfl, ?_⟩
    unfold setH
    rw [← SL_set]
    rfl
  · have hc : arIs A i = false := by simpa using hc
    have hst : arSet A i x = (A, false) := by unfold arSet; rw [if_neg (by rw [hc]; simp)]
    simp (maxSteps := 400000) (dsimp := false) only [ha, hs, hc, ne1, ne2, axs, AThen, ABlock, dstsOk, AStep, callsF, AWant, aop, AS.ev, AS.put, upd, AS.bound, abin, aint, aload, astore, cellsAt, AV.cells, alen, elems, AV.int?, FPost, aresL, ares1, pack, afill, splice, Value.oneCell', Nat.reduceLT, Nat.reduceLeDiff, Nat.reduceEqDiff, Nat.reduceAdd, Nat.reduceMul, Nat.reduceSub, Nat.reduceBEq, Int.reduceLE, Int.reduceLT, Int.reduceToNat, Int.reduceNeg, Int.reduceEq, axt, ftK, ft3, pickP, AScope, AAll, pickQ, ftQ, inHeap, tys]
    rw [hst]
    refine ⟨_, rfl, rfl, ?_⟩
    unfold setH
    exact (upd_self' (by rw [upd_ne _ _ ne2]; exact hs)).symm
end Go.Al
