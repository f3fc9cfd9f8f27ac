/- Rows put together, by the library. Conditions: the rows are short. -/
import Derived.Test.YtbdcmgcphhbpiaaAc1
set_option linter.unusedVariables false
set_option linter.unusedSimpArgs false
set_option maxRecDepth 20000
set_option maxHeartbeats 1600000
namespace Go.Al
open Go.Proofs
theorem cGrowNil' (l : Nat) (hl : l ≤ 1000000) (H : AH) (n : Nat) : HCalls Try.prog 57 [.sc (.slice none 0 0), .sc (.int .i64 l)] H n fun r H' n' => r = .sc (.slice none 0 0) ∨ ∃ id es, r = .sl id 1 0 0 ∧ H' id = some (.obj 34 1 es false) := by
  have h0 : ¬ (l : Int) < 0 := by omega
  have w0 : IntKind.i64.wrap (0 - 0) = 0 := by decide
  have w1 : IntKind.i64.wrap ((l : Int) - 0) = l := by rw [Int.sub_zero, wrap_in (by omega) (by omega)]
  refine HCalls.walk Try.func57 rfl rfl Try.ntmps57 Try.results57 (by simp) ?_; simp (maxSteps := 400000) (dsimp := false) only [h0, axs, AThen, ABlock, dstsOk, AStep, callsF, AWant, aop, AS.ev, AS.put, upd, AS.bound, abin, aint, aload, astore, cellsAt, AV.cells, alen, elems, AV.int?, FPost, aresL, ares1, pack, afill, splice, Value.oneCell', Nat.reduceLT, Nat.reduceLeDiff, Nat.reduceEqDiff, Nat.reduceAdd, Nat.reduceMul, Nat.reduceSub, Nat.reduceBEq, Int.reduceLE, Int.reduceLT, Int.reduceToNat, Int.reduceNeg, Int.reduceEq, axt, ftK, pickP, AScope, AAll, pickQ, ftQ, inHeap, tys]
  refine AStepX.cap_nil rfl rfl rfl rfl sl22 rfl ?_
  simp (maxSteps := 400000) (dsimp := false) only [w0, w1, axs, AThen, ABlock, dstsOk, AStep, callsF, AWant, aop, AS.ev, AS.put, upd, AS.bound, abin, aint, aload, astore, cellsAt, AV.cells, alen, elems, AV.int?, FPost, aresL, ares1, pack, afill, splice, Value.oneCell', Nat.reduceLT, Nat.reduceLeDiff, Nat.reduceEqDiff, Nat.reduceAdd, Nat.reduceMul, Nat.reduceSub, Nat.reduceBEq, Int.reduceLE, Int.reduceLT, Int.reduceToNat, Int.reduceNeg, Int.reduceEq, axt, ftK, pickP, AScope, AAll, pickQ, ftQ, inHeap, tys]
  by_cases hp : (l : Int) > 0
  · have hle : (0 : Int) ≤ l := by omega
    simp (maxSteps := 400000) (dsimp := false) only [hp, axs, AThen, ABlock, dstsOk, AStep, callsF, AWant, aop, AS.ev, AS.put, upd, AS.bound, abin, aint, aload, astore, cellsAt, AV.cells, alen, elems, AV.int?, FPost, aresL, ares1, pack, afill, splice, Value.oneCell', Nat.reduceLT, Nat.reduceLeDiff, Nat.reduceEqDiff, Nat.reduceAdd, Nat.reduceMul, Nat.reduceSub, Nat.reduceBEq, Int.reduceLE, Int.reduceLT, Int.reduceToNat, Int.reduceNeg, Int.reduceEq, axt, ftK, pickP, AScope, AAll, pickQ, ftQ, inHeap, tys]
    refine AStepX.cap_nil rfl rfl rfl rfl sl22 rfl ?_
    simp (maxSteps := 400000) (dsimp := false) only [axs, AThen, ABlock, dstsOk, AStep, callsF, AWant, aop, AS.ev, AS.put, upd, AS.bound, abin, aint, aload, astore, cellsAt, AV.cells, alen, elems, AV.int?, FPost, aresL, ares1, pack, afill, splice, Value.oneCell', Nat.reduceLT, Nat.reduceLeDiff, Nat.reduceEqDiff, Nat.reduceAdd, Nat.reduceMul, Nat.reduceSub, Nat.reduceBEq, Int.reduceLE, Int.reduceLT, Int.reduceToNat, Int.reduceNeg, Int.reduceEq, axt, ftK, pickP, AScope, AAll, pickQ, ftQ, inHeap, tys]
    refine AStepX.append_zeros_nil (l := l) rfl rfl rfl rfl sl22 in3 ty34 rfl (by decide) rfl rfl rfl rfl rfl (by omega) (by omega) (by show l * 8 ≤ _; omega) ?_
    simp (maxSteps := 400000) (dsimp := false) only [hle, axs, AThen, ABlock, dstsOk, AStep, callsF, AWant, aop, AS.ev, AS.put, upd, AS.bound, abin, aint, aload, astore, cellsAt, AV.cells, alen, elems, AV.int?, FPost, aresL, ares1, pack, afill, splice, Value.oneCell', Nat.reduceLT, Nat.reduceLeDiff, Nat.reduceEqDiff, Nat.reduceAdd, Nat.reduceMul, Nat.reduceSub, Nat.reduceBEq, Int.reduceLE, Int.reduceLT, Int.reduceToNat, Int.reduceNeg, Int.reduceEq, axt, ftK, pickP, AScope, AAll, pickQ, ftQ, inHeap, tys]
    exact ⟨_, rfl, .inr ⟨_, _, rfl, if_pos rfl⟩⟩
  · simp (maxSteps := 400000) (dsimp := false) only [hp, axs, AThen, ABlock, dstsOk, AStep, callsF, AWant, aop, AS.ev, AS.put, upd, AS.bound, abin, aint, aload, astore, cellsAt, AV.cells, alen, elems, AV.int?, FPost, aresL, ares1, pack, afill, splice, Value.oneCell', Nat.reduceLT, Nat.reduceLeDiff, Nat.reduceEqDiff, Nat.reduceAdd, Nat.reduceMul, Nat.reduceSub, Nat.reduceBEq, Int.reduceLE, Int.reduceLT, Int.reduceToNat, Int.reduceNeg, Int.reduceEq, axt, ftK, pickP, AScope, AAll, pickQ, ftQ, inHeap, tys]
    exact ⟨_, rfl, .inl rfl⟩
theorem cGrowNil (l : Nat) (hl : l ≤ 1000000) (H : AH) (n : Nat) : HCalls Try.prog 57 [.sc (.slice none 0 0), .sc (.int .i64 l)] H n fun r H' n' => Live 34 1 H' [] r := by
  refine HCalls.shrink (cGrowNil' l hl H n) ?_
  rintro r H' n' (rfl | ⟨id, es, rfl, h⟩)
  · exact .inl Live.nil
  · exact .inr ⟨id, _, _, es, 0, h, Live.mk (by rw [upd_same]; rfl) rfl⟩
theorem cConcat (ls : List (List Int)) (hl : ls.length ≤ 1000000) (hf : ls.flatten.length ≤ 1000000) : PCalls Try.prog 40 [.lst 1 (UU ls)] (.lst 1 (U ls.flatten)) := by
  refine PCalls.intro2 Try.func40 rfl rfl Try.ntmps40 Try.results40 (by simp) fun n => ?_; simp (maxSteps := 400000) (dsimp := false) only [UU_len, axs, AThen, ABlock, dstsOk, AStep, callsF, AWant, aop, AS.ev, AS.put, upd, AS.bound, abin, aint, aload, astore, cellsAt, AV.cells, alen, elems, AV.int?, FPost, aresL, ares1, pack, afill, splice, Value.oneCell', Nat.reduceLT, Nat.reduceLeDiff, Nat.reduceEqDiff, Nat.reduceAdd, Nat.reduceMul, Nat.reduceSub, Nat.reduceBEq, Int.reduceLE, Int.reduceLT, Int.reduceToNat, Int.reduceNeg, Int.reduceEq, axt, ftK, pickP, AScope, AAll, pickQ, ftQ, inHeap, tys]
  refine ALoop.upto ls.length (fun p s => s.t 0 = .lst 1 (UU ls) ∧ s.t 3 = .sc (.int .i64 ((ls.take p).flatten.length : Nat)) ∧ s.t 9 = .lst 1 (UU ls) ∧ s.t 10 = .sc (.int .i64 ls.length) ∧ s.t 11 = .sc (.int .i64 p)) ⟨rfl, rfl, rfl, rfl, rfl⟩ ?_
  rintro p s hp hb ⟨e0, e3, e9, e10, e11⟩
  rcases Nat.lt_or_ge p ls.length with hlt | hge
  · obtain ⟨x, hx, hp0, hpl, hw, hT, hD⟩ := idx hlt (by omega)
    have hg := UU_get hx
    have hfs := flat_step hx
    have hpre : (ls.take p).flatten.length + x.length ≤ 1000000 := by rw [hfs] at hf; simp only [List.length_append] at hf; omega
    have w1 : IntKind.i64.wrap (((ls.take p).flatten.length : Nat) + (x.length : Nat) : Int) = (((ls.take p).flatten.length + x.length : Nat) : Int) := by rw [wrap_in (by omega) (by omega)]; omega
    have h0 : ¬ (((ls.take p).flatten.length + x.length : Nat) : Int) < 0 := by omega
    simp (maxSteps := 400000) (dsimp := false) only [e0, e3, e9, e10, e11, hg, hp0, hpl, hw, w1, h0, U_len, axs, AThen, ABlock, dstsOk, AStep, callsF, AWant, aop, AS.ev, AS.put, upd, AS.bound, abin, aint, aload, astore, cellsAt, AV.cells, alen, elems, AV.int?, FPost, aresL, ares1, pack, afill, splice, Value.oneCell', Nat.reduceLT, Nat.reduceLeDiff, Nat.reduceEqDiff, Nat.reduceAdd, Nat.reduceMul, Nat.reduceSub, Nat.reduceBEq, Int.reduceLE, Int.reduceLT, Int.reduceToNat, Int.reduceNeg, Int.reduceEq, axt, ftK, pickP, AScope, AAll, pickQ, ftQ, inHeap, tys]
    exact ⟨hlt, by rw [hT]; simp⟩
  · have hpl : ¬ (p : Int) < ls.length := by omega
    rw [List.take_of_length_le hge] at e3
    simp (maxSteps := 400000) (dsimp := false) only [e0, e3, e9, e10, e11, hpl, axs, AThen, ABlock, dstsOk, AStep, callsF, AWant, aop, AS.ev, AS.put, upd, AS.bound, abin, aint, aload, astore, cellsAt, AV.cells, alen, elems, AV.int?, FPost, aresL, ares1, pack, afill, splice, Value.oneCell', Nat.reduceLT, Nat.reduceLeDiff, Nat.reduceEqDiff, Nat.reduceAdd, Nat.reduceMul, Nat.reduceSub, Nat.reduceBEq, Int.reduceLE, Int.reduceLT, Int.reduceToNat, Int.reduceNeg, Int.reduceEq, axt, ftK, pickP, AScope, AAll, pickQ, ftQ, inHeap, tys]
    refine ACallK.heap _ rfl (cGrowNil ls.flatten.length hf _ _) ?_
    rintro r H' n' hlive
    simp (maxSteps := 400000) (dsimp := false) only [e0, e3, UU_len, axs, AThen, ABlock, dstsOk, AStep, callsF, AWant, aop, AS.ev, AS.put, upd, AS.bound, abin, aint, aload, astore, cellsAt, AV.cells, alen, elems, AV.int?, FPost, aresL, ares1, pack, afill, splice, Value.oneCell', Nat.reduceLT, Nat.reduceLeDiff, Nat.reduceEqDiff, Nat.reduceAdd, Nat.reduceMul, Nat.reduceSub, Nat.reduceBEq, Int.reduceLE, Int.reduceLT, Int.reduceToNat, Int.reduceNeg, Int.reduceEq, axt, ftK, pickP, AScope, AAll, pickQ, ftQ, inHeap, tys]
    clear e3 e9 e10 e11 hp hge hpl hb
    refine ALoop.upto ls.length (fun p s => s.t 25 = .lst 1 (UU ls) ∧ s.t 26 = .sc (.int .i64 ls.length) ∧ s.t 27 = .sc (.int .i64 p) ∧ Live 34 1 s.H (U (ls.take p).flatten) (s.t 6)) ⟨rfl, rfl, rfl, hlive⟩ ?_
    clear hlive
    rintro p s hp hb ⟨e25, e26, e27, hv⟩
    rcases Nat.lt_or_ge p ls.length with hlt | hge
    · obtain ⟨x, hx, hp0, hpl, hw, hT, hD⟩ := idx hlt (by omega)
      have hg := UU_get hx
      have hfs := flat_step hx
      have hpre : (ls.take p).flatten.length + x.length ≤ 1000000 := by rw [hfs] at hf; simp only [List.length_append] at hf; omega
      have hs : U (ls.take (p + 1)).flatten = U (ls.take p).flatten ++ U x := by rw [hT]; simp [U]
      have hql : (U (ls.take p).flatten).length + x.length ≤ 1000000 := by rw [U_len]; exact hpre
      rw [hs]
      generalize U (ls.take p).flatten = q at *
      rcases hv.cases hb with ⟨h7, h8⟩ | ⟨id, hlt2, hne, h7, h8⟩
      · subst h7
        cases x with
        | nil =>
          simp (maxSteps := 400000) (dsimp := false) only [e25, e26, e27, h8, hg, hp0, hpl, hw, U_nil, axs, AThen, ABlock, dstsOk, AStep, callsF, AWant, aop, AS.ev, AS.put, upd, AS.bound, abin, aint, aload, astore, cellsAt, AV.cells, alen, elems, AV.int?, FPost, aresL, ares1, pack, afill, splice, Value.oneCell', Nat.reduceLT, Nat.reduceLeDiff, Nat.reduceEqDiff, Nat.reduceAdd, Nat.reduceMul, Nat.reduceSub, Nat.reduceBEq, Int.reduceLE, Int.reduceLT, Int.reduceToNat, Int.reduceNeg, Int.reduceEq, axt, ftK, pickP, AScope, AAll, pickQ, ftQ, inHeap, tys]
          exact ⟨hlt, Live.nil⟩
        | cons y x =>
          have b1 : (x.length + 1) * 8 ≤ 140737488355328 := by simp at hql; omega
          have b2 : x.length + 1 ≤ 1099511627776 := by simp at hql; omega
          have b3 : x.length ≤ 1099511627775 := by omega
          have hu : U (y :: x) = [.sc (.int .u64 y)] :: U x := rfl
          simp (maxSteps := 400000) (dsimp := false) only [e25, e26, e27, h8, hg, hp0, hpl, hw, hu, U_len, b1, b2, b3, axs, AThen, ABlock, dstsOk, AStep, callsF, AWant, aop, AS.ev, AS.put, upd, AS.bound, abin, aint, aload, astore, cellsAt, AV.cells, alen, elems, AV.int?, FPost, aresL, ares1, pack, afill, splice, Value.oneCell', Nat.reduceLT, Nat.reduceLeDiff, Nat.reduceEqDiff, Nat.reduceAdd, Nat.reduceMul, Nat.reduceSub, Nat.reduceBEq, Int.reduceLE, Int.reduceLT, Int.reduceToNat, Int.reduceNeg, Int.reduceEq, axt, ftK, pickP, AScope, AAll, pickQ, ftQ, inHeap, tys]
          exact ⟨hlt, Live.mk (if_pos rfl) (by simp [U_len])⟩
      · have b1 : (q.length + x.length) * 8 ≤ 140737488355328 := by omega
        have b2 : q.length + x.length ≤ 1099511627776 := by omega
        simp (maxSteps := 400000) (dsimp := false) only [e25, e26, e27, h7, h8, hne, hg, hp0, hpl, hw, U_len, b1, b2, axs, AThen, ABlock, dstsOk, AStep, callsF, AWant, aop, AS.ev, AS.put, upd, AS.bound, abin, aint, aload, astore, cellsAt, AV.cells, alen, elems, AV.int?, FPost, aresL, ares1, pack, afill, splice, Value.oneCell', Nat.reduceLT, Nat.reduceLeDiff, Nat.reduceEqDiff, Nat.reduceAdd, Nat.reduceMul, Nat.reduceSub, Nat.reduceBEq, Int.reduceLE, Int.reduceLT, Int.reduceToNat, Int.reduceNeg, Int.reduceEq, axt, ftK, pickP, AScope, AAll, pickQ, ftQ, inHeap, tys]
        exact ⟨hlt, Live.mk (if_pos rfl) (by simp [U_len])⟩
    · have hpl : ¬ (p : Int) < ls.length := by omega
      rw [List.take_of_length_le hge] at hv
      simp (maxSteps := 400000) (dsimp := false) only [e25, e26, e27, hpl, axs, AThen, ABlock, dstsOk, AStep, callsF, AWant, aop, AS.ev, AS.put, upd, AS.bound, abin, aint, aload, astore, cellsAt, AV.cells, alen, elems, AV.int?, FPost, aresL, ares1, pack, afill, splice, Value.oneCell', Nat.reduceLT, Nat.reduceLeDiff, Nat.reduceEqDiff, Nat.reduceAdd, Nat.reduceMul, Nat.reduceSub, Nat.reduceBEq, Int.reduceLE, Int.reduceLT, Int.reduceToNat, Int.reduceNeg, Int.reduceEq, axt, ftK, pickP, AScope, AAll, pickQ, ftQ, inHeap, tys]
      exact ⟨_, rfl, hv.sees (noIdsE_U _)⟩
def lastD (l : List Int) : Int := (l[l.length - 1]?).getD 0
theorem lastD_get {l : List Int} (h : l ≠ []) : l[l.length - 1]? = some (lastD l) := by
  have := List.length_pos_iff.2 h
  unfold lastD
  rw [List.getElem?_eq_getElem (by omega)]; rfl
end Go.Al
