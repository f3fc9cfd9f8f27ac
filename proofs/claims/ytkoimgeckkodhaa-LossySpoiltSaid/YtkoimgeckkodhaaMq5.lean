/- A cache of one policy, by the reference: the policy's functions. Conditions: the state is one that comes up. -/
import Derived.Test.YtkoimgeckkodhaaMp1
import Derived.Test.YtkoimgeckkodhaaRqI
set_option linter.unusedVariables false
set_option linter.unusedSimpArgs false
set_option maxRecDepth 20000
set_option maxHeartbeats 6400000
-- axs, axw, aresL, afill, Value.oneCell', Nat.reduceLT, Nat.reduceLeDiff, Nat.reduceEqDiff, Nat.reduceAdd, Nat.reduceMul, Nat.reduceSub, Nat.reduceBEq, Int.reduceLE, Int.reduceLT, Int.reduceToNat, Int.reduceNeg, Int.reduceEq, axt, ftK, ft3, AAll, ftQ, ST, xLir, K12.SL, tys: ST, xLir, K12.SL
-- NOIDS: noIdsE_PR, NV.ok', K12.noIdsE_IT
-- LENS: PR_len
namespace Go.Al
open Go.Proofs
def xLir (s : K12.LS) : X19 := ⟨⟨.sc (.int .i64 0), rfl⟩, ⟨.sc (.slice none 0 0), rfl⟩, ⟨.sc (.int .i64 0), rfl⟩, ⟨.sc (.slice none 0 0), rfl⟩, ⟨.sc (.slice none 0 0), rfl⟩, ⟨.sc (.slice none 0 0), rfl⟩, ⟨.sc (.int .i64 0), rfl⟩, ⟨.sc (.slice none 0 0), rfl⟩, ⟨.sc (.slice none 0 0), rfl⟩, ⟨.sc (.slice none 0 0), rfl⟩, ⟨.sc (.int .i64 0), rfl⟩, ⟨.sc (.int .i64 0), rfl⟩, ⟨.sc (.slice none 0 0), rfl⟩, ⟨.sc (.slice none 0 0), rfl⟩, ⟨.sc (.slice none 0 0), rfl⟩, ⟨.sc (.slice none 0 0), rfl⟩, ⟨.sc (.int .i64 s.C), rfl⟩, ⟨.lst 2 (K12.IT s.S), by simp [noIds, K12.noIdsE_IT]⟩, ⟨.lst 1 (U s.Q), by simp [noIds, noIdsE_U]⟩⟩
theorem see54930 {p : Prop} (h : p := by repeat' (first | exact True.intro | exact Sees.sc | exact Sees.none | ((with_reducible refine Sees.same ?_) <;> simp [noIds, noIdsL, noIdsE, noIdsE_U, noIdsE_UU, noIdsE_PR, NV.ok', K12.noIdsE_IT] <;> fail) | (refine Live.sees ?_ ?_ <;> first | assumption | (simp [noIdsE_U, noIdsE_UU, noIdsE_PR, NV.ok', K12.noIdsE_IT] <;> fail)) | (refine Sees.obj ?_ ?_ ?_ <;> first | exact ⟨_, _, by assumption, rfl⟩ | (simp [U_len, UU_len, PR_len] <;> fail) | (simp [noIdsE_U, noIdsE_UU, noIdsE_PR, NV.ok', K12.noIdsE_IT] <;> fail) | (simp [U, UU, upd] <;> fail) | (simp [U, UU, upd, neS, *] <;> fail)) | (refine Sees.of_seen 3 ?_ <;> simp [seen, upd, noIdsE, noIdsL, noIds, U, UU, Nat.add_assoc] <;> fail) | refine Sees.agg ?_ | refine And.intro ?_ ?_ | simp only [SeesL])) : p := h
theorem see54931 {p : Prop} (h : p := by repeat' (first | exact True.intro | exact Sees.sc | exact Sees.none | ((with_reducible refine Sees.same ?_) <;> simp [noIds, noIdsL, noIdsE, noIdsE_U, noIdsE_UU, noIdsE_PR, NV.ok', K12.noIdsE_IT] <;> fail) | (refine Live.sees ?_ ?_ <;> first | assumption | (simp [noIdsE_U, noIdsE_UU, noIdsE_PR, NV.ok', K12.noIdsE_IT] <;> fail)) | (refine Sees.obj ?_ ?_ ?_ <;> first | exact ⟨_, _, by assumption, rfl⟩ | (simp [U_len, UU_len, PR_len] <;> fail) | (simp [noIdsE_U, noIdsE_UU, noIdsE_PR, NV.ok', K12.noIdsE_IT] <;> fail) | (simp [U, UU, upd, neS] <;> fail) | (simp [U, UU, upd, neS, *] <;> fail)) | refine Sees.agg ?_ | refine Sees.tup ?_ | refine And.intro ?_ ?_ | simp only [SeesL])) : p := h
theorem pNew5 (c : Int) (c0 : 1 ≤ c) (c1 : c ≤ 14) : PCalls Try.prog 20 [.sc (.int .i64 5), .sc (.int .i64 c)] (ST 5 (xLir ⟨c, [], []⟩) [] 0 0 0) := by
  have hc := K12.rLNew c
  rw [capOf_same c0 (by omega)] at hc
  have z1 : ¬ (5 : Int) = 1 := by omega
  have z2 : ¬ (5 : Int) = 2 := by omega
  have z3 : ¬ (5 : Int) = 3 := by omega
  have z4 : ¬ (5 : Int) = 4 := by omega
  refine PCalls.intro2 Try.func20 rfl rfl Try.ntmps20 Try.results20 (by simp) fun n => ?_; simp (maxSteps := 400000) (dsimp := false) only [z1, z2, z3, z4, axs, axw, aresL, afill, Value.oneCell', Nat.reduceLT, Nat.reduceLeDiff, Nat.reduceEqDiff, Nat.reduceAdd, Nat.reduceMul, Nat.reduceSub, Nat.reduceBEq, Int.reduceLE, Int.reduceLT, Int.reduceToNat, Int.reduceNeg, Int.reduceEq, axt, ftK, ft3, AAll, ftQ, ST, xLir, K12.SL, tys]
  refine ACallK.strict rfl (hc) (by simp only [SeesL, axs, axt, AS.ev, AS.put, upd, inHeap, Nat.reduceLT, Nat.reduceEqDiff, Nat.reduceAdd, Nat.reduceBEq, ST, xLir, K12.SL]; exact see54930) ?_; simp (maxSteps := 400000) (dsimp := false) only [axs, axw, aresL, afill, Value.oneCell', Nat.reduceLT, Nat.reduceLeDiff, Nat.reduceEqDiff, Nat.reduceAdd, Nat.reduceMul, Nat.reduceSub, Nat.reduceBEq, Int.reduceLE, Int.reduceLT, Int.reduceToNat, Int.reduceNeg, Int.reduceEq, axt, ftK, ft3, AAll, ftQ, ST, xLir, K12.SL, tys]
  refine ⟨_, rfl, ?_⟩; simp (maxSteps := 400000) (dsimp := false) only [SeesL, axs, axw, aresL, afill, Value.oneCell', Nat.reduceLT, Nat.reduceLeDiff, Nat.reduceEqDiff, Nat.reduceAdd, Nat.reduceMul, Nat.reduceSub, Nat.reduceBEq, Int.reduceLE, Int.reduceLT, Int.reduceToNat, Int.reduceNeg, Int.reduceEq, axt, ftK, ft3, AAll, ftQ, ST, xLir, K12.SL, tys] <;> exact see54931
theorem pKeys5 (s : K12.LS) (P : List (Int × Int)) (h m e : Int) (ok : K12.LiOk s) : PCalls Try.prog 32 [ST 5 (xLir s) P h m e] (.lst 1 (U (K12.liKeys s))) := by
  obtain ⟨h1, h2⟩ := ok.bounds
  have hc := K12.rLKeys s (by omega) (by omega)
  clear ok h1 h2
  generalize K12.liKeys s = K at *
  have z1 : ¬ (5 : Int) = 1 := by omega
  have z2 : ¬ (5 : Int) = 2 := by omega
  have z3 : ¬ (5 : Int) = 3 := by omega
  have z4 : ¬ (5 : Int) = 4 := by omega
  refine PCalls.intro2 Try.func32 rfl rfl Try.ntmps32 Try.results32 (by simp) fun n => ?_; simp (maxSteps := 400000) (dsimp := false) only [z1, z2, z3, z4, axs, axw, aresL, afill, Value.oneCell', Nat.reduceLT, Nat.reduceLeDiff, Nat.reduceEqDiff, Nat.reduceAdd, Nat.reduceMul, Nat.reduceSub, Nat.reduceBEq, Int.reduceLE, Int.reduceLT, Int.reduceToNat, Int.reduceNeg, Int.reduceEq, axt, ftK, ft3, AAll, ftQ, ST, xLir, K12.SL, tys]
  refine ACallK.strict rfl (hc) (by simp only [SeesL, axs, axt, AS.ev, AS.put, upd, inHeap, Nat.reduceLT, Nat.reduceEqDiff, Nat.reduceAdd, Nat.reduceBEq, ST, xLir, K12.SL]; exact see54930) ?_; simp (maxSteps := 400000) (dsimp := false) only [axs, axw, aresL, afill, Value.oneCell', Nat.reduceLT, Nat.reduceLeDiff, Nat.reduceEqDiff, Nat.reduceAdd, Nat.reduceMul, Nat.reduceSub, Nat.reduceBEq, Int.reduceLE, Int.reduceLT, Int.reduceToNat, Int.reduceNeg, Int.reduceEq, axt, ftK, ft3, AAll, ftQ, ST, xLir, K12.SL, tys]
  refine ⟨_, rfl, ?_⟩; simp (maxSteps := 400000) (dsimp := false) only [SeesL, axs, axw, aresL, afill, Value.oneCell', Nat.reduceLT, Nat.reduceLeDiff, Nat.reduceEqDiff, Nat.reduceAdd, Nat.reduceMul, Nat.reduceSub, Nat.reduceBEq, Int.reduceLE, Int.reduceLT, Int.reduceToNat, Int.reduceNeg, Int.reduceEq, axt, ftK, ft3, AAll, ftQ, ST, xLir, K12.SL, tys] <;> exact see54931
theorem pTouch5 (s : K12.LS) (P : List (Int × Int)) (h m e : Int) (k : Int) (ok : K12.LiOk s) : PCalls Try.prog 33 [ST 5 (xLir s) P h m e, .sc (.int .u64 k)] (ST 5 (xLir (K12.liTouch s k)) P h m e) := by
  obtain ⟨h1, h2⟩ := ok.bounds
  have hc := K12.rLTouch s k ok
  clear ok h1 h2
  generalize K12.liTouch s k = R at *
  have z1 : ¬ (5 : Int) = 1 := by omega
  have z2 : ¬ (5 : Int) = 2 := by omega
  have z3 : ¬ (5 : Int) = 3 := by omega
  have z4 : ¬ (5 : Int) = 4 := by omega
  refine PCalls.intro2 Try.func33 rfl rfl Try.ntmps33 Try.results33 (by simp) fun n => ?_; simp (maxSteps := 400000) (dsimp := false) only [z1, z2, z3, z4, axs, axw, aresL, afill, Value.oneCell', Nat.reduceLT, Nat.reduceLeDiff, Nat.reduceEqDiff, Nat.reduceAdd, Nat.reduceMul, Nat.reduceSub, Nat.reduceBEq, Int.reduceLE, Int.reduceLT, Int.reduceToNat, Int.reduceNeg, Int.reduceEq, axt, ftK, ft3, AAll, ftQ, ST, xLir, K12.SL, tys]
  refine ACallK.strict rfl (hc) (by simp only [SeesL, axs, axt, AS.ev, AS.put, upd, inHeap, Nat.reduceLT, Nat.reduceEqDiff, Nat.reduceAdd, Nat.reduceBEq, ST, xLir, K12.SL]; exact see54930) ?_; simp (maxSteps := 400000) (dsimp := false) only [axs, axw, aresL, afill, Value.oneCell', Nat.reduceLT, Nat.reduceLeDiff, Nat.reduceEqDiff, Nat.reduceAdd, Nat.reduceMul, Nat.reduceSub, Nat.reduceBEq, Int.reduceLE, Int.reduceLT, Int.reduceToNat, Int.reduceNeg, Int.reduceEq, axt, ftK, ft3, AAll, ftQ, ST, xLir, K12.SL, tys]
  refine ⟨_, rfl, ?_⟩; simp (maxSteps := 400000) (dsimp := false) only [SeesL, axs, axw, aresL, afill, Value.oneCell', Nat.reduceLT, Nat.reduceLeDiff, Nat.reduceEqDiff, Nat.reduceAdd, Nat.reduceMul, Nat.reduceSub, Nat.reduceBEq, Int.reduceLE, Int.reduceLT, Int.reduceToNat, Int.reduceNeg, Int.reduceEq, axt, ftK, ft3, AAll, ftQ, ST, xLir, K12.SL, tys] <;> exact see54931
theorem pDrop5 (s : K12.LS) (P : List (Int × Int)) (h m e : Int) (k : Int) (ok : K12.LiOk s) : PCalls Try.prog 37 [ST 5 (xLir s) P h m e, .sc (.int .u64 k)] (ST 5 (xLir (K12.liDrop s k)) P h m e) := by
  obtain ⟨h1, h2⟩ := ok.bounds
  have hc := K12.rLDrop s k (by omega) (by omega)
  clear ok h1 h2
  generalize K12.liDrop s k = R at *
  have z1 : ¬ (5 : Int) = 1 := by omega
  have z2 : ¬ (5 : Int) = 2 := by omega
  have z3 : ¬ (5 : Int) = 3 := by omega
  have z4 : ¬ (5 : Int) = 4 := by omega
  refine PCalls.intro2 Try.func37 rfl rfl Try.ntmps37 Try.results37 (by simp) fun n => ?_; simp (maxSteps := 400000) (dsimp := false) only [z1, z2, z3, z4, axs, axw, aresL, afill, Value.oneCell', Nat.reduceLT, Nat.reduceLeDiff, Nat.reduceEqDiff, Nat.reduceAdd, Nat.reduceMul, Nat.reduceSub, Nat.reduceBEq, Int.reduceLE, Int.reduceLT, Int.reduceToNat, Int.reduceNeg, Int.reduceEq, axt, ftK, ft3, AAll, ftQ, ST, xLir, K12.SL, tys]
  refine ACallK.strict rfl (hc) (by simp only [SeesL, axs, axt, AS.ev, AS.put, upd, inHeap, Nat.reduceLT, Nat.reduceEqDiff, Nat.reduceAdd, Nat.reduceBEq, ST, xLir, K12.SL]; exact see54930) ?_; simp (maxSteps := 400000) (dsimp := false) only [axs, axw, aresL, afill, Value.oneCell', Nat.reduceLT, Nat.reduceLeDiff, Nat.reduceEqDiff, Nat.reduceAdd, Nat.reduceMul, Nat.reduceSub, Nat.reduceBEq, Int.reduceLE, Int.reduceLT, Int.reduceToNat, Int.reduceNeg, Int.reduceEq, axt, ftK, ft3, AAll, ftQ, ST, xLir, K12.SL, tys]
  refine ⟨_, rfl, ?_⟩; simp (maxSteps := 400000) (dsimp := false) only [SeesL, axs, axw, aresL, afill, Value.oneCell', Nat.reduceLT, Nat.reduceLeDiff, Nat.reduceEqDiff, Nat.reduceAdd, Nat.reduceMul, Nat.reduceSub, Nat.reduceBEq, Int.reduceLE, Int.reduceLT, Int.reduceToNat, Int.reduceNeg, Int.reduceEq, axt, ftK, ft3, AAll, ftQ, ST, xLir, K12.SL, tys] <;> exact see54931
theorem pAdmit5 (s : K12.LS) (P : List (Int × Int)) (h m e : Int) (k : Int) (ok : K12.LiOk s) : PCalls Try.prog 59 [ST 5 (xLir s) P h m e, .sc (.int .u64 k)] (.tup [ST 5 (xLir (K12.liAdmit s k).1) P h m e, .lst 1 (U (K12.liAdmit s k).2)]) := by
  obtain ⟨h1, h2⟩ := ok.bounds
  have hc := K12.rLAdmit12 s k ok
  clear ok h1 h2
  generalize K12.liAdmit s k = R at *
  have z1 : ¬ (5 : Int) = 1 := by omega
  have z2 : ¬ (5 : Int) = 2 := by omega
  have z3 : ¬ (5 : Int) = 3 := by omega
  have z4 : ¬ (5 : Int) = 4 := by omega
  refine PCalls.intro2 Try.func59 rfl rfl Try.ntmps59 Try.results59 (by simp) fun n => ?_; simp (maxSteps := 400000) (dsimp := false) only [z1, z2, z3, z4, axs, axw, aresL, afill, Value.oneCell', Nat.reduceLT, Nat.reduceLeDiff, Nat.reduceEqDiff, Nat.reduceAdd, Nat.reduceMul, Nat.reduceSub, Nat.reduceBEq, Int.reduceLE, Int.reduceLT, Int.reduceToNat, Int.reduceNeg, Int.reduceEq, axt, ftK, ft3, AAll, ftQ, ST, xLir, K12.SL, tys]
  refine ACallK.strict rfl (hc) (by simp only [SeesL, axs, axt, AS.ev, AS.put, upd, inHeap, Nat.reduceLT, Nat.reduceEqDiff, Nat.reduceAdd, Nat.reduceBEq, ST, xLir, K12.SL]; exact see54930) ?_; simp (maxSteps := 400000) (dsimp := false) only [axs, axw, aresL, afill, Value.oneCell', Nat.reduceLT, Nat.reduceLeDiff, Nat.reduceEqDiff, Nat.reduceAdd, Nat.reduceMul, Nat.reduceSub, Nat.reduceBEq, Int.reduceLE, Int.reduceLT, Int.reduceToNat, Int.reduceNeg, Int.reduceEq, axt, ftK, ft3, AAll, ftQ, ST, xLir, K12.SL, tys]
  refine ⟨_, rfl, ?_⟩; simp (maxSteps := 400000) (dsimp := false) only [SeesL, axs, axw, aresL, afill, Value.oneCell', Nat.reduceLT, Nat.reduceLeDiff, Nat.reduceEqDiff, Nat.reduceAdd, Nat.reduceMul, Nat.reduceSub, Nat.reduceBEq, Int.reduceLE, Int.reduceLT, Int.reduceToNat, Int.reduceNeg, Int.reduceEq, axt, ftK, ft3, AAll, ftQ, ST, xLir, K12.SL, tys] <;> exact see54931
theorem pResize5 (s : K12.LS) (P : List (Int × Int)) (h m e : Int) (c : Int) (ok : K12.LiOk s) (c0 : 1 ≤ c) (c1 : c ≤ 14) : PCalls Try.prog 39 [ST 5 (xLir s) P h m e, .sc (.int .i64 c)] (.tup [ST 5 (xLir (K12.liResize s c).1) P h m e, .lst 1 (U (K12.liResize s c).2)]) := by
  obtain ⟨h1, h2⟩ := ok.bounds
  have hcc := capOf_same c0 (by omega)
  have hc := K12.rLResize12 s c ok
  clear ok h1 h2
  generalize K12.liResize s c = R at *
  have z1 : ¬ (5 : Int) = 1 := by omega
  have z2 : ¬ (5 : Int) = 2 := by omega
  have z3 : ¬ (5 : Int) = 3 := by omega
  have z4 : ¬ (5 : Int) = 4 := by omega
  refine PCalls.intro2 Try.func39 rfl rfl Try.ntmps39 Try.results39 (by simp) fun n => ?_; simp (maxSteps := 400000) (dsimp := false) only [z1, z2, z3, z4, axs, axw, aresL, afill, Value.oneCell', Nat.reduceLT, Nat.reduceLeDiff, Nat.reduceEqDiff, Nat.reduceAdd, Nat.reduceMul, Nat.reduceSub, Nat.reduceBEq, Int.reduceLE, Int.reduceLT, Int.reduceToNat, Int.reduceNeg, Int.reduceEq, axt, ftK, ft3, AAll, ftQ, ST, xLir, K12.SL, tys]
  refine ACallK.strict rfl (hc) (by simp only [SeesL, axs, axt, AS.ev, AS.put, upd, inHeap, Nat.reduceLT, Nat.reduceEqDiff, Nat.reduceAdd, Nat.reduceBEq, ST, xLir, K12.SL]; exact see54930) ?_; simp (maxSteps := 400000) (dsimp := false) only [axs, axw, aresL, afill, Value.oneCell', Nat.reduceLT, Nat.reduceLeDiff, Nat.reduceEqDiff, Nat.reduceAdd, Nat.reduceMul, Nat.reduceSub, Nat.reduceBEq, Int.reduceLE, Int.reduceLT, Int.reduceToNat, Int.reduceNeg, Int.reduceEq, axt, ftK, ft3, AAll, ftQ, ST, xLir, K12.SL, tys]
  refine ⟨_, rfl, ?_⟩; simp (maxSteps := 400000) (dsimp := false) only [SeesL, axs, axw, aresL, afill, Value.oneCell', Nat.reduceLT, Nat.reduceLeDiff, Nat.reduceEqDiff, Nat.reduceAdd, Nat.reduceMul, Nat.reduceSub, Nat.reduceBEq, Int.reduceLE, Int.reduceLT, Int.reduceToNat, Int.reduceNeg, Int.reduceEq, axt, ftK, ft3, AAll, ftQ, ST, xLir, K12.SL, tys] <;> exact see54931
end Go.Al
