/- A cache of one policy, by the reference: the policy's functions. Conditions: the state is one that comes up. -/
import Derived.Test.YtkoimgeckkodhaaMp1
import Derived.Test.YtkoimgeckkodhaaRqF
set_option linter.unusedVariables false
set_option linter.unusedSimpArgs false
set_option maxRecDepth 20000
set_option maxHeartbeats 6400000
-- axs, axw, aresL, afill, Value.oneCell', Nat.reduceLT, Nat.reduceLeDiff, Nat.reduceEqDiff, Nat.reduceAdd, Nat.reduceMul, Nat.reduceSub, Nat.reduceBEq, Int.reduceLE, Int.reduceLT, Int.reduceToNat, Int.reduceNeg, Int.reduceEq, axt, ftK, ft3, AAll, ftQ, ST, xArc, SA, S6, tys: ST, xArc, SA, S6
-- NOIDS: noIdsE_PR, NV.ok'
-- LENS: PR_len
namespace Go.Al
open Go.Proofs
def xArc (s : ARC) : X19 := ⟨⟨.sc (.int .i64 0), rfl⟩, ⟨.sc (.slice none 0 0), rfl⟩, ⟨.sc (.int .i64 0), rfl⟩, ⟨.sc (.slice none 0 0), rfl⟩, ⟨.sc (.slice none 0 0), rfl⟩, ⟨.sc (.slice none 0 0), rfl⟩, ⟨.sc (.int .i64 0), rfl⟩, ⟨.sc (.slice none 0 0), rfl⟩, ⟨.sc (.slice none 0 0), rfl⟩, ⟨.sc (.slice none 0 0), rfl⟩, ⟨.sc (.int .i64 s.C), rfl⟩, ⟨.sc (.int .i64 s.P), rfl⟩, ⟨.lst 1 (U s.A), by simp [noIds, noIdsE_U]⟩, ⟨.lst 1 (U s.B), by simp [noIds, noIdsE_U]⟩, ⟨.lst 1 (U s.D), by simp [noIds, noIdsE_U]⟩, ⟨.lst 1 (U s.E), by simp [noIds, noIdsE_U]⟩, ⟨.sc (.int .i64 0), rfl⟩, ⟨.sc (.slice none 0 0), rfl⟩, ⟨.sc (.slice none 0 0), rfl⟩⟩
theorem see8f700 {p : Prop} (h : p := by repeat' (first | exact True.intro | exact Sees.sc | exact Sees.none | ((with_reducible refine Sees.same ?_) <;> simp [noIds, noIdsL, noIdsE, noIdsE_U, noIdsE_UU, noIdsE_PR, NV.ok'] <;> fail) | (refine Live.sees ?_ ?_ <;> first | assumption | (simp [noIdsE_U, noIdsE_UU, noIdsE_PR, NV.ok'] <;> fail)) | (refine Sees.obj ?_ ?_ ?_ <;> first | exact ⟨_, _, by assumption, rfl⟩ | (simp [U_len, UU_len, PR_len] <;> fail) | (simp [noIdsE_U, noIdsE_UU, noIdsE_PR, NV.ok'] <;> fail) | (simp [U, UU, upd] <;> fail) | (simp [U, UU, upd, neS, *] <;> fail)) | (refine Sees.of_seen 3 ?_ <;> simp [seen, upd, noIdsE, noIdsL, noIds, U, UU, Nat.add_assoc] <;> fail) | refine Sees.agg ?_ | refine And.intro ?_ ?_ | simp only [SeesL])) : p := h
theorem see8f701 {p : Prop} (h : p := by repeat' (first | exact True.intro | exact Sees.sc | exact Sees.none | ((with_reducible refine Sees.same ?_) <;> simp [noIds, noIdsL, noIdsE, noIdsE_U, noIdsE_UU, noIdsE_PR, NV.ok'] <;> fail) | (refine Live.sees ?_ ?_ <;> first | assumption | (simp [noIdsE_U, noIdsE_UU, noIdsE_PR, NV.ok'] <;> fail)) | (refine Sees.obj ?_ ?_ ?_ <;> first | exact ⟨_, _, by assumption, rfl⟩ | (simp [U_len, UU_len, PR_len] <;> fail) | (simp [noIdsE_U, noIdsE_UU, noIdsE_PR, NV.ok'] <;> fail) | (simp [U, UU, upd, neS] <;> fail) | (simp [U, UU, upd, neS, *] <;> fail)) | refine Sees.agg ?_ | refine Sees.tup ?_ | refine And.intro ?_ ?_ | simp only [SeesL])) : p := h
theorem pNew4 (c : Int) (c0 : 1 ≤ c) (c1 : c ≤ 14) : PCalls Try.prog 20 [.sc (.int .i64 4), .sc (.int .i64 c)] (ST 4 (xArc ⟨c, 0, [], [], [], []⟩) [] 0 0 0) := by
  have hc := rANew c
  rw [capOf_same c0 (by omega)] at hc
  have z1 : ¬ (4 : Int) = 1 := by omega
  have z2 : ¬ (4 : Int) = 2 := by omega
  have z3 : ¬ (4 : Int) = 3 := by omega
  refine PCalls.intro2 Try.func20 rfl rfl Try.ntmps20 Try.results20 (by simp) fun n => ?_; simp (maxSteps := 400000) (dsimp := false) only [z1, z2, z3, axs, axw, aresL, afill, Value.oneCell', Nat.reduceLT, Nat.reduceLeDiff, Nat.reduceEqDiff, Nat.reduceAdd, Nat.reduceMul, Nat.reduceSub, Nat.reduceBEq, Int.reduceLE, Int.reduceLT, Int.reduceToNat, Int.reduceNeg, Int.reduceEq, axt, ftK, ft3, AAll, ftQ, ST, xArc, SA, S6, tys]
  refine ACallK.strict rfl (hc) (by simp only [SeesL, axs, axt, AS.ev, AS.put, upd, inHeap, Nat.reduceLT, Nat.reduceEqDiff, Nat.reduceAdd, Nat.reduceBEq, ST, xArc, SA, S6]; exact see8f700) ?_; simp (maxSteps := 400000) (dsimp := false) only [axs, axw, aresL, afill, Value.oneCell', Nat.reduceLT, Nat.reduceLeDiff, Nat.reduceEqDiff, Nat.reduceAdd, Nat.reduceMul, Nat.reduceSub, Nat.reduceBEq, Int.reduceLE, Int.reduceLT, Int.reduceToNat, Int.reduceNeg, Int.reduceEq, axt, ftK, ft3, AAll, ftQ, ST, xArc, SA, S6, tys]
  refine ⟨_, rfl, ?_⟩; simp (maxSteps := 400000) (dsimp := false) only [SeesL, axs, axw, aresL, afill, Value.oneCell', Nat.reduceLT, Nat.reduceLeDiff, Nat.reduceEqDiff, Nat.reduceAdd, Nat.reduceMul, Nat.reduceSub, Nat.reduceBEq, Int.reduceLE, Int.reduceLT, Int.reduceToNat, Int.reduceNeg, Int.reduceEq, axt, ftK, ft3, AAll, ftQ, ST, xArc, SA, S6, tys] <;> exact see8f701
theorem pKeys4 (s : ARC) (P : List (Int × Int)) (h m e : Int) (ok : ArcOk s) : PCalls Try.prog 32 [ST 4 (xArc s) P h m e] (.lst 1 (U (s.A ++ s.B))) := by
  have h1 := ok.ab
  have h2 := ok.c1
  have h3 := ok.c0
  have h4 := ok.ad
  have h5 := ok.de
  have h6 := ok.p0
  have h7 := ok.p1
  have hc := rAKeys s (by omega) (by omega)
  clear ok
  have z1 : ¬ (4 : Int) = 1 := by omega
  have z2 : ¬ (4 : Int) = 2 := by omega
  have z3 : ¬ (4 : Int) = 3 := by omega
  refine PCalls.intro2 Try.func32 rfl rfl Try.ntmps32 Try.results32 (by simp) fun n => ?_; simp (maxSteps := 400000) (dsimp := false) only [z1, z2, z3, axs, axw, aresL, afill, Value.oneCell', Nat.reduceLT, Nat.reduceLeDiff, Nat.reduceEqDiff, Nat.reduceAdd, Nat.reduceMul, Nat.reduceSub, Nat.reduceBEq, Int.reduceLE, Int.reduceLT, Int.reduceToNat, Int.reduceNeg, Int.reduceEq, axt, ftK, ft3, AAll, ftQ, ST, xArc, SA, S6, tys]
  refine ACallK.strict rfl (hc) (by simp only [SeesL, axs, axt, AS.ev, AS.put, upd, inHeap, Nat.reduceLT, Nat.reduceEqDiff, Nat.reduceAdd, Nat.reduceBEq, ST, xArc, SA, S6]; exact see8f700) ?_; simp (maxSteps := 400000) (dsimp := false) only [axs, axw, aresL, afill, Value.oneCell', Nat.reduceLT, Nat.reduceLeDiff, Nat.reduceEqDiff, Nat.reduceAdd, Nat.reduceMul, Nat.reduceSub, Nat.reduceBEq, Int.reduceLE, Int.reduceLT, Int.reduceToNat, Int.reduceNeg, Int.reduceEq, axt, ftK, ft3, AAll, ftQ, ST, xArc, SA, S6, tys]
  refine ⟨_, rfl, ?_⟩; simp (maxSteps := 400000) (dsimp := false) only [SeesL, axs, axw, aresL, afill, Value.oneCell', Nat.reduceLT, Nat.reduceLeDiff, Nat.reduceEqDiff, Nat.reduceAdd, Nat.reduceMul, Nat.reduceSub, Nat.reduceBEq, Int.reduceLE, Int.reduceLT, Int.reduceToNat, Int.reduceNeg, Int.reduceEq, axt, ftK, ft3, AAll, ftQ, ST, xArc, SA, S6, tys] <;> exact see8f701
theorem pTouch4 (s : ARC) (P : List (Int × Int)) (h m e : Int) (k : Int) (ok : ArcOk s) : PCalls Try.prog 33 [ST 4 (xArc s) P h m e, .sc (.int .u64 k)] (ST 4 (xArc (arcTouch s k)) P h m e) := by
  have h1 := ok.ab
  have h2 := ok.c1
  have h3 := ok.c0
  have h4 := ok.ad
  have h5 := ok.de
  have h6 := ok.p0
  have h7 := ok.p1
  have hc := rATouch s k (by omega) (by omega)
  clear ok
  generalize arcTouch s k = R at *
  have z1 : ¬ (4 : Int) = 1 := by omega
  have z2 : ¬ (4 : Int) = 2 := by omega
  have z3 : ¬ (4 : Int) = 3 := by omega
  refine PCalls.intro2 Try.func33 rfl rfl Try.ntmps33 Try.results33 (by simp) fun n => ?_; simp (maxSteps := 400000) (dsimp := false) only [z1, z2, z3, axs, axw, aresL, afill, Value.oneCell', Nat.reduceLT, Nat.reduceLeDiff, Nat.reduceEqDiff, Nat.reduceAdd, Nat.reduceMul, Nat.reduceSub, Nat.reduceBEq, Int.reduceLE, Int.reduceLT, Int.reduceToNat, Int.reduceNeg, Int.reduceEq, axt, ftK, ft3, AAll, ftQ, ST, xArc, SA, S6, tys]
  refine ACallK.strict rfl (hc) (by simp only [SeesL, axs, axt, AS.ev, AS.put, upd, inHeap, Nat.reduceLT, Nat.reduceEqDiff, Nat.reduceAdd, Nat.reduceBEq, ST, xArc, SA, S6]; exact see8f700) ?_; simp (maxSteps := 400000) (dsimp := false) only [axs, axw, aresL, afill, Value.oneCell', Nat.reduceLT, Nat.reduceLeDiff, Nat.reduceEqDiff, Nat.reduceAdd, Nat.reduceMul, Nat.reduceSub, Nat.reduceBEq, Int.reduceLE, Int.reduceLT, Int.reduceToNat, Int.reduceNeg, Int.reduceEq, axt, ftK, ft3, AAll, ftQ, ST, xArc, SA, S6, tys]
  refine ⟨_, rfl, ?_⟩; simp (maxSteps := 400000) (dsimp := false) only [SeesL, axs, axw, aresL, afill, Value.oneCell', Nat.reduceLT, Nat.reduceLeDiff, Nat.reduceEqDiff, Nat.reduceAdd, Nat.reduceMul, Nat.reduceSub, Nat.reduceBEq, Int.reduceLE, Int.reduceLT, Int.reduceToNat, Int.reduceNeg, Int.reduceEq, axt, ftK, ft3, AAll, ftQ, ST, xArc, SA, S6, tys] <;> exact see8f701
theorem pDrop4 (s : ARC) (P : List (Int × Int)) (h m e : Int) (k : Int) (ok : ArcOk s) : PCalls Try.prog 37 [ST 4 (xArc s) P h m e, .sc (.int .u64 k)] (ST 4 (xArc (arcDrop s k)) P h m e) := by
  have h1 := ok.ab
  have h2 := ok.c1
  have h3 := ok.c0
  have h4 := ok.ad
  have h5 := ok.de
  have h6 := ok.p0
  have h7 := ok.p1
  have hc := rADrop s k (by omega) (by omega) (by omega) (by omega)
  clear ok
  generalize arcDrop s k = R at *
  have z1 : ¬ (4 : Int) = 1 := by omega
  have z2 : ¬ (4 : Int) = 2 := by omega
  have z3 : ¬ (4 : Int) = 3 := by omega
  refine PCalls.intro2 Try.func37 rfl rfl Try.ntmps37 Try.results37 (by simp) fun n => ?_; simp (maxSteps := 400000) (dsimp := false) only [z1, z2, z3, axs, axw, aresL, afill, Value.oneCell', Nat.reduceLT, Nat.reduceLeDiff, Nat.reduceEqDiff, Nat.reduceAdd, Nat.reduceMul, Nat.reduceSub, Nat.reduceBEq, Int.reduceLE, Int.reduceLT, Int.reduceToNat, Int.reduceNeg, Int.reduceEq, axt, ftK, ft3, AAll, ftQ, ST, xArc, SA, S6, tys]
  refine ACallK.strict rfl (hc) (by simp only [SeesL, axs, axt, AS.ev, AS.put, upd, inHeap, Nat.reduceLT, Nat.reduceEqDiff, Nat.reduceAdd, Nat.reduceBEq, ST, xArc, SA, S6]; exact see8f700) ?_; simp (maxSteps := 400000) (dsimp := false) only [axs, axw, aresL, afill, Value.oneCell', Nat.reduceLT, Nat.reduceLeDiff, Nat.reduceEqDiff, Nat.reduceAdd, Nat.reduceMul, Nat.reduceSub, Nat.reduceBEq, Int.reduceLE, Int.reduceLT, Int.reduceToNat, Int.reduceNeg, Int.reduceEq, axt, ftK, ft3, AAll, ftQ, ST, xArc, SA, S6, tys]
  refine ⟨_, rfl, ?_⟩; simp (maxSteps := 400000) (dsimp := false) only [SeesL, axs, axw, aresL, afill, Value.oneCell', Nat.reduceLT, Nat.reduceLeDiff, Nat.reduceEqDiff, Nat.reduceAdd, Nat.reduceMul, Nat.reduceSub, Nat.reduceBEq, Int.reduceLE, Int.reduceLT, Int.reduceToNat, Int.reduceNeg, Int.reduceEq, axt, ftK, ft3, AAll, ftQ, ST, xArc, SA, S6, tys] <;> exact see8f701
theorem pAdmit4 (s : ARC) (P : List (Int × Int)) (h m e : Int) (k : Int) (ok : ArcOk s) : PCalls Try.prog 59 [ST 4 (xArc s) P h m e, .sc (.int .u64 k)] (.tup [ST 4 (xArc (arcAdmit s k).1) P h m e, .lst 1 (U (arcAdmit s k).2)]) := by
  have h1 := ok.ab
  have h2 := ok.c1
  have h3 := ok.c0
  have h4 := ok.ad
  have h5 := ok.de
  have h6 := ok.p0
  have h7 := ok.p1
  have hc := rAAdmit s k (by omega) (by omega) (by omega) (by omega) (by omega) (by omega) (by omega) (by omega)
  clear ok
  generalize arcAdmit s k = R at *
  have z1 : ¬ (4 : Int) = 1 := by omega
  have z2 : ¬ (4 : Int) = 2 := by omega
  have z3 : ¬ (4 : Int) = 3 := by omega
  refine PCalls.intro2 Try.func59 rfl rfl Try.ntmps59 Try.results59 (by simp) fun n => ?_; simp (maxSteps := 400000) (dsimp := false) only [z1, z2, z3, axs, axw, aresL, afill, Value.oneCell', Nat.reduceLT, Nat.reduceLeDiff, Nat.reduceEqDiff, Nat.reduceAdd, Nat.reduceMul, Nat.reduceSub, Nat.reduceBEq, Int.reduceLE, Int.reduceLT, Int.reduceToNat, Int.reduceNeg, Int.reduceEq, axt, ftK, ft3, AAll, ftQ, ST, xArc, SA, S6, tys]
  refine ACallK.strict rfl (hc) (by simp only [SeesL, axs, axt, AS.ev, AS.put, upd, inHeap, Nat.reduceLT, Nat.reduceEqDiff, Nat.reduceAdd, Nat.reduceBEq, ST, xArc, SA, S6]; exact see8f700) ?_; simp (maxSteps := 400000) (dsimp := false) only [axs, axw, aresL, afill, Value.oneCell', Nat.reduceLT, Nat.reduceLeDiff, Nat.reduceEqDiff, Nat.reduceAdd, Nat.reduceMul, Nat.reduceSub, Nat.reduceBEq, Int.reduceLE, Int.reduceLT, Int.reduceToNat, Int.reduceNeg, Int.reduceEq, axt, ftK, ft3, AAll, ftQ, ST, xArc, SA, S6, tys]
  refine ⟨_, rfl, ?_⟩; simp (maxSteps := 400000) (dsimp := false) only [SeesL, axs, axw, aresL, afill, Value.oneCell', Nat.reduceLT, Nat.reduceLeDiff, Nat.reduceEqDiff, Nat.reduceAdd, Nat.reduceMul, Nat.reduceSub, Nat.reduceBEq, Int.reduceLE, Int.reduceLT, Int.reduceToNat, Int.reduceNeg, Int.reduceEq, axt, ftK, ft3, AAll, ftQ, ST, xArc, SA, S6, tys] <;> exact see8f701
theorem pResize4 (s : ARC) (P : List (Int × Int)) (h m e : Int) (c : Int) (ok : ArcOk s) (c0 : 1 ≤ c) (c1 : c ≤ 14) : PCalls Try.prog 39 [ST 4 (xArc s) P h m e, .sc (.int .i64 c)] (.tup [ST 4 (xArc (arcResize s c).1) P h m e, .lst 1 (U (arcResize s c).2)]) := by
  have h1 := ok.ab
  have h2 := ok.c1
  have h3 := ok.c0
  have h4 := ok.ad
  have h5 := ok.de
  have h6 := ok.p0
  have h7 := ok.p1
  have hcc := capOf_same c0 (by omega)
  have hc := rAResize s c (by omega) (by omega) (by omega) (by omega) (by omega)
  clear ok
  generalize arcResize s c = R at *
  have z1 : ¬ (4 : Int) = 1 := by omega
  have z2 : ¬ (4 : Int) = 2 := by omega
  have z3 : ¬ (4 : Int) = 3 := by omega
  refine PCalls.intro2 Try.func39 rfl rfl Try.ntmps39 Try.results39 (by simp) fun n => ?_; simp (maxSteps := 400000) (dsimp := false) only [z1, z2, z3, axs, axw, aresL, afill, Value.oneCell', Nat.reduceLT, Nat.reduceLeDiff, Nat.reduceEqDiff, Nat.reduceAdd, Nat.reduceMul, Nat.reduceSub, Nat.reduceBEq, Int.reduceLE, Int.reduceLT, Int.reduceToNat, Int.reduceNeg, Int.reduceEq, axt, ftK, ft3, AAll, ftQ, ST, xArc, SA, S6, tys]
  refine ACallK.strict rfl (hc) (by simp only [SeesL, axs, axt, AS.ev, AS.put, upd, inHeap, Nat.reduceLT, Nat.reduceEqDiff, Nat.reduceAdd, Nat.reduceBEq, ST, xArc, SA, S6]; exact see8f700) ?_; simp (maxSteps := 400000) (dsimp := false) only [axs, axw, aresL, afill, Value.oneCell', Nat.reduceLT, Nat.reduceLeDiff, Nat.reduceEqDiff, Nat.reduceAdd, Nat.reduceMul, Nat.reduceSub, Nat.reduceBEq, Int.reduceLE, Int.reduceLT, Int.reduceToNat, Int.reduceNeg, Int.reduceEq, axt, ftK, ft3, AAll, ftQ, ST, xArc, SA, S6, tys]
  refine ⟨_, rfl, ?_⟩; simp (maxSteps := 400000) (dsimp := false) only [SeesL, axs, axw, aresL, afill, Value.oneCell', Nat.reduceLT, Nat.reduceLeDiff, Nat.reduceEqDiff, Nat.reduceAdd, Nat.reduceMul, Nat.reduceSub, Nat.reduceBEq, Int.reduceLE, Int.reduceLT, Int.reduceToNat, Int.reduceNeg, Int.reduceEq, axt, ftK, ft3, AAll, ftQ, ST, xArc, SA, S6, tys] <;> exact see8f701
end Go.Al
