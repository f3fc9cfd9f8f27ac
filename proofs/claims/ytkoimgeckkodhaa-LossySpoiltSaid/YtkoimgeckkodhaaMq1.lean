/- A cache of one policy, by the reference: the policy's functions. Conditions: the state is one that comes up. -/
import Derived.Test.YtkoimgeckkodhaaMp1
import Derived.Test.YtkoimgeckkodhaaRqB
set_option linter.unusedVariables false
set_option linter.unusedSimpArgs false
set_option maxRecDepth 20000
set_option maxHeartbeats 6400000
-- axs, axw, aresL, afill, Value.oneCell', Nat.reduceLT, Nat.reduceLeDiff, Nat.reduceEqDiff, Nat.reduceAdd, Nat.reduceMul, Nat.reduceSub, Nat.reduceBEq, Int.reduceLE, Int.reduceLT, Int.reduceToNat, Int.reduceNeg, Int.reduceEq, axt, ftK, ft3, AAll, ftQ, ST, xLru, S2, tys: ST, xLru, S2
-- NOIDS: noIdsE_PR, NV.ok'
-- LENS: PR_len
namespace Go.Al
open Go.Proofs
structure LR where
  C : Int
  L : List Int
def LR.Ok (s : LR) : Prop := LruOk s.C s.L
def xLru (s : LR) : X19 := ⟨⟨.sc (.int .i64 s.C), rfl⟩, ⟨.lst 1 (U s.L), by simp [noIds, noIdsE_U]⟩, ⟨.sc (.int .i64 0), rfl⟩, ⟨.sc (.slice none 0 0), rfl⟩, ⟨.sc (.slice none 0 0), rfl⟩, ⟨.sc (.slice none 0 0), rfl⟩, ⟨.sc (.int .i64 0), rfl⟩, ⟨.sc (.slice none 0 0), rfl⟩, ⟨.sc (.slice none 0 0), rfl⟩, ⟨.sc (.slice none 0 0), rfl⟩, ⟨.sc (.int .i64 0), rfl⟩, ⟨.sc (.int .i64 0), rfl⟩, ⟨.sc (.slice none 0 0), rfl⟩, ⟨.sc (.slice none 0 0), rfl⟩, ⟨.sc (.slice none 0 0), rfl⟩, ⟨.sc (.slice none 0 0), rfl⟩, ⟨.sc (.int .i64 0), rfl⟩, ⟨.sc (.slice none 0 0), rfl⟩, ⟨.sc (.slice none 0 0), rfl⟩⟩
theorem seeaaf20 {p : Prop} (h : p := by repeat' (first | exact True.intro | exact Sees.sc | exact Sees.none | ((with_reducible refine Sees.same ?_) <;> simp [noIds, noIdsL, noIdsE, noIdsE_U, noIdsE_UU, noIdsE_PR, NV.ok'] <;> fail) | (refine Live.sees ?_ ?_ <;> first | assumption | (simp [noIdsE_U, noIdsE_UU, noIdsE_PR, NV.ok'] <;> fail)) | (refine Sees.obj ?_ ?_ ?_ <;> first | exact ⟨_, _, by assumption, rfl⟩ | (simp [U_len, UU_len, PR_len] <;> fail) | (simp [noIdsE_U, noIdsE_UU, noIdsE_PR, NV.ok'] <;> fail) | (simp [U, UU, upd] <;> fail) | (simp [U, UU, upd, neS, *] <;> fail)) | (refine Sees.of_seen 3 ?_ <;> simp [seen, upd, noIdsE, noIdsL, noIds, U, UU, Nat.add_assoc] <;> fail) | refine Sees.agg ?_ | refine And.intro ?_ ?_ | simp only [SeesL])) : p := h
theorem seeaaf21 {p : Prop} (h : p := by repeat' (first | exact True.intro | exact Sees.sc | exact Sees.none | ((with_reducible refine Sees.same ?_) <;> simp [noIds, noIdsL, noIdsE, noIdsE_U, noIdsE_UU, noIdsE_PR, NV.ok'] <;> fail) | (refine Live.sees ?_ ?_ <;> first | assumption | (simp [noIdsE_U, noIdsE_UU, noIdsE_PR, NV.ok'] <;> fail)) | (refine Sees.obj ?_ ?_ ?_ <;> first | exact ⟨_, _, by assumption, rfl⟩ | (simp [U_len, UU_len, PR_len] <;> fail) | (simp [noIdsE_U, noIdsE_UU, noIdsE_PR, NV.ok'] <;> fail) | (simp [U, UU, upd, neS] <;> fail) | (simp [U, UU, upd, neS, *] <;> fail)) | refine Sees.agg ?_ | refine Sees.tup ?_ | refine And.intro ?_ ?_ | simp only [SeesL])) : p := h
theorem pNew1 (c : Int) (c0 : 1 ≤ c) (c1 : c ≤ 14) : PCalls Try.prog 20 [.sc (.int .i64 1), .sc (.int .i64 c)] (ST 1 (xLru ⟨c, []⟩) [] 0 0 0) := by
  have hc := rLNew c
  rw [capOf_same c0 (by omega)] at hc
  refine PCalls.intro2 Try.func20 rfl rfl Try.ntmps20 Try.results20 (by simp) fun n => ?_; simp (maxSteps := 400000) (dsimp := false) only [axs, axw, aresL, afill, Value.oneCell', Nat.reduceLT, Nat.reduceLeDiff, Nat.reduceEqDiff, Nat.reduceAdd, Nat.reduceMul, Nat.reduceSub, Nat.reduceBEq, Int.reduceLE, Int.reduceLT, Int.reduceToNat, Int.reduceNeg, Int.reduceEq, axt, ftK, ft3, AAll, ftQ, ST, xLru, S2, tys]
  refine ACallK.strict rfl (hc) (by simp only [SeesL, axs, axt, AS.ev, AS.put, upd, inHeap, Nat.reduceLT, Nat.reduceEqDiff, Nat.reduceAdd, Nat.reduceBEq, ST, xLru, S2]; exact seeaaf20) ?_; simp (maxSteps := 400000) (dsimp := false) only [axs, axw, aresL, afill, Value.oneCell', Nat.reduceLT, Nat.reduceLeDiff, Nat.reduceEqDiff, Nat.reduceAdd, Nat.reduceMul, Nat.reduceSub, Nat.reduceBEq, Int.reduceLE, Int.reduceLT, Int.reduceToNat, Int.reduceNeg, Int.reduceEq, axt, ftK, ft3, AAll, ftQ, ST, xLru, S2, tys]
  refine ⟨_, rfl, ?_⟩; simp (maxSteps := 400000) (dsimp := false) only [SeesL, axs, axw, aresL, afill, Value.oneCell', Nat.reduceLT, Nat.reduceLeDiff, Nat.reduceEqDiff, Nat.reduceAdd, Nat.reduceMul, Nat.reduceSub, Nat.reduceBEq, Int.reduceLE, Int.reduceLT, Int.reduceToNat, Int.reduceNeg, Int.reduceEq, axt, ftK, ft3, AAll, ftQ, ST, xLru, S2, tys] <;> exact seeaaf21
theorem pKeys1 (s : LR) (P : List (Int × Int)) (h m e : Int) (ok : LR.Ok s) : PCalls Try.prog 32 [ST 1 (xLru s) P h m e] (.lst 1 (U s.L)) := by
  have ok : LruOk s.C s.L := ok
  have h1 := ok.len
  have h2 := ok.c1
  have h3 := ok.c0
  have hc := rLKeys s.C s.L
  clear ok h1 h2 h3
  refine PCalls.intro2 Try.func32 rfl rfl Try.ntmps32 Try.results32 (by simp) fun n => ?_; simp (maxSteps := 400000) (dsimp := false) only [axs, axw, aresL, afill, Value.oneCell', Nat.reduceLT, Nat.reduceLeDiff, Nat.reduceEqDiff, Nat.reduceAdd, Nat.reduceMul, Nat.reduceSub, Nat.reduceBEq, Int.reduceLE, Int.reduceLT, Int.reduceToNat, Int.reduceNeg, Int.reduceEq, axt, ftK, ft3, AAll, ftQ, ST, xLru, S2, tys]
  refine ACallK.strict rfl (hc) (by simp only [SeesL, axs, axt, AS.ev, AS.put, upd, inHeap, Nat.reduceLT, Nat.reduceEqDiff, Nat.reduceAdd, Nat.reduceBEq, ST, xLru, S2]; exact seeaaf20) ?_; simp (maxSteps := 400000) (dsimp := false) only [axs, axw, aresL, afill, Value.oneCell', Nat.reduceLT, Nat.reduceLeDiff, Nat.reduceEqDiff, Nat.reduceAdd, Nat.reduceMul, Nat.reduceSub, Nat.reduceBEq, Int.reduceLE, Int.reduceLT, Int.reduceToNat, Int.reduceNeg, Int.reduceEq, axt, ftK, ft3, AAll, ftQ, ST, xLru, S2, tys]
  refine ⟨_, rfl, ?_⟩; simp (maxSteps := 400000) (dsimp := false) only [SeesL, axs, axw, aresL, afill, Value.oneCell', Nat.reduceLT, Nat.reduceLeDiff, Nat.reduceEqDiff, Nat.reduceAdd, Nat.reduceMul, Nat.reduceSub, Nat.reduceBEq, Int.reduceLE, Int.reduceLT, Int.reduceToNat, Int.reduceNeg, Int.reduceEq, axt, ftK, ft3, AAll, ftQ, ST, xLru, S2, tys] <;> exact seeaaf21
theorem pTouch1 (s : LR) (P : List (Int × Int)) (h m e : Int) (k : Int) (ok : LR.Ok s) : PCalls Try.prog 33 [ST 1 (xLru s) P h m e, .sc (.int .u64 k)] (ST 1 (xLru (LR.mk s.C (lruTouch s.L k))) P h m e) := by
  have ok : LruOk s.C s.L := ok
  have h1 := ok.len
  have h2 := ok.c1
  have h3 := ok.c0
  have hc := rLTouch s.C s.L k (by omega)
  clear ok h1 h2 h3
  refine PCalls.intro2 Try.func33 rfl rfl Try.ntmps33 Try.results33 (by simp) fun n => ?_; simp (maxSteps := 400000) (dsimp := false) only [axs, axw, aresL, afill, Value.oneCell', Nat.reduceLT, Nat.reduceLeDiff, Nat.reduceEqDiff, Nat.reduceAdd, Nat.reduceMul, Nat.reduceSub, Nat.reduceBEq, Int.reduceLE, Int.reduceLT, Int.reduceToNat, Int.reduceNeg, Int.reduceEq, axt, ftK, ft3, AAll, ftQ, ST, xLru, S2, tys]
  refine ACallK.strict rfl (hc) (by simp only [SeesL, axs, axt, AS.ev, AS.put, upd, inHeap, Nat.reduceLT, Nat.reduceEqDiff, Nat.reduceAdd, Nat.reduceBEq, ST, xLru, S2]; exact seeaaf20) ?_; simp (maxSteps := 400000) (dsimp := false) only [axs, axw, aresL, afill, Value.oneCell', Nat.reduceLT, Nat.reduceLeDiff, Nat.reduceEqDiff, Nat.reduceAdd, Nat.reduceMul, Nat.reduceSub, Nat.reduceBEq, Int.reduceLE, Int.reduceLT, Int.reduceToNat, Int.reduceNeg, Int.reduceEq, axt, ftK, ft3, AAll, ftQ, ST, xLru, S2, tys]
  refine ⟨_, rfl, ?_⟩; simp (maxSteps := 400000) (dsimp := false) only [SeesL, axs, axw, aresL, afill, Value.oneCell', Nat.reduceLT, Nat.reduceLeDiff, Nat.reduceEqDiff, Nat.reduceAdd, Nat.reduceMul, Nat.reduceSub, Nat.reduceBEq, Int.reduceLE, Int.reduceLT, Int.reduceToNat, Int.reduceNeg, Int.reduceEq, axt, ftK, ft3, AAll, ftQ, ST, xLru, S2, tys] <;> exact seeaaf21
theorem pDrop1 (s : LR) (P : List (Int × Int)) (h m e : Int) (k : Int) (ok : LR.Ok s) : PCalls Try.prog 37 [ST 1 (xLru s) P h m e, .sc (.int .u64 k)] (ST 1 (xLru (LR.mk s.C (without s.L k))) P h m e) := by
  have ok : LruOk s.C s.L := ok
  have h1 := ok.len
  have h2 := ok.c1
  have h3 := ok.c0
  have hc := rLDrop s.C s.L k (by omega)
  clear ok h1 h2 h3
  refine PCalls.intro2 Try.func37 rfl rfl Try.ntmps37 Try.results37 (by simp) fun n => ?_; simp (maxSteps := 400000) (dsimp := false) only [axs, axw, aresL, afill, Value.oneCell', Nat.reduceLT, Nat.reduceLeDiff, Nat.reduceEqDiff, Nat.reduceAdd, Nat.reduceMul, Nat.reduceSub, Nat.reduceBEq, Int.reduceLE, Int.reduceLT, Int.reduceToNat, Int.reduceNeg, Int.reduceEq, axt, ftK, ft3, AAll, ftQ, ST, xLru, S2, tys]
  refine ACallK.strict rfl (hc) (by simp only [SeesL, axs, axt, AS.ev, AS.put, upd, inHeap, Nat.reduceLT, Nat.reduceEqDiff, Nat.reduceAdd, Nat.reduceBEq, ST, xLru, S2]; exact seeaaf20) ?_; simp (maxSteps := 400000) (dsimp := false) only [axs, axw, aresL, afill, Value.oneCell', Nat.reduceLT, Nat.reduceLeDiff, Nat.reduceEqDiff, Nat.reduceAdd, Nat.reduceMul, Nat.reduceSub, Nat.reduceBEq, Int.reduceLE, Int.reduceLT, Int.reduceToNat, Int.reduceNeg, Int.reduceEq, axt, ftK, ft3, AAll, ftQ, ST, xLru, S2, tys]
  refine ⟨_, rfl, ?_⟩; simp (maxSteps := 400000) (dsimp := false) only [SeesL, axs, axw, aresL, afill, Value.oneCell', Nat.reduceLT, Nat.reduceLeDiff, Nat.reduceEqDiff, Nat.reduceAdd, Nat.reduceMul, Nat.reduceSub, Nat.reduceBEq, Int.reduceLE, Int.reduceLT, Int.reduceToNat, Int.reduceNeg, Int.reduceEq, axt, ftK, ft3, AAll, ftQ, ST, xLru, S2, tys] <;> exact seeaaf21
theorem pAdmit1 (s : LR) (P : List (Int × Int)) (h m e : Int) (k : Int) (ok : LR.Ok s) : PCalls Try.prog 59 [ST 1 (xLru s) P h m e, .sc (.int .u64 k)] (.tup [ST 1 (xLru (LR.mk s.C (lruAdmit s.C s.L k), lruGone s.C s.L k).1) P h m e, .lst 1 (U (LR.mk s.C (lruAdmit s.C s.L k), lruGone s.C s.L k).2)]) := by
  have ok : LruOk s.C s.L := ok
  have h1 := ok.len
  have h2 := ok.c1
  have h3 := ok.c0
  have hc := rLAdmit s.C s.L k (by omega) (by omega) (by omega)
  try rw [hcc] at hc
  clear ok h1 h2 h3
  simp only
  refine PCalls.intro2 Try.func59 rfl rfl Try.ntmps59 Try.results59 (by simp) fun n => ?_; simp (maxSteps := 400000) (dsimp := false) only [axs, axw, aresL, afill, Value.oneCell', Nat.reduceLT, Nat.reduceLeDiff, Nat.reduceEqDiff, Nat.reduceAdd, Nat.reduceMul, Nat.reduceSub, Nat.reduceBEq, Int.reduceLE, Int.reduceLT, Int.reduceToNat, Int.reduceNeg, Int.reduceEq, axt, ftK, ft3, AAll, ftQ, ST, xLru, S2, tys]
  refine ACallK.strict rfl (hc) (by simp only [SeesL, axs, axt, AS.ev, AS.put, upd, inHeap, Nat.reduceLT, Nat.reduceEqDiff, Nat.reduceAdd, Nat.reduceBEq, ST, xLru, S2]; exact seeaaf20) ?_; simp (maxSteps := 400000) (dsimp := false) only [axs, axw, aresL, afill, Value.oneCell', Nat.reduceLT, Nat.reduceLeDiff, Nat.reduceEqDiff, Nat.reduceAdd, Nat.reduceMul, Nat.reduceSub, Nat.reduceBEq, Int.reduceLE, Int.reduceLT, Int.reduceToNat, Int.reduceNeg, Int.reduceEq, axt, ftK, ft3, AAll, ftQ, ST, xLru, S2, tys]
  refine ⟨_, rfl, ?_⟩; simp (maxSteps := 400000) (dsimp := false) only [SeesL, axs, axw, aresL, afill, Value.oneCell', Nat.reduceLT, Nat.reduceLeDiff, Nat.reduceEqDiff, Nat.reduceAdd, Nat.reduceMul, Nat.reduceSub, Nat.reduceBEq, Int.reduceLE, Int.reduceLT, Int.reduceToNat, Int.reduceNeg, Int.reduceEq, axt, ftK, ft3, AAll, ftQ, ST, xLru, S2, tys] <;> exact seeaaf21
theorem pResize1 (s : LR) (P : List (Int × Int)) (h m e : Int) (c : Int) (ok : LR.Ok s) (c0 : 1 ≤ c) (c1 : c ≤ 14) : PCalls Try.prog 39 [ST 1 (xLru s) P h m e, .sc (.int .i64 c)] (.tup [ST 1 (xLru (LR.mk c (cutTo s.L c), fallen s.L c).1) P h m e, .lst 1 (U (LR.mk c (cutTo s.L c), fallen s.L c).2)]) := by
  have ok : LruOk s.C s.L := ok
  have h1 := ok.len
  have h2 := ok.c1
  have h3 := ok.c0
  have hcc := capOf_same c0 (by omega)
  have hc := rLResize s.C s.L c (by omega)
  try rw [hcc] at hc
  clear ok h1 h2 h3
  simp only
  refine PCalls.intro2 Try.func39 rfl rfl Try.ntmps39 Try.results39 (by simp) fun n => ?_; simp (maxSteps := 400000) (dsimp := false) only [axs, axw, aresL, afill, Value.oneCell', Nat.reduceLT, Nat.reduceLeDiff, Nat.reduceEqDiff, Nat.reduceAdd, Nat.reduceMul, Nat.reduceSub, Nat.reduceBEq, Int.reduceLE, Int.reduceLT, Int.reduceToNat, Int.reduceNeg, Int.reduceEq, axt, ftK, ft3, AAll, ftQ, ST, xLru, S2, tys]
  refine ACallK.strict rfl (hc) (by simp only [SeesL, axs, axt, AS.ev, AS.put, upd, inHeap, Nat.reduceLT, Nat.reduceEqDiff, Nat.reduceAdd, Nat.reduceBEq, ST, xLru, S2]; exact seeaaf20) ?_; simp (maxSteps := 400000) (dsimp := false) only [axs, axw, aresL, afill, Value.oneCell', Nat.reduceLT, Nat.reduceLeDiff, Nat.reduceEqDiff, Nat.reduceAdd, Nat.reduceMul, Nat.reduceSub, Nat.reduceBEq, Int.reduceLE, Int.reduceLT, Int.reduceToNat, Int.reduceNeg, Int.reduceEq, axt, ftK, ft3, AAll, ftQ, ST, xLru, S2, tys]
  refine ⟨_, rfl, ?_⟩; simp (maxSteps := 400000) (dsimp := false) only [SeesL, axs, axw, aresL, afill, Value.oneCell', Nat.reduceLT, Nat.reduceLeDiff, Nat.reduceEqDiff, Nat.reduceAdd, Nat.reduceMul, Nat.reduceSub, Nat.reduceBEq, Int.reduceLE, Int.reduceLT, Int.reduceToNat, Int.reduceNeg, Int.reduceEq, axt, ftK, ft3, AAll, ftQ, ST, xLru, S2, tys] <;> exact seeaaf21
end Go.Al
