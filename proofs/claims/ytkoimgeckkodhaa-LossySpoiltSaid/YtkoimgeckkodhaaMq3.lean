/- A cache of one policy, by the reference: the policy's functions. Conditions: the state is one that comes up. -/
import Derived.Test.YtkoimgeckkodhaaMp1
import Derived.Test.YtkoimgeckkodhaaTr5
set_option linter.unusedVariables false
set_option linter.unusedSimpArgs false
set_option maxRecDepth 20000
set_option maxHeartbeats 6400000
-- axs, axw, aresL, afill, Value.oneCell', Nat.reduceLT, Nat.reduceLeDiff, Nat.reduceEqDiff, Nat.reduceAdd, Nat.reduceMul, Nat.reduceSub, Nat.reduceBEq, Int.reduceLE, Int.reduceLT, Int.reduceToNat, Int.reduceNeg, Int.reduceEq, axt, ftK, ft3, AAll, ftQ, ST, xSth, T3, tys: ST, xSth, T3
-- NOIDS: noIdsE_PR, NV.ok', noIdsE_I3
-- LENS: PR_len
namespace Go.Al
open Go.Proofs
def xSth (s : S3) : X19 := ⟨⟨.sc (.int .i64 0), rfl⟩, ⟨.sc (.slice none 0 0), rfl⟩, ⟨.sc (.int .i64 0), rfl⟩, ⟨.sc (.slice none 0 0), rfl⟩, ⟨.sc (.slice none 0 0), rfl⟩, ⟨.sc (.slice none 0 0), rfl⟩, ⟨.sc (.int .i64 s.C), rfl⟩, ⟨.lst 2 (I3 s.S), by simp [noIds, noIdsE_I3]⟩, ⟨.lst 2 (I3 s.M), by simp [noIds, noIdsE_I3]⟩, ⟨.lst 1 (U s.G), by simp [noIds, noIdsE_U]⟩, ⟨.sc (.int .i64 0), rfl⟩, ⟨.sc (.int .i64 0), rfl⟩, ⟨.sc (.slice none 0 0), rfl⟩, ⟨.sc (.slice none 0 0), rfl⟩, ⟨.sc (.slice none 0 0), rfl⟩, ⟨.sc (.slice none 0 0), rfl⟩, ⟨.sc (.int .i64 0), rfl⟩, ⟨.sc (.slice none 0 0), rfl⟩, ⟨.sc (.slice none 0 0), rfl⟩⟩
theorem seef2df0 {p : Prop} (h : p := by repeat' (first | exact True.intro | exact Sees.sc | exact Sees.none | ((with_reducible refine Sees.same ?_) <;> simp [noIds, noIdsL, noIdsE, noIdsE_U, noIdsE_UU, noIdsE_PR, NV.ok', noIdsE_I3] <;> fail) | (refine Live.sees ?_ ?_ <;> first | assumption | (simp [noIdsE_U, noIdsE_UU, noIdsE_PR, NV.ok', noIdsE_I3] <;> fail)) | (refine Sees.obj ?_ ?_ ?_ <;> first | exact ⟨_, _, by assumption, rfl⟩ | (simp [U_len, UU_len, PR_len] <;> fail) | (simp [noIdsE_U, noIdsE_UU, noIdsE_PR, NV.ok', noIdsE_I3] <;> fail) | (simp [U, UU, upd] <;> fail) | (simp [U, UU, upd, neS, *] <;> fail)) | (refine Sees.of_seen 3 ?_ <;> simp [seen, upd, noIdsE, noIdsL, noIds, U, UU, Nat.add_assoc] <;> fail) | refine Sees.agg ?_ | refine And.intro ?_ ?_ | simp only [SeesL])) : p := h
theorem seef2df1 {p : Prop} (h : p := by repeat' (first | exact True.intro | exact Sees.sc | exact Sees.none | ((with_reducible refine Sees.same ?_) <;> simp [noIds, noIdsL, noIdsE, noIdsE_U, noIdsE_UU, noIdsE_PR, NV.ok', noIdsE_I3] <;> fail) | (refine Live.sees ?_ ?_ <;> first | assumption | (simp [noIdsE_U, noIdsE_UU, noIdsE_PR, NV.ok', noIdsE_I3] <;> fail)) | (refine Sees.obj ?_ ?_ ?_ <;> first | exact ⟨_, _, by assumption, rfl⟩ | (simp [U_len, UU_len, PR_len] <;> fail) | (simp [noIdsE_U, noIdsE_UU, noIdsE_PR, NV.ok', noIdsE_I3] <;> fail) | (simp [U, UU, upd, neS] <;> fail) | (simp [U, UU, upd, neS, *] <;> fail)) | refine Sees.agg ?_ | refine Sees.tup ?_ | refine And.intro ?_ ?_ | simp only [SeesL])) : p := h
theorem pNew3 (c : Int) (c0 : 1 ≤ c) (c1 : c ≤ 14) : PCalls Try.prog 20 [.sc (.int .i64 3), .sc (.int .i64 c)] (ST 3 (xSth ⟨c, [], [], []⟩) [] 0 0 0) := by
  have hc := r3New c
  rw [capOf_same c0 (by omega)] at hc
  have z1 : ¬ (3 : Int) = 1 := by omega
  have z2 : ¬ (3 : Int) = 2 := by omega
  refine PCalls.intro2 Try.func20 rfl rfl Try.ntmps20 Try.results20 (by simp) fun n => ?_; simp (maxSteps := 400000) (dsimp := false) only [z1, z2, axs, axw, aresL, afill, Value.oneCell', Nat.reduceLT, Nat.reduceLeDiff, Nat.reduceEqDiff, Nat.reduceAdd, Nat.reduceMul, Nat.reduceSub, Nat.reduceBEq, Int.reduceLE, Int.reduceLT, Int.reduceToNat, Int.reduceNeg, Int.reduceEq, axt, ftK, ft3, AAll, ftQ, ST, xSth, T3, tys]
  refine ACallK.strict rfl (hc) (by simp only [SeesL, axs, axt, AS.ev, AS.put, upd, inHeap, Nat.reduceLT, Nat.reduceEqDiff, Nat.reduceAdd, Nat.reduceBEq, ST, xSth, T3]; exact seef2df0) ?_; simp (maxSteps := 400000) (dsimp := false) only [axs, axw, aresL, afill, Value.oneCell', Nat.reduceLT, Nat.reduceLeDiff, Nat.reduceEqDiff, Nat.reduceAdd, Nat.reduceMul, Nat.reduceSub, Nat.reduceBEq, Int.reduceLE, Int.reduceLT, Int.reduceToNat, Int.reduceNeg, Int.reduceEq, axt, ftK, ft3, AAll, ftQ, ST, xSth, T3, tys]
  refine ⟨_, rfl, ?_⟩; simp (maxSteps := 400000) (dsimp := false) only [SeesL, axs, axw, aresL, afill, Value.oneCell', Nat.reduceLT, Nat.reduceLeDiff, Nat.reduceEqDiff, Nat.reduceAdd, Nat.reduceMul, Nat.reduceSub, Nat.reduceBEq, Int.reduceLE, Int.reduceLT, Int.reduceToNat, Int.reduceNeg, Int.reduceEq, axt, ftK, ft3, AAll, ftQ, ST, xSth, T3, tys] <;> exact seef2df1
theorem pKeys3 (s : S3) (P : List (Int × Int)) (h m e : Int) (ok : S3Ok s) : PCalls Try.prog 32 [ST 3 (xSth s) P h m e] (.lst 1 (U (ks3 s))) := by
  have hc := r3Keys s ok
  clear ok
  generalize ks3 s = K at *
  have z1 : ¬ (3 : Int) = 1 := by omega
  have z2 : ¬ (3 : Int) = 2 := by omega
  refine PCalls.intro2 Try.func32 rfl rfl Try.ntmps32 Try.results32 (by simp) fun n => ?_; simp (maxSteps := 400000) (dsimp := false) only [z1, z2, axs, axw, aresL, afill, Value.oneCell', Nat.reduceLT, Nat.reduceLeDiff, Nat.reduceEqDiff, Nat.reduceAdd, Nat.reduceMul, Nat.reduceSub, Nat.reduceBEq, Int.reduceLE, Int.reduceLT, Int.reduceToNat, Int.reduceNeg, Int.reduceEq, axt, ftK, ft3, AAll, ftQ, ST, xSth, T3, tys]
  refine ACallK.strict rfl (hc) (by simp only [SeesL, axs, axt, AS.ev, AS.put, upd, inHeap, Nat.reduceLT, Nat.reduceEqDiff, Nat.reduceAdd, Nat.reduceBEq, ST, xSth, T3]; exact seef2df0) ?_; simp (maxSteps := 400000) (dsimp := false) only [axs, axw, aresL, afill, Value.oneCell', Nat.reduceLT, Nat.reduceLeDiff, Nat.reduceEqDiff, Nat.reduceAdd, Nat.reduceMul, Nat.reduceSub, Nat.reduceBEq, Int.reduceLE, Int.reduceLT, Int.reduceToNat, Int.reduceNeg, Int.reduceEq, axt, ftK, ft3, AAll, ftQ, ST, xSth, T3, tys]
  refine ⟨_, rfl, ?_⟩; simp (maxSteps := 400000) (dsimp := false) only [SeesL, axs, axw, aresL, afill, Value.oneCell', Nat.reduceLT, Nat.reduceLeDiff, Nat.reduceEqDiff, Nat.reduceAdd, Nat.reduceMul, Nat.reduceSub, Nat.reduceBEq, Int.reduceLE, Int.reduceLT, Int.reduceToNat, Int.reduceNeg, Int.reduceEq, axt, ftK, ft3, AAll, ftQ, ST, xSth, T3, tys] <;> exact seef2df1
theorem pTouch3 (s : S3) (P : List (Int × Int)) (h m e : Int) (k : Int) (ok : S3Ok s) : PCalls Try.prog 33 [ST 3 (xSth s) P h m e, .sc (.int .u64 k)] (ST 3 (xSth (s3Touch s k)) P h m e) := by
  have hc := r3Touch s k ok
  clear ok
  generalize s3Touch s k = R at *
  have z1 : ¬ (3 : Int) = 1 := by omega
  have z2 : ¬ (3 : Int) = 2 := by omega
  refine PCalls.intro2 Try.func33 rfl rfl Try.ntmps33 Try.results33 (by simp) fun n => ?_; simp (maxSteps := 400000) (dsimp := false) only [z1, z2, axs, axw, aresL, afill, Value.oneCell', Nat.reduceLT, Nat.reduceLeDiff, Nat.reduceEqDiff, Nat.reduceAdd, Nat.reduceMul, Nat.reduceSub, Nat.reduceBEq, Int.reduceLE, Int.reduceLT, Int.reduceToNat, Int.reduceNeg, Int.reduceEq, axt, ftK, ft3, AAll, ftQ, ST, xSth, T3, tys]
  refine ACallK.strict rfl (hc) (by simp only [SeesL, axs, axt, AS.ev, AS.put, upd, inHeap, Nat.reduceLT, Nat.reduceEqDiff, Nat.reduceAdd, Nat.reduceBEq, ST, xSth, T3]; exact seef2df0) ?_; simp (maxSteps := 400000) (dsimp := false) only [axs, axw, aresL, afill, Value.oneCell', Nat.reduceLT, Nat.reduceLeDiff, Nat.reduceEqDiff, Nat.reduceAdd, Nat.reduceMul, Nat.reduceSub, Nat.reduceBEq, Int.reduceLE, Int.reduceLT, Int.reduceToNat, Int.reduceNeg, Int.reduceEq, axt, ftK, ft3, AAll, ftQ, ST, xSth, T3, tys]
  refine ⟨_, rfl, ?_⟩; simp (maxSteps := 400000) (dsimp := false) only [SeesL, axs, axw, aresL, afill, Value.oneCell', Nat.reduceLT, Nat.reduceLeDiff, Nat.reduceEqDiff, Nat.reduceAdd, Nat.reduceMul, Nat.reduceSub, Nat.reduceBEq, Int.reduceLE, Int.reduceLT, Int.reduceToNat, Int.reduceNeg, Int.reduceEq, axt, ftK, ft3, AAll, ftQ, ST, xSth, T3, tys] <;> exact seef2df1
theorem pDrop3 (s : S3) (P : List (Int × Int)) (h m e : Int) (k : Int) (ok : S3Ok s) : PCalls Try.prog 37 [ST 3 (xSth s) P h m e, .sc (.int .u64 k)] (ST 3 (xSth (s3Drop s k)) P h m e) := by
  have hc := r3Drop s k ok
  clear ok
  generalize s3Drop s k = R at *
  have z1 : ¬ (3 : Int) = 1 := by omega
  have z2 : ¬ (3 : Int) = 2 := by omega
  refine PCalls.intro2 Try.func37 rfl rfl Try.ntmps37 Try.results37 (by simp) fun n => ?_; simp (maxSteps := 400000) (dsimp := false) only [z1, z2, axs, axw, aresL, afill, Value.oneCell', Nat.reduceLT, Nat.reduceLeDiff, Nat.reduceEqDiff, Nat.reduceAdd, Nat.reduceMul, Nat.reduceSub, Nat.reduceBEq, Int.reduceLE, Int.reduceLT, Int.reduceToNat, Int.reduceNeg, Int.reduceEq, axt, ftK, ft3, AAll, ftQ, ST, xSth, T3, tys]
  refine ACallK.strict rfl (hc) (by simp only [SeesL, axs, axt, AS.ev, AS.put, upd, inHeap, Nat.reduceLT, Nat.reduceEqDiff, Nat.reduceAdd, Nat.reduceBEq, ST, xSth, T3]; exact seef2df0) ?_; simp (maxSteps := 400000) (dsimp := false) only [axs, axw, aresL, afill, Value.oneCell', Nat.reduceLT, Nat.reduceLeDiff, Nat.reduceEqDiff, Nat.reduceAdd, Nat.reduceMul, Nat.reduceSub, Nat.reduceBEq, Int.reduceLE, Int.reduceLT, Int.reduceToNat, Int.reduceNeg, Int.reduceEq, axt, ftK, ft3, AAll, ftQ, ST, xSth, T3, tys]
  refine ⟨_, rfl, ?_⟩; simp (maxSteps := 400000) (dsimp := false) only [SeesL, axs, axw, aresL, afill, Value.oneCell', Nat.reduceLT, Nat.reduceLeDiff, Nat.reduceEqDiff, Nat.reduceAdd, Nat.reduceMul, Nat.reduceSub, Nat.reduceBEq, Int.reduceLE, Int.reduceLT, Int.reduceToNat, Int.reduceNeg, Int.reduceEq, axt, ftK, ft3, AAll, ftQ, ST, xSth, T3, tys] <;> exact seef2df1
theorem pAdmit3 (s : S3) (P : List (Int × Int)) (h m e : Int) (k : Int) (ok : S3Ok s) : PCalls Try.prog 59 [ST 3 (xSth s) P h m e, .sc (.int .u64 k)] (.tup [ST 3 (xSth (s3Admit s k).1) P h m e, .lst 1 (U (s3Admit s k).2)]) := by
  have hc := r3Admit s k ok
  clear ok
  generalize s3Admit s k = R at *
  have z1 : ¬ (3 : Int) = 1 := by omega
  have z2 : ¬ (3 : Int) = 2 := by omega
  refine PCalls.intro2 Try.func59 rfl rfl Try.ntmps59 Try.results59 (by simp) fun n => ?_; simp (maxSteps := 400000) (dsimp := false) only [z1, z2, axs, axw, aresL, afill, Value.oneCell', Nat.reduceLT, Nat.reduceLeDiff, Nat.reduceEqDiff, Nat.reduceAdd, Nat.reduceMul, Nat.reduceSub, Nat.reduceBEq, Int.reduceLE, Int.reduceLT, Int.reduceToNat, Int.reduceNeg, Int.reduceEq, axt, ftK, ft3, AAll, ftQ, ST, xSth, T3, tys]
  refine ACallK.strict rfl (hc) (by simp only [SeesL, axs, axt, AS.ev, AS.put, upd, inHeap, Nat.reduceLT, Nat.reduceEqDiff, Nat.reduceAdd, Nat.reduceBEq, ST, xSth, T3]; exact seef2df0) ?_; simp (maxSteps := 400000) (dsimp := false) only [axs, axw, aresL, afill, Value.oneCell', Nat.reduceLT, Nat.reduceLeDiff, Nat.reduceEqDiff, Nat.reduceAdd, Nat.reduceMul, Nat.reduceSub, Nat.reduceBEq, Int.reduceLE, Int.reduceLT, Int.reduceToNat, Int.reduceNeg, Int.reduceEq, axt, ftK, ft3, AAll, ftQ, ST, xSth, T3, tys]
  refine ⟨_, rfl, ?_⟩; simp (maxSteps := 400000) (dsimp := false) only [SeesL, axs, axw, aresL, afill, Value.oneCell', Nat.reduceLT, Nat.reduceLeDiff, Nat.reduceEqDiff, Nat.reduceAdd, Nat.reduceMul, Nat.reduceSub, Nat.reduceBEq, Int.reduceLE, Int.reduceLT, Int.reduceToNat, Int.reduceNeg, Int.reduceEq, axt, ftK, ft3, AAll, ftQ, ST, xSth, T3, tys] <;> exact seef2df1
theorem pResize3 (s : S3) (P : List (Int × Int)) (h m e : Int) (c : Int) (ok : S3Ok s) (c0 : 1 ≤ c) (c1 : c ≤ 14) : PCalls Try.prog 39 [ST 3 (xSth s) P h m e, .sc (.int .i64 c)] (.tup [ST 3 (xSth (s3Resize s c).1) P h m e, .lst 1 (U (s3Resize s c).2)]) := by
  have hcc := capOf_same c0 (by omega)
  have hc := r3Resize s c ok (by omega) (by omega)
  clear ok
  generalize s3Resize s c = R at *
  have z1 : ¬ (3 : Int) = 1 := by omega
  have z2 : ¬ (3 : Int) = 2 := by omega
  refine PCalls.intro2 Try.func39 rfl rfl Try.ntmps39 Try.results39 (by simp) fun n => ?_; simp (maxSteps := 400000) (dsimp := false) only [z1, z2, axs, axw, aresL, afill, Value.oneCell', Nat.reduceLT, Nat.reduceLeDiff, Nat.reduceEqDiff, Nat.reduceAdd, Nat.reduceMul, Nat.reduceSub, Nat.reduceBEq, Int.reduceLE, Int.reduceLT, Int.reduceToNat, Int.reduceNeg, Int.reduceEq, axt, ftK, ft3, AAll, ftQ, ST, xSth, T3, tys]
  refine ACallK.strict rfl (hc) (by simp only [SeesL, axs, axt, AS.ev, AS.put, upd, inHeap, Nat.reduceLT, Nat.reduceEqDiff, Nat.reduceAdd, Nat.reduceBEq, ST, xSth, T3]; exact seef2df0) ?_; simp (maxSteps := 400000) (dsimp := false) only [axs, axw, aresL, afill, Value.oneCell', Nat.reduceLT, Nat.reduceLeDiff, Nat.reduceEqDiff, Nat.reduceAdd, Nat.reduceMul, Nat.reduceSub, Nat.reduceBEq, Int.reduceLE, Int.reduceLT, Int.reduceToNat, Int.reduceNeg, Int.reduceEq, axt, ftK, ft3, AAll, ftQ, ST, xSth, T3, tys]
  refine ⟨_, rfl, ?_⟩; simp (maxSteps := 400000) (dsimp := false) only [SeesL, axs, axw, aresL, afill, Value.oneCell', Nat.reduceLT, Nat.reduceLeDiff, Nat.reduceEqDiff, Nat.reduceAdd, Nat.reduceMul, Nat.reduceSub, Nat.reduceBEq, Int.reduceLE, Int.reduceLT, Int.reduceToNat, Int.reduceNeg, Int.reduceEq, axt, ftK, ft3, AAll, ftQ, ST, xSth, T3, tys] <;> exact seef2df1
end Go.Al
