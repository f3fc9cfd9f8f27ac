/- A cache of one policy, by the reference: the policy's functions. Conditions: the state is one that comes up. -/
import Derived.Test.YtkoimgeckkodhaaMp1
import Derived.Test.YtkoimgeckkodhaaRqD
set_option linter.unusedVariables false
set_option linter.unusedSimpArgs false
set_option maxRecDepth 20000
set_option maxHeartbeats 6400000
-- axs, axw, aresL, afill, Value.oneCell', Nat.reduceLT, Nat.reduceLeDiff, Nat.reduceEqDiff, Nat.reduceAdd, Nat.reduceMul, Nat.reduceSub, Nat.reduceBEq, Int.reduceLE, Int.reduceLT, Int.reduceToNat, Int.reduceNeg, Int.reduceEq, axt, ftK, ft3, AAll, ftQ, ST, xTwo, S4, tys: ST, xTwo, S4
-- NOIDS: noIdsE_PR, NV.ok'
-- LENS: PR_len
namespace Go.Al
open Go.Proofs
structure TT where
  C : Int
  q : TQ
def TT.Ok (s : TT) : Prop := TqOk s.C s.q
theorem two_len {C : Int} {s : TQ} (h : TqOk C s) : 1 ≤ C ∧ C ≤ 14 ∧ s.I.length ≤ 14 ∧ s.M.length ≤ 14 ∧ s.O.length ≤ 14 ∧ s.I.length + s.M.length ≤ 14 := by
  have h1 := h.c0
  have h2 := h.c1
  have h3 := h.half
  have h4 : C.tdiv 2 ≤ C := Int.tdiv_le_self _ (by omega)
  have h5 := h.len
  omega
def xTwo (s : TT) : X19 := ⟨⟨.sc (.int .i64 0), rfl⟩, ⟨.sc (.slice none 0 0), rfl⟩, ⟨.sc (.int .i64 s.C), rfl⟩, ⟨.lst 1 (U s.q.I), by simp [noIds, noIdsE_U]⟩, ⟨.lst 1 (U s.q.O), by simp [noIds, noIdsE_U]⟩, ⟨.lst 1 (U s.q.M), by simp [noIds, noIdsE_U]⟩, ⟨.sc (.int .i64 0), rfl⟩, ⟨.sc (.slice none 0 0), rfl⟩, ⟨.sc (.slice none 0 0), rfl⟩, ⟨.sc (.slice none 0 0), rfl⟩, ⟨.sc (.int .i64 0), rfl⟩, ⟨.sc (.int .i64 0), rfl⟩, ⟨.sc (.slice none 0 0), rfl⟩, ⟨.sc (.slice none 0 0), rfl⟩, ⟨.sc (.slice none 0 0), rfl⟩, ⟨.sc (.slice none 0 0), rfl⟩, ⟨.sc (.int .i64 0), rfl⟩, ⟨.sc (.slice none 0 0), rfl⟩, ⟨.sc (.slice none 0 0), rfl⟩⟩
theorem seea2c50 {p : Prop} (h : p := by repeat' (first | exact True.intro | exact Sees.sc | exact Sees.none | ((with_reducible refine Sees.same ?_) <;> simp [noIds, noIdsL, noIdsE, noIdsE_U, noIdsE_UU, noIdsE_PR, NV.ok'] <;> fail) | (refine Live.sees ?_ ?_ <;> first | assumption | (simp [noIdsE_U, noIdsE_UU, noIdsE_PR, NV.ok'] <;> fail)) | (refine Sees.obj ?_ ?_ ?_ <;> first | exact ⟨_, _, by assumption, rfl⟩ | (simp [U_len, UU_len, PR_len] <;> fail) | (simp [noIdsE_U, noIdsE_UU, noIdsE_PR, NV.ok'] <;> fail) | (simp [U, UU, upd] <;> fail) | (simp [U, UU, upd, neS, *] <;> fail)) | (refine Sees.of_seen 3 ?_ <;> simp [seen, upd, noIdsE, noIdsL, noIds, U, UU, Nat.add_assoc] <;> fail) | refine Sees.agg ?_ | refine And.intro ?_ ?_ | simp only [SeesL])) : p := h
theorem seea2c51 {p : Prop} (h : p := by repeat' (first | exact True.intro | exact Sees.sc | exact Sees.none | ((with_reducible refine Sees.same ?_) <;> simp [noIds, noIdsL, noIdsE, noIdsE_U, noIdsE_UU, noIdsE_PR, NV.ok'] <;> fail) | (refine Live.sees ?_ ?_ <;> first | assumption | (simp [noIdsE_U, noIdsE_UU, noIdsE_PR, NV.ok'] <;> fail)) | (refine Sees.obj ?_ ?_ ?_ <;> first | exact ⟨_, _, by assumption, rfl⟩ | (simp [U_len, UU_len, PR_len] <;> fail) | (simp [noIdsE_U, noIdsE_UU, noIdsE_PR, NV.ok'] <;> fail) | (simp [U, UU, upd, neS] <;> fail) | (simp [U, UU, upd, neS, *] <;> fail)) | refine Sees.agg ?_ | refine Sees.tup ?_ | refine And.intro ?_ ?_ | simp only [SeesL])) : p := h
theorem pNew2 (c : Int) (c0 : 1 ≤ c) (c1 : c ≤ 14) : PCalls Try.prog 20 [.sc (.int .i64 2), .sc (.int .i64 c)] (ST 2 (xTwo ⟨c, ⟨[], [], []⟩⟩) [] 0 0 0) := by
  have hc := rTNew c
  rw [capOf_same c0 (by omega)] at hc
  have z1 : ¬ (2 : Int) = 1 := by omega
  refine PCalls.intro2 Try.func20 rfl rfl Try.ntmps20 Try.results20 (by simp) fun n => ?_; simp (maxSteps := 400000) (dsimp := false) only [z1, axs, axw, aresL, afill, Value.oneCell', Nat.reduceLT, Nat.reduceLeDiff, Nat.reduceEqDiff, Nat.reduceAdd, Nat.reduceMul, Nat.reduceSub, Nat.reduceBEq, Int.reduceLE, Int.reduceLT, Int.reduceToNat, Int.reduceNeg, Int.reduceEq, axt, ftK, ft3, AAll, ftQ, ST, xTwo, S4, tys]
  refine ACallK.strict rfl (hc) (by simp only [SeesL, axs, axt, AS.ev, AS.put, upd, inHeap, Nat.reduceLT, Nat.reduceEqDiff, Nat.reduceAdd, Nat.reduceBEq, ST, xTwo, S4]; exact seea2c50) ?_; simp (maxSteps := 400000) (dsimp := false) only [axs, axw, aresL, afill, Value.oneCell', Nat.reduceLT, Nat.reduceLeDiff, Nat.reduceEqDiff, Nat.reduceAdd, Nat.reduceMul, Nat.reduceSub, Nat.reduceBEq, Int.reduceLE, Int.reduceLT, Int.reduceToNat, Int.reduceNeg, Int.reduceEq, axt, ftK, ft3, AAll, ftQ, ST, xTwo, S4, tys]
  refine ⟨_, rfl, ?_⟩; simp (maxSteps := 400000) (dsimp := false) only [SeesL, axs, axw, aresL, afill, Value.oneCell', Nat.reduceLT, Nat.reduceLeDiff, Nat.reduceEqDiff, Nat.reduceAdd, Nat.reduceMul, Nat.reduceSub, Nat.reduceBEq, Int.reduceLE, Int.reduceLT, Int.reduceToNat, Int.reduceNeg, Int.reduceEq, axt, ftK, ft3, AAll, ftQ, ST, xTwo, S4, tys] <;> exact seea2c51
theorem pKeys2 (s : TT) (P : List (Int × Int)) (h m e : Int) (ok : TT.Ok s) : PCalls Try.prog 32 [ST 2 (xTwo s) P h m e] (.lst 1 (U (s.q.I ++ s.q.M))) := by
  have ok : TqOk s.C s.q := ok
  obtain ⟨h1, h2, h3, h4, h5, h6⟩ := two_len ok
  have hc := rTKeys s.C s.q.I s.q.O s.q.M (by omega) (by omega)
  clear ok h1 h2 h3 h4 h5 h6
  have z1 : ¬ (2 : Int) = 1 := by omega
  refine PCalls.intro2 Try.func32 rfl rfl Try.ntmps32 Try.results32 (by simp) fun n => ?_; simp (maxSteps := 400000) (dsimp := false) only [z1, axs, axw, aresL, afill, Value.oneCell', Nat.reduceLT, Nat.reduceLeDiff, Nat.reduceEqDiff, Nat.reduceAdd, Nat.reduceMul, Nat.reduceSub, Nat.reduceBEq, Int.reduceLE, Int.reduceLT, Int.reduceToNat, Int.reduceNeg, Int.reduceEq, axt, ftK, ft3, AAll, ftQ, ST, xTwo, S4, tys]
  refine ACallK.strict rfl (hc) (by simp only [SeesL, axs, axt, AS.ev, AS.put, upd, inHeap, Nat.reduceLT, Nat.reduceEqDiff, Nat.reduceAdd, Nat.reduceBEq, ST, xTwo, S4]; exact seea2c50) ?_; simp (maxSteps := 400000) (dsimp := false) only [axs, axw, aresL, afill, Value.oneCell', Nat.reduceLT, Nat.reduceLeDiff, Nat.reduceEqDiff, Nat.reduceAdd, Nat.reduceMul, Nat.reduceSub, Nat.reduceBEq, Int.reduceLE, Int.reduceLT, Int.reduceToNat, Int.reduceNeg, Int.reduceEq, axt, ftK, ft3, AAll, ftQ, ST, xTwo, S4, tys]
  refine ⟨_, rfl, ?_⟩; simp (maxSteps := 400000) (dsimp := false) only [SeesL, axs, axw, aresL, afill, Value.oneCell', Nat.reduceLT, Nat.reduceLeDiff, Nat.reduceEqDiff, Nat.reduceAdd, Nat.reduceMul, Nat.reduceSub, Nat.reduceBEq, Int.reduceLE, Int.reduceLT, Int.reduceToNat, Int.reduceNeg, Int.reduceEq, axt, ftK, ft3, AAll, ftQ, ST, xTwo, S4, tys] <;> exact seea2c51
theorem pTouch2 (s : TT) (P : List (Int × Int)) (h m e : Int) (k : Int) (ok : TT.Ok s) : PCalls Try.prog 33 [ST 2 (xTwo s) P h m e, .sc (.int .u64 k)] (ST 2 (xTwo (TT.mk s.C (tqTouch s.q k))) P h m e) := by
  have ok : TqOk s.C s.q := ok
  obtain ⟨h1, h2, h3, h4, h5, h6⟩ := two_len ok
  have hc := rTTouch s.C s.q.I s.q.O s.q.M k (by omega) (by omega) (by omega)
  clear ok h1 h2 h3 h4 h5 h6
  have z1 : ¬ (2 : Int) = 1 := by omega
  refine PCalls.intro2 Try.func33 rfl rfl Try.ntmps33 Try.results33 (by simp) fun n => ?_; simp (maxSteps := 400000) (dsimp := false) only [z1, axs, axw, aresL, afill, Value.oneCell', Nat.reduceLT, Nat.reduceLeDiff, Nat.reduceEqDiff, Nat.reduceAdd, Nat.reduceMul, Nat.reduceSub, Nat.reduceBEq, Int.reduceLE, Int.reduceLT, Int.reduceToNat, Int.reduceNeg, Int.reduceEq, axt, ftK, ft3, AAll, ftQ, ST, xTwo, S4, tys]
  refine ACallK.strict rfl (hc) (by simp only [SeesL, axs, axt, AS.ev, AS.put, upd, inHeap, Nat.reduceLT, Nat.reduceEqDiff, Nat.reduceAdd, Nat.reduceBEq, ST, xTwo, S4]; exact seea2c50) ?_; simp (maxSteps := 400000) (dsimp := false) only [axs, axw, aresL, afill, Value.oneCell', Nat.reduceLT, Nat.reduceLeDiff, Nat.reduceEqDiff, Nat.reduceAdd, Nat.reduceMul, Nat.reduceSub, Nat.reduceBEq, Int.reduceLE, Int.reduceLT, Int.reduceToNat, Int.reduceNeg, Int.reduceEq, axt, ftK, ft3, AAll, ftQ, ST, xTwo, S4, tys]
  refine ⟨_, rfl, ?_⟩; simp (maxSteps := 400000) (dsimp := false) only [SeesL, axs, axw, aresL, afill, Value.oneCell', Nat.reduceLT, Nat.reduceLeDiff, Nat.reduceEqDiff, Nat.reduceAdd, Nat.reduceMul, Nat.reduceSub, Nat.reduceBEq, Int.reduceLE, Int.reduceLT, Int.reduceToNat, Int.reduceNeg, Int.reduceEq, axt, ftK, ft3, AAll, ftQ, ST, xTwo, S4, tys] <;> exact seea2c51
theorem pDrop2 (s : TT) (P : List (Int × Int)) (h m e : Int) (k : Int) (ok : TT.Ok s) : PCalls Try.prog 37 [ST 2 (xTwo s) P h m e, .sc (.int .u64 k)] (ST 2 (xTwo (TT.mk s.C ⟨without s.q.I k, without s.q.O k, without s.q.M k⟩)) P h m e) := by
  have ok : TqOk s.C s.q := ok
  obtain ⟨h1, h2, h3, h4, h5, h6⟩ := two_len ok
  have hc := rTDrop s.C s.q.I s.q.O s.q.M k (by omega) (by omega) (by omega)
  clear ok h1 h2 h3 h4 h5 h6
  have z1 : ¬ (2 : Int) = 1 := by omega
  refine PCalls.intro2 Try.func37 rfl rfl Try.ntmps37 Try.results37 (by simp) fun n => ?_; simp (maxSteps := 400000) (dsimp := false) only [z1, axs, axw, aresL, afill, Value.oneCell', Nat.reduceLT, Nat.reduceLeDiff, Nat.reduceEqDiff, Nat.reduceAdd, Nat.reduceMul, Nat.reduceSub, Nat.reduceBEq, Int.reduceLE, Int.reduceLT, Int.reduceToNat, Int.reduceNeg, Int.reduceEq, axt, ftK, ft3, AAll, ftQ, ST, xTwo, S4, tys]
  refine ACallK.strict rfl (hc) (by simp only [SeesL, axs, axt, AS.ev, AS.put, upd, inHeap, Nat.reduceLT, Nat.reduceEqDiff, Nat.reduceAdd, Nat.reduceBEq, ST, xTwo, S4]; exact seea2c50) ?_; simp (maxSteps := 400000) (dsimp := false) only [axs, axw, aresL, afill, Value.oneCell', Nat.reduceLT, Nat.reduceLeDiff, Nat.reduceEqDiff, Nat.reduceAdd, Nat.reduceMul, Nat.reduceSub, Nat.reduceBEq, Int.reduceLE, Int.reduceLT, Int.reduceToNat, Int.reduceNeg, Int.reduceEq, axt, ftK, ft3, AAll, ftQ, ST, xTwo, S4, tys]
  refine ⟨_, rfl, ?_⟩; simp (maxSteps := 400000) (dsimp := false) only [SeesL, axs, axw, aresL, afill, Value.oneCell', Nat.reduceLT, Nat.reduceLeDiff, Nat.reduceEqDiff, Nat.reduceAdd, Nat.reduceMul, Nat.reduceSub, Nat.reduceBEq, Int.reduceLE, Int.reduceLT, Int.reduceToNat, Int.reduceNeg, Int.reduceEq, axt, ftK, ft3, AAll, ftQ, ST, xTwo, S4, tys] <;> exact seea2c51
theorem pAdmit2 (s : TT) (P : List (Int × Int)) (h m e : Int) (k : Int) (ok : TT.Ok s) : PCalls Try.prog 59 [ST 2 (xTwo s) P h m e, .sc (.int .u64 k)] (.tup [ST 2 (xTwo (TT.mk s.C (tqAdmit s.C s.q k).1, (tqAdmit s.C s.q k).2).1) P h m e, .lst 1 (U (TT.mk s.C (tqAdmit s.C s.q k).1, (tqAdmit s.C s.q k).2).2)]) := by
  have ok : TqOk s.C s.q := ok
  obtain ⟨h1, h2, h3, h4, h5, h6⟩ := two_len ok
  have hc := rTAdmit s.C s.q.I s.q.O s.q.M k (by omega) (by omega) (by omega) (by omega)
  try rw [hcc] at hc
  clear ok h1 h2 h3 h4 h5 h6
  simp only
  have z1 : ¬ (2 : Int) = 1 := by omega
  refine PCalls.intro2 Try.func59 rfl rfl Try.ntmps59 Try.results59 (by simp) fun n => ?_; simp (maxSteps := 400000) (dsimp := false) only [z1, axs, axw, aresL, afill, Value.oneCell', Nat.reduceLT, Nat.reduceLeDiff, Nat.reduceEqDiff, Nat.reduceAdd, Nat.reduceMul, Nat.reduceSub, Nat.reduceBEq, Int.reduceLE, Int.reduceLT, Int.reduceToNat, Int.reduceNeg, Int.reduceEq, axt, ftK, ft3, AAll, ftQ, ST, xTwo, S4, tys]
  refine ACallK.strict rfl (hc) (by simp only [SeesL, axs, axt, AS.ev, AS.put, upd, inHeap, Nat.reduceLT, Nat.reduceEqDiff, Nat.reduceAdd, Nat.reduceBEq, ST, xTwo, S4]; exact seea2c50) ?_; simp (maxSteps := 400000) (dsimp := false) only [axs, axw, aresL, afill, Value.oneCell', Nat.reduceLT, Nat.reduceLeDiff, Nat.reduceEqDiff, Nat.reduceAdd, Nat.reduceMul, Nat.reduceSub, Nat.reduceBEq, Int.reduceLE, Int.reduceLT, Int.reduceToNat, Int.reduceNeg, Int.reduceEq, axt, ftK, ft3, AAll, ftQ, ST, xTwo, S4, tys]
  refine ⟨_, rfl, ?_⟩; simp (maxSteps := 400000) (dsimp := false) only [SeesL, axs, axw, aresL, afill, Value.oneCell', Nat.reduceLT, Nat.reduceLeDiff, Nat.reduceEqDiff, Nat.reduceAdd, Nat.reduceMul, Nat.reduceSub, Nat.reduceBEq, Int.reduceLE, Int.reduceLT, Int.reduceToNat, Int.reduceNeg, Int.reduceEq, axt, ftK, ft3, AAll, ftQ, ST, xTwo, S4, tys] <;> exact seea2c51
theorem pResize2 (s : TT) (P : List (Int × Int)) (h m e : Int) (c : Int) (ok : TT.Ok s) (c0 : 1 ≤ c) (c1 : c ≤ 14) : PCalls Try.prog 39 [ST 2 (xTwo s) P h m e, .sc (.int .i64 c)] (.tup [ST 2 (xTwo (TT.mk c (tqResize s.q c).1, (tqResize s.q c).2).1) P h m e, .lst 1 (U (TT.mk c (tqResize s.q c).1, (tqResize s.q c).2).2)]) := by
  have ok : TqOk s.C s.q := ok
  obtain ⟨h1, h2, h3, h4, h5, h6⟩ := two_len ok
  have hcc := capOf_same c0 (by omega)
  have hc := rTResize s.C s.q.I s.q.O s.q.M c (by omega) (by omega)
  try rw [hcc] at hc
  clear ok h1 h2 h3 h4 h5 h6
  simp only
  have z1 : ¬ (2 : Int) = 1 := by omega
  refine PCalls.intro2 Try.func39 rfl rfl Try.ntmps39 Try.results39 (by simp) fun n => ?_; simp (maxSteps := 400000) (dsimp := false) only [z1, axs, axw, aresL, afill, Value.oneCell', Nat.reduceLT, Nat.reduceLeDiff, Nat.reduceEqDiff, Nat.reduceAdd, Nat.reduceMul, Nat.reduceSub, Nat.reduceBEq, Int.reduceLE, Int.reduceLT, Int.reduceToNat, Int.reduceNeg, Int.reduceEq, axt, ftK, ft3, AAll, ftQ, ST, xTwo, S4, tys]
  refine ACallK.strict rfl (hc) (by simp only [SeesL, axs, axt, AS.ev, AS.put, upd, inHeap, Nat.reduceLT, Nat.reduceEqDiff, Nat.reduceAdd, Nat.reduceBEq, ST, xTwo, S4]; exact seea2c50) ?_; simp (maxSteps := 400000) (dsimp := false) only [axs, axw, aresL, afill, Value.oneCell', Nat.reduceLT, Nat.reduceLeDiff, Nat.reduceEqDiff, Nat.reduceAdd, Nat.reduceMul, Nat.reduceSub, Nat.reduceBEq, Int.reduceLE, Int.reduceLT, Int.reduceToNat, Int.reduceNeg, Int.reduceEq, axt, ftK, ft3, AAll, ftQ, ST, xTwo, S4, tys]
  refine ⟨_, rfl, ?_⟩; simp (maxSteps := 400000) (dsimp := false) only [SeesL, axs, axw, aresL, afill, Value.oneCell', Nat.reduceLT, Nat.reduceLeDiff, Nat.reduceEqDiff, Nat.reduceAdd, Nat.reduceMul, Nat.reduceSub, Nat.reduceBEq, Int.reduceLE, Int.reduceLT, Int.reduceToNat, Int.reduceNeg, Int.reduceEq, axt, ftK, ft3, AAll, ftQ, ST, xTwo, S4, tys] <;> exact seea2c51
end Go.Al
