/- Lists of places, by the program: an act; new lists, by the program and by the reference. Conditions: the rows are short. -/
import Derived.Test.YtbmhdafmjekkiaaIn13
set_option linter.unusedVariables false
set_option linter.unusedSimpArgs false
set_option maxRecDepth 20000
set_option maxHeartbeats 1600000
-- axs, AThen, ABlock, dstsOk, AStep, callsF, AWant, aop, AS.ev, AS.put, upd, AS.bound, abin, aint, aload, astore, cellsAt, AV.cells, alen, elems, AV.int?, FPost, aresL, ares1, pack, afill, splice, Value.oneCell', Nat.reduceLT, Nat.reduceLeDiff, Nat.reduceEqDiff, Nat.reduceAdd, Nat.reduceMul, Nat.reduceSub, Nat.reduceBEq, Int.reduceLE, Int.reduceLT, Int.reduceToNat, Int.reduceNeg, Int.reduceEq, axt, ftK, ft3, pickP, AScope, AAll, pickQ, ftQ, inHeap, Nd.cells, RV, tys: Nd.cells, RV
-- NOIDS: noIdsE_I32, noIdsE_ND
-- LENS: I32_len, ND_len
namespace Go.Al
open Go.Proofs
structure LAct where
  kind : Int
  tag : Int
  i : Int
def LAct.cells (x : LAct) : List AV := [.sc (.int .u8 x.kind), .sc (.int .i64 x.tag), .sc (.int .i32 x.i)]
def doOk (R : RA) (rows : List Rw) (x : LAct) : Bool :=
  if x.kind.tmod 4 = 0 then layOk R rows x.tag x.i else if x.kind.tmod 4 = 1 then layOk R rows x.tag x.i else if x.kind.tmod 4 = 2 then offOk R rows x.i else mvOk R rows x.tag x.i
def doS (R : RA) (rows : List Rw) (x : LAct) : RA × List Rw :=
  if x.kind.tmod 4 = 0 then layS R rows x.tag 0 x.i (frontR rows x.tag) else if x.kind.tmod 4 = 1 then layS R rows x.tag (backR rows x.tag) x.i 0 else if x.kind.tmod 4 = 2 then offS R rows x.i else mvS R rows x.tag x.i
theorem cLsDo {H : AH} {n L r a s : Nat} {fv : AV} {R : RA} {rows : List Rw} (h : LsH H n L r a s fv R rows) (x : LAct) (g : Fine R rows x.i) (g2 : Fine (offS R rows x.i).1 (offS R rows x.i).2 x.i) :
    HCalls Try.prog 10 [.ptr L 2 0 0, .agg x.cells] H n fun v H' n' => v = .sc (.bool (doOk R rows x)) ∧ LsTo H n L r a s fv H' n' (doS R rows x).1 (doS R rows x).2 := by
  have h1 := h.new (x := some (.obj 37 3 [x.cells] false))
  by_cases k0 : x.kind.tmod 4 = 0
  · have e1 : doOk R rows x = layOk R rows x.tag x.i := if_pos k0
    have e2 : doS R rows x = layS R rows x.tag 0 x.i (frontR rows x.tag) := if_pos k0
    rw [e1, e2]
    refine HCalls.walk Try.func10 rfl rfl Try.ntmps10 Try.results10 (by simp) ?_; simp (maxSteps := 400000) (dsimp := false) only [LAct.cells, k0, axs, AThen, ABlock, dstsOk, AStep, callsF, AWant, aop, AS.ev, AS.put, upd, AS.bound, abin, aint, aload, astore, cellsAt, AV.cells, alen, elems, AV.int?, FPost, aresL, ares1, pack, afill, splice, Value.oneCell', Nat.reduceLT, Nat.reduceLeDiff, Nat.reduceEqDiff, Nat.reduceAdd, Nat.reduceMul, Nat.reduceSub, Nat.reduceBEq, Int.reduceLE, Int.reduceLT, Int.reduceToNat, Int.reduceNeg, Int.reduceEq, axt, ftK, ft3, pickP, AScope, AAll, pickQ, ftQ, inHeap, Nd.cells, RV, tys]
    refine ACallK.heap _ rfl (cLsPushFront h1 x.tag x.i g) ?_
    rintro v H2 n2 ⟨rfl, to⟩
    simp (maxSteps := 400000) (dsimp := false) only [axs, AThen, ABlock, dstsOk, AStep, callsF, AWant, aop, AS.ev, AS.put, upd, AS.bound, abin, aint, aload, astore, cellsAt, AV.cells, alen, elems, AV.int?, FPost, aresL, ares1, pack, afill, splice, Value.oneCell', Nat.reduceLT, Nat.reduceLeDiff, Nat.reduceEqDiff, Nat.reduceAdd, Nat.reduceMul, Nat.reduceSub, Nat.reduceBEq, Int.reduceLE, Int.reduceLT, Int.reduceToNat, Int.reduceNeg, Int.reduceEq, axt, ftK, ft3, pickP, AScope, AAll, pickQ, ftQ, inHeap, Nd.cells, RV, tys]
    exact ⟨_, rfl, rfl, to.new⟩
  · by_cases k1 : x.kind.tmod 4 = 1
    · have e1 : doOk R rows x = layOk R rows x.tag x.i := (if_neg k0).trans (if_pos k1)
      have e2 : doS R rows x = layS R rows x.tag (backR rows x.tag) x.i 0 := (if_neg k0).trans (if_pos k1)
      have k01 : ¬ (1 : Int) = 0 := by omega
      rw [e1, e2]
      refine HCalls.walk Try.func10 rfl rfl Try.ntmps10 Try.results10 (by simp) ?_; simp (maxSteps := 400000) (dsimp := false) only [LAct.cells, k1, k01, axs, AThen, ABlock, dstsOk, AStep, callsF, AWant, aop, AS.ev, AS.put, upd, AS.bound, abin, aint, aload, astore, cellsAt, AV.cells, alen, elems, AV.int?, FPost, aresL, ares1, pack, afill, splice, Value.oneCell', Nat.reduceLT, Nat.reduceLeDiff, Nat.reduceEqDiff, Nat.reduceAdd, Nat.reduceMul, Nat.reduceSub, Nat.reduceBEq, Int.reduceLE, Int.reduceLT, Int.reduceToNat, Int.reduceNeg, Int.reduceEq, axt, ftK, ft3, pickP, AScope, AAll, pickQ, ftQ, inHeap, Nd.cells, RV, tys]
      refine ACallK.heap _ rfl (cLsPushBack h1 x.tag x.i g) ?_
      rintro v H2 n2 ⟨rfl, to⟩
      simp (maxSteps := 400000) (dsimp := false) only [axs, AThen, ABlock, dstsOk, AStep, callsF, AWant, aop, AS.ev, AS.put, upd, AS.bound, abin, aint, aload, astore, cellsAt, AV.cells, alen, elems, AV.int?, FPost, aresL, ares1, pack, afill, splice, Value.oneCell', Nat.reduceLT, Nat.reduceLeDiff, Nat.reduceEqDiff, Nat.reduceAdd, Nat.reduceMul, Nat.reduceSub, Nat.reduceBEq, Int.reduceLE, Int.reduceLT, Int.reduceToNat, Int.reduceNeg, Int.reduceEq, axt, ftK, ft3, pickP, AScope, AAll, pickQ, ftQ, inHeap, Nd.cells, RV, tys]
      exact ⟨_, rfl, rfl, to.new⟩
    · by_cases k2 : x.kind.tmod 4 = 2
      · have e1 : doOk R rows x = offOk R rows x.i := (if_neg k0).trans ((if_neg k1).trans (if_pos k2))
        have e2 : doS R rows x = offS R rows x.i := (if_neg k0).trans ((if_neg k1).trans (if_pos k2))
        have k02 : ¬ (2 : Int) = 0 := by omega
        have k12 : ¬ (2 : Int) = 1 := by omega
        rw [e1, e2]
        refine HCalls.walk Try.func10 rfl rfl Try.ntmps10 Try.results10 (by simp) ?_; simp (maxSteps := 400000) (dsimp := false) only [LAct.cells, k2, k02, k12, axs, AThen, ABlock, dstsOk, AStep, callsF, AWant, aop, AS.ev, AS.put, upd, AS.bound, abin, aint, aload, astore, cellsAt, AV.cells, alen, elems, AV.int?, FPost, aresL, ares1, pack, afill, splice, Value.oneCell', Nat.reduceLT, Nat.reduceLeDiff, Nat.reduceEqDiff, Nat.reduceAdd, Nat.reduceMul, Nat.reduceSub, Nat.reduceBEq, Int.reduceLE, Int.reduceLT, Int.reduceToNat, Int.reduceNeg, Int.reduceEq, axt, ftK, ft3, pickP, AScope, AAll, pickQ, ftQ, inHeap, Nd.cells, RV, tys]
        refine ACallK.heap _ rfl (cLsRemove h1 x.i g) ?_
        rintro v H2 n2 ⟨rfl, to⟩
        simp (maxSteps := 400000) (dsimp := false) only [axs, AThen, ABlock, dstsOk, AStep, callsF, AWant, aop, AS.ev, AS.put, upd, AS.bound, abin, aint, aload, astore, cellsAt, AV.cells, alen, elems, AV.int?, FPost, aresL, ares1, pack, afill, splice, Value.oneCell', Nat.reduceLT, Nat.reduceLeDiff, Nat.reduceEqDiff, Nat.reduceAdd, Nat.reduceMul, Nat.reduceSub, Nat.reduceBEq, Int.reduceLE, Int.reduceLT, Int.reduceToNat, Int.reduceNeg, Int.reduceEq, axt, ftK, ft3, pickP, AScope, AAll, pickQ, ftQ, inHeap, Nd.cells, RV, tys]
        exact ⟨_, rfl, rfl, to.new⟩
      · have e1 : doOk R rows x = mvOk R rows x.tag x.i := (if_neg k0).trans ((if_neg k1).trans (if_neg k2))
        have e2 : doS R rows x = mvS R rows x.tag x.i := (if_neg k0).trans ((if_neg k1).trans (if_neg k2))
        rw [e1, e2]
        refine HCalls.walk Try.func10 rfl rfl Try.ntmps10 Try.results10 (by simp) ?_; simp (maxSteps := 400000) (dsimp := false) only [LAct.cells, k0, k1, k2, axs, AThen, ABlock, dstsOk, AStep, callsF, AWant, aop, AS.ev, AS.put, upd, AS.bound, abin, aint, aload, astore, cellsAt, AV.cells, alen, elems, AV.int?, FPost, aresL, ares1, pack, afill, splice, Value.oneCell', Nat.reduceLT, Nat.reduceLeDiff, Nat.reduceEqDiff, Nat.reduceAdd, Nat.reduceMul, Nat.reduceSub, Nat.reduceBEq, Int.reduceLE, Int.reduceLT, Int.reduceToNat, Int.reduceNeg, Int.reduceEq, axt, ftK, ft3, pickP, AScope, AAll, pickQ, ftQ, inHeap, Nd.cells, RV, tys]
        refine ACallK.heap _ rfl (cLsMove h1 x.tag x.i g g2) ?_
        rintro v H2 n2 ⟨rfl, to⟩
        simp (maxSteps := 400000) (dsimp := false) only [axs, AThen, ABlock, dstsOk, AStep, callsF, AWant, aop, AS.ev, AS.put, upd, AS.bound, abin, aint, aload, astore, cellsAt, AV.cells, alen, elems, AV.int?, FPost, aresL, ares1, pack, afill, splice, Value.oneCell', Nat.reduceLT, Nat.reduceLeDiff, Nat.reduceEqDiff, Nat.reduceAdd, Nat.reduceMul, Nat.reduceSub, Nat.reduceBEq, Int.reduceLE, Int.reduceLT, Int.reduceToNat, Int.reduceNeg, Int.reduceEq, axt, ftK, ft3, pickP, AScope, AAll, pickQ, ftQ, inHeap, Nd.cells, RV, tys]
        exact ⟨_, rfl, rfl, to.new⟩
def lsK (tags : Int) : Nat := (if 8 < (if 1 > tags then 1 else tags) then (8 : Int) else (if 1 > tags then 1 else tags)).toNat
theorem lsK_rng (tags : Int) : (if 8 < (if 1 > tags then 1 else tags) then (8 : Int) else (if 1 > tags then 1 else tags)) = (lsK tags : Int) ∧ 1 ≤ lsK tags ∧ lsK tags ≤ 8 := by
  unfold lsK
  by_cases h : 1 > tags <;> simp [h] <;> (try split) <;> omega
theorem cLsNew (a : Nat) (tags : Int) (H : AH) (n : Nat) :
    HCalls Try.prog 16 [.ptr a 4 0 0, .sc (.int .i64 tags)] H n fun v H' n' => v = .ptr (n + 1) 2 0 0 ∧ H' = upd (upd H n (some (.obj 69 3 (RW (List.replicate (lsK tags) r0)) false))) (n + 1) (some (.obj 77 2 [[.ptr a 4 0 0, .sl n 3 0 (lsK tags)]] false)) ∧ n' = n + 1 + 1 := by
  obtain ⟨hqe, q1, q2⟩ := lsK_rng tags
  generalize lsK tags = m at *
  have b1 : (0 : Int) ≤ (m : Int) := by omega
  have b2 : (m : Int) * 16 ≤ 140737488355328 := by omega
  have b3 : (m : Int) ≤ 1099511627776 := by omega
  have hrep := RW_rep m
  refine HCalls.walk Try.func16 rfl rfl Try.ntmps16 Try.results16 (by simp) ?_; simp (maxSteps := 400000) (dsimp := false) only [hqe, b1, b2, b3, hrep, axs, AThen, ABlock, dstsOk, AStep, callsF, AWant, aop, AS.ev, AS.put, upd, AS.bound, abin, aint, aload, astore, cellsAt, AV.cells, alen, elems, AV.int?, FPost, aresL, ares1, pack, afill, splice, Value.oneCell', Nat.reduceLT, Nat.reduceLeDiff, Nat.reduceEqDiff, Nat.reduceAdd, Nat.reduceMul, Nat.reduceSub, Nat.reduceBEq, Int.reduceLE, Int.reduceLT, Int.reduceToNat, Int.reduceNeg, Int.reduceEq, axt, ftK, ft3, pickP, AScope, AAll, pickQ, ftQ, inHeap, Nd.cells, RV, tys]
  exact ⟨_, rfl, rfl⟩
/-- New lists lie where they were laid. -/
theorem newLs {H : AH} {n a s : Nat} {fv : AV} {R : RA} (h : ArH H n a s fv (arnOf R)) (k : Nat) :
    LsH (upd (upd H n (some (.obj 69 3 (RW (List.replicate k r0)) false))) (n + 1) (some (.obj 77 2 [[.ptr a 4 0 0, .sl n 3 0 k]] false))) (n + 1 + 1) (n + 1) n a s fv R (List.replicate k r0) := by
  refine ⟨by rw [upd_same]; simp, by rw [upd_ne _ _ (by omega), upd_same], h.new.new, by omega, by omega, fun ho => ?_, fun ho => ?_⟩
  · have : n + 1 < n := by
      rcases ho with e | e | ⟨m, e⟩
      · have := h.la; omega
      · have := h.ls; omega
      · exact h.lf _ _ e
    omega
  · have : n < n := by
      rcases ho with e | e | ⟨m, e⟩
      · have := h.la; omega
      · have := h.ls; omega
      · exact h.lf _ _ e
    omega
/-- The reference's lists, as they are seen. -/
def LV (R : RA) (vs : List AV) : AV := .agg [.sc (.int .i64 R.len), .sc (.int .i64 R.ever), .lst 1 (I32 R.freed), .lst 6 (ND R.nodes), .lst 1 (vs.map fun v => [v])]
def nilS : AV := .sc (.slice none 0 0)
theorem noIdsE_nils (m : Nat) : noIdsE (List.replicate m [.sc (.slice none 0 0)]) = true := by
  induction m with
  | zero => rfl
  | succ m ih => rw [List.replicate_succ]; simp [noIdsE, noIdsL, noIds, ih]
theorem rLsNew (R : RA) (tags : Int) : PCalls Try.prog 17 [RV R, .sc (.int .i64 tags)] (LV R (List.replicate (lsK tags) nilS)) := by
  obtain ⟨hqe, q1, q2⟩ := lsK_rng tags
  generalize lsK tags = m at *
  have b1 : (0 : Int) ≤ (m : Int) := by omega
  have b2 : (m : Int) * 24 ≤ 140737488355328 := by omega
  have b3 : (m : Int) ≤ 1099511627776 := by omega
  refine PCalls.intro2 Try.func17 rfl rfl Try.ntmps17 Try.results17 (by simp) fun n => ?_; simp (maxSteps := 400000) (dsimp := false) only [axs, AThen, ABlock, dstsOk, AStep, callsF, AWant, aop, AS.ev, AS.put, upd, AS.bound, abin, aint, aload, astore, cellsAt, AV.cells, alen, elems, AV.int?, FPost, aresL, ares1, pack, afill, splice, Value.oneCell', Nat.reduceLT, Nat.reduceLeDiff, Nat.reduceEqDiff, Nat.reduceAdd, Nat.reduceMul, Nat.reduceSub, Nat.reduceBEq, Int.reduceLE, Int.reduceLT, Int.reduceToNat, Int.reduceNeg, Int.reduceEq, axt, ftK, ft3, pickP, AScope, AAll, pickQ, ftQ, inHeap, Nd.cells, RV, tys]
  refine ADraw.planR [] [(0, true), (1, true), (2, true), (3, true), (4, true), (5, true), (6, true)] [(0, false), (0, false), (0, false), (0, false), (0, false), (0, false), (0, false)] mixed (by kernel_rfl) (by kernel_rfl) ?_
  simp (maxSteps := 400000) (dsimp := false) only [hqe, b1, b2, b3, axs, AThen, ABlock, dstsOk, AStep, callsF, AWant, aop, AS.ev, AS.put, upd, AS.bound, abin, aint, aload, astore, cellsAt, AV.cells, alen, elems, AV.int?, FPost, aresL, ares1, pack, afill, splice, Value.oneCell', Nat.reduceLT, Nat.reduceLeDiff, Nat.reduceEqDiff, Nat.reduceAdd, Nat.reduceMul, Nat.reduceSub, Nat.reduceBEq, Int.reduceLE, Int.reduceLT, Int.reduceToNat, Int.reduceNeg, Int.reduceEq, axt, ftK, ft3, pickP, AScope, AAll, pickQ, ftQ, inHeap, Nd.cells, RV, tys]
  unfold LV nilS
  refine ⟨_, rfl, ?_⟩; simp (maxSteps := 400000) (dsimp := false) only [SeesL, axs, AThen, ABlock, dstsOk, AStep, callsF, AWant, aop, AS.ev, AS.put, upd, AS.bound, abin, aint, aload, astore, cellsAt, AV.cells, alen, elems, AV.int?, FPost, aresL, ares1, pack, afill, splice, Value.oneCell', Nat.reduceLT, Nat.reduceLeDiff, Nat.reduceEqDiff, Nat.reduceAdd, Nat.reduceMul, Nat.reduceSub, Nat.reduceBEq, Int.reduceLE, Int.reduceLT, Int.reduceToNat, Int.reduceNeg, Int.reduceEq, axt, ftK, ft3, pickP, AScope, AAll, pickQ, ftQ, inHeap, Nd.cells, RV, tys] <;> repeat' (first | exact True.intro | exact Sees.sc | exact Sees.none | ((with_reducible refine Sees.same ?_) <;> simp [noIds, noIdsL, noIdsE, noIdsE_U, noIdsE_UU, noIdsE_I32, noIdsE_ND] <;> fail) | (refine Live.sees ?_ ?_ <;> first | assumption | (simp [noIdsE_U, noIdsE_UU, noIdsE_I32, noIdsE_ND] <;> fail)) | (refine Sees.obj ?_ ?_ ?_ <;> first | exact ⟨_, _, by assumption, rfl⟩ | (simp [U_len, UU_len, I32_len, ND_len] <;> fail) | (simp [noIdsE_U, noIdsE_UU, noIdsE_I32, noIdsE_ND] <;> fail) | (simp [U, UU, upd, neS] <;> fail) | (simp [U, UU, upd, neS, *] <;> fail)) | refine Sees.agg ?_ | refine Sees.tup ?_ | refine And.intro ?_ ?_ | simp only [SeesL])
  simp only [List.map_replicate]
  exact Sees.obj (by simp [upd, neS]) (by simp) (noIdsE_nils m)
end Go.Al
