/- Lists of places, by the reference: what is told of them. Conditions: few places. -/
import Derived.Test.YtbmhdafmjekkiaaIz6
set_option linter.unusedVariables false
set_option linter.unusedSimpArgs false
set_option maxRecDepth 20000
set_option maxHeartbeats 1600000
-- axs, AThen, ABlock, dstsOk, AStep, callsF, AWant, aop, AS.ev, AS.put, upd, AS.bound, abin, aint, aload, astore, cellsAt, AV.cells, alen, elems, AV.int?, FPost, aresL, ares1, pack, afill, splice, Value.oneCell', Nat.reduceLT, Nat.reduceLeDiff, Nat.reduceEqDiff, Nat.reduceAdd, Nat.reduceMul, Nat.reduceSub, Nat.reduceBEq, Int.reduceLE, Int.reduceLT, Int.reduceToNat, Int.reduceNeg, Int.reduceEq, axt, ftK, ft3, pickP, AScope, AAll, pickQ, ftQ, inHeap, Nd.cells, RV, tys: Nd.cells, RV
-- NOIDS: noIdsE_I32, noIdsE_ND, noIdsE_LS
-- LENS: I32_len, ND_len, LS_len
namespace Go.Al
open Go.Proofs
def LS (ls : List (List Int)) : List (List AV) := ls.map fun l => [.lst 1 (I32 l)]
theorem LS_len (l : List (List Int)) : (LS l).length = l.length := by simp [LS]
theorem LS_get {l : List (List Int)} {p : Nat} {x : List Int} (h : l[p]? = some x) : (LS l)[p]? = some [.lst 1 (I32 x)] := by simp [LS, h]
theorem LS_set (l : List (List Int)) (p : Nat) (x : List Int) : (LS l).set p [.lst 1 (I32 x)] = LS (l.set p x) := by simp [LS, List.map_set]
theorem noIdsE_LS (l : List (List Int)) : noIdsE (LS l) = true := noIdsE_map _ (fun x => by simp [noIdsL, noIds, noIdsE_I32]) l
/-- The reference's lists. -/
def LVs (A : RA) (ls : List (List Int)) : AV := .agg [.sc (.int .i64 A.len), .sc (.int .i64 A.ever), .lst 1 (I32 A.freed), .lst 6 (ND A.nodes), .lst 1 (LS ls)]
def placeI (l : List Int) (i : Int) : Int := if i ∈ l then l.idxOf i else -1
theorem placeI_at {l : List Int} (nd : l.Nodup) {p : Nat} {i : Int} (h : l[p]? = some i) : placeI l i = p := by
  have hm := List.mem_of_getElem? h
  unfold placeI
  rw [if_pos hm]
  have hlt := List.idxOf_lt_length_iff.2 hm
  have h1 : l[l.idxOf i]? = some i := by rw [List.getElem?_eq_getElem hlt, List.getElem_idxOf hlt]
  have := (List.getElem?_inj hlt nd).1 (h1.trans h.symm)
  rw [this]
theorem rPlace (l : List Int) (i : Int) (nd : l.Nodup) (hl : l.length ≤ 1000) : PCalls Try.prog 56 [.lst 1 (I32 l), .sc (.int .i32 i)] (.sc (.int .i64 (placeI l i))) := by
  refine PCalls.intro2 Try.func56 rfl rfl Try.ntmps56 Try.results56 (by simp) fun n => ?_; simp (maxSteps := 400000) (dsimp := false) only [axs, AThen, ABlock, dstsOk, AStep, callsF, AWant, aop, AS.ev, AS.put, upd, AS.bound, abin, aint, aload, astore, cellsAt, AV.cells, alen, elems, AV.int?, FPost, aresL, ares1, pack, afill, splice, Value.oneCell', Nat.reduceLT, Nat.reduceLeDiff, Nat.reduceEqDiff, Nat.reduceAdd, Nat.reduceMul, Nat.reduceSub, Nat.reduceBEq, Int.reduceLE, Int.reduceLT, Int.reduceToNat, Int.reduceNeg, Int.reduceEq, axt, ftK, ft3, pickP, AScope, AAll, pickQ, ftQ, inHeap, Nd.cells, RV, tys]
  refine ALoop.upto l.length (fun p s => s.t 0 = .lst 1 (I32 l) ∧ s.t 1 = .sc (.int .i32 i) ∧ s.t 5 = .sc (.int .i64 p) ∧ i ∉ l.take p) ⟨rfl, rfl, rfl, by simp⟩ ?_
  rintro p s hp hb ⟨e0, e1, e5, hn⟩
  rcases Nat.lt_or_ge p l.length with hlt | hge
  · obtain ⟨x, hx, hp0, hpl, hw, hT, hD⟩ := idx hlt (by omega)
    have hg := I32_get hx
    by_cases hc : x = i
    · subst hc
      have hpi := placeI_at nd hx
      simp (maxSteps := 400000) (dsimp := false) only [e0, e1, e5, hg, hp0, hpl, I32_len, axs, AThen, ABlock, dstsOk, AStep, callsF, AWant, aop, AS.ev, AS.put, upd, AS.bound, abin, aint, aload, astore, cellsAt, AV.cells, alen, elems, AV.int?, FPost, aresL, ares1, pack, afill, splice, Value.oneCell', Nat.reduceLT, Nat.reduceLeDiff, Nat.reduceEqDiff, Nat.reduceAdd, Nat.reduceMul, Nat.reduceSub, Nat.reduceBEq, Int.reduceLE, Int.reduceLT, Int.reduceToNat, Int.reduceNeg, Int.reduceEq, axt, ftK, ft3, pickP, AScope, AAll, pickQ, ftQ, inHeap, Nd.cells, RV, tys]
      refine ⟨_, rfl, ?_⟩; simp (maxSteps := 400000) (dsimp := false) only [SeesL, hpi, axs, AThen, ABlock, dstsOk, AStep, callsF, AWant, aop, AS.ev, AS.put, upd, AS.bound, abin, aint, aload, astore, cellsAt, AV.cells, alen, elems, AV.int?, FPost, aresL, ares1, pack, afill, splice, Value.oneCell', Nat.reduceLT, Nat.reduceLeDiff, Nat.reduceEqDiff, Nat.reduceAdd, Nat.reduceMul, Nat.reduceSub, Nat.reduceBEq, Int.reduceLE, Int.reduceLT, Int.reduceToNat, Int.reduceNeg, Int.reduceEq, axt, ftK, ft3, pickP, AScope, AAll, pickQ, ftQ, inHeap, Nd.cells, RV, tys] <;> repeat' (first | exact True.intro | exact Sees.sc | exact Sees.none | ((with_reducible refine Sees.same ?_) <;> simp [noIds, noIdsL, noIdsE, noIdsE_U, noIdsE_UU, noIdsE_I32, noIdsE_ND, noIdsE_LS] <;> fail) | (refine Live.sees ?_ ?_ <;> first | assumption | (simp [noIdsE_U, noIdsE_UU, noIdsE_I32, noIdsE_ND, noIdsE_LS] <;> fail)) | (refine Sees.obj ?_ ?_ ?_ <;> first | exact ⟨_, _, by assumption, rfl⟩ | (simp [U_len, UU_len, I32_len, ND_len, LS_len] <;> fail) | (simp [noIdsE_U, noIdsE_UU, noIdsE_I32, noIdsE_ND, noIdsE_LS] <;> fail) | (simp [U, UU, upd, neS] <;> fail) | (simp [U, UU, upd, neS, *] <;> fail)) | refine Sees.agg ?_ | refine Sees.tup ?_ | refine And.intro ?_ ?_ | simp only [SeesL])
    · simp (maxSteps := 400000) (dsimp := false) only [e0, e1, e5, hg, hp0, hpl, I32_len, hc, hw, axs, AThen, ABlock, dstsOk, AStep, callsF, AWant, aop, AS.ev, AS.put, upd, AS.bound, abin, aint, aload, astore, cellsAt, AV.cells, alen, elems, AV.int?, FPost, aresL, ares1, pack, afill, splice, Value.oneCell', Nat.reduceLT, Nat.reduceLeDiff, Nat.reduceEqDiff, Nat.reduceAdd, Nat.reduceMul, Nat.reduceSub, Nat.reduceBEq, Int.reduceLE, Int.reduceLT, Int.reduceToNat, Int.reduceNeg, Int.reduceEq, axt, ftK, ft3, pickP, AScope, AAll, pickQ, ftQ, inHeap, Nd.cells, RV, tys]
      refine ⟨hlt, ?_⟩
      rw [hT]
      simp only [List.mem_append, List.mem_singleton, not_or]
      exact ⟨hn, fun e => hc e.symm⟩
  · have hpl : ¬ (p : Int) < l.length := by omega
    rw [List.take_of_length_le hge] at hn
    have hpi : placeI l i = -1 := if_neg hn
    simp (maxSteps := 400000) (dsimp := false) only [e0, e1, e5, hpl, I32_len, axs, AThen, ABlock, dstsOk, AStep, callsF, AWant, aop, AS.ev, AS.put, upd, AS.bound, abin, aint, aload, astore, cellsAt, AV.cells, alen, elems, AV.int?, FPost, aresL, ares1, pack, afill, splice, Value.oneCell', Nat.reduceLT, Nat.reduceLeDiff, Nat.reduceEqDiff, Nat.reduceAdd, Nat.reduceMul, Nat.reduceSub, Nat.reduceBEq, Int.reduceLE, Int.reduceLT, Int.reduceToNat, Int.reduceNeg, Int.reduceEq, axt, ftK, ft3, pickP, AScope, AAll, pickQ, ftQ, inHeap, Nd.cells, RV, tys]
    refine ⟨_, rfl, ?_⟩; simp (maxSteps := 400000) (dsimp := false) only [SeesL, hpi, axs, AThen, ABlock, dstsOk, AStep, callsF, AWant, aop, AS.ev, AS.put, upd, AS.bound, abin, aint, aload, astore, cellsAt, AV.cells, alen, elems, AV.int?, FPost, aresL, ares1, pack, afill, splice, Value.oneCell', Nat.reduceLT, Nat.reduceLeDiff, Nat.reduceEqDiff, Nat.reduceAdd, Nat.reduceMul, Nat.reduceSub, Nat.reduceBEq, Int.reduceLE, Int.reduceLT, Int.reduceToNat, Int.reduceNeg, Int.reduceEq, axt, ftK, ft3, pickP, AScope, AAll, pickQ, ftQ, inHeap, Nd.cells, RV, tys] <;> repeat' (first | exact True.intro | exact Sees.sc | exact Sees.none | ((with_reducible refine Sees.same ?_) <;> simp [noIds, noIdsL, noIdsE, noIdsE_U, noIdsE_UU, noIdsE_I32, noIdsE_ND, noIdsE_LS] <;> fail) | (refine Live.sees ?_ ?_ <;> first | assumption | (simp [noIdsE_U, noIdsE_UU, noIdsE_I32, noIdsE_ND, noIdsE_LS] <;> fail)) | (refine Sees.obj ?_ ?_ ?_ <;> first | exact ⟨_, _, by assumption, rfl⟩ | (simp [U_len, UU_len, I32_len, ND_len, LS_len] <;> fail) | (simp [noIdsE_U, noIdsE_UU, noIdsE_I32, noIdsE_ND, noIdsE_LS] <;> fail) | (simp [U, UU, upd, neS] <;> fail) | (simp [U, UU, upd, neS, *] <;> fail)) | refine Sees.agg ?_ | refine Sees.tup ?_ | refine And.intro ?_ ?_ | simp only [SeesL])
section
variable {R A : RA} {rows : List Rw} {ls : List (List Int)}
theorem LInv.len_le (inv : LInv R rows ls) (he : R.ever ≤ 1000) {t : Nat} {l : List Int} (h : ls[t]? = some l) : l.length ≤ 1000 := by
  have := pigeon R.ever.toNat l (inv.one _ _ h) (fun k hk => by have := ra_rng inv.ok (inv.live _ _ h k hk); omega)
  omega
theorem rTag (A : RA) (inv : LInv R rows ls) (he : R.ever ≤ 1000) (h8 : ls.length ≤ 100) (i : Int) : PCalls Try.prog 49 [LVs A ls, .sc (.int .i32 i)] (.sc (.int .i64 ((raAt R i).tag - 1))) := by
  unfold LVs
  refine PCalls.intro2 Try.func49 rfl rfl Try.ntmps49 Try.results49 (by simp) fun n => ?_; simp (maxSteps := 400000) (dsimp := false) only [axs, AThen, ABlock, dstsOk, AStep, callsF, AWant, aop, AS.ev, AS.put, upd, AS.bound, abin, aint, aload, astore, cellsAt, AV.cells, alen, elems, AV.int?, FPost, aresL, ares1, pack, afill, splice, Value.oneCell', Nat.reduceLT, Nat.reduceLeDiff, Nat.reduceEqDiff, Nat.reduceAdd, Nat.reduceMul, Nat.reduceSub, Nat.reduceBEq, Int.reduceLE, Int.reduceLT, Int.reduceToNat, Int.reduceNeg, Int.reduceEq, axt, ftK, ft3, pickP, AScope, AAll, pickQ, ftQ, inHeap, Nd.cells, RV, tys]
  refine ALoop.upto ls.length (fun p s => s.t 1 = .sc (.int .i32 i) ∧ s.t 2 = .ptr n 5 0 0 ∧ s.t 5 = .sc (.int .i64 p) ∧ s.H n = some (.obj 32 5 [[.sc (.int .i64 A.len), .sc (.int .i64 A.ever), .lst 1 (I32 A.freed), .lst 6 (ND A.nodes), .lst 1 (LS ls)]] false) ∧ ∀ q l, q < p → ls[q]? = some l → i ∉ l) ⟨rfl, rfl, rfl, by simp [upd], by omega⟩ ?_
  rintro p s hp hb ⟨e1, e2, e5, eH, hn⟩
  rcases Nat.lt_or_ge p ls.length with hlt | hge
  · obtain ⟨x, hx, hp0, hpl, hw, hT, hD⟩ := idx hlt (by omega)
    have hg := LS_get hx
    have cp := rPlace x i (inv.one _ _ hx) (inv.len_le he hx)
    by_cases hc : i ∈ x
    · obtain ⟨q, hq⟩ := List.getElem?_of_mem hc
      have hpi := placeI_at (inv.one _ _ hx) hq
      have htg := (inv.node _ _ hx q i hq).1
      have hge0 : placeI x i ≥ 0 := by omega
      have hres : (raAt R i).tag - 1 = (p : Int) := by omega
      rw [hres]
      simp (maxSteps := 400000) (dsimp := false) only [e1, e2, e5, eH, hg, hp0, hpl, LS_len, axs, AThen, ABlock, dstsOk, AStep, callsF, AWant, aop, AS.ev, AS.put, upd, AS.bound, abin, aint, aload, astore, cellsAt, AV.cells, alen, elems, AV.int?, FPost, aresL, ares1, pack, afill, splice, Value.oneCell', Nat.reduceLT, Nat.reduceLeDiff, Nat.reduceEqDiff, Nat.reduceAdd, Nat.reduceMul, Nat.reduceSub, Nat.reduceBEq, Int.reduceLE, Int.reduceLT, Int.reduceToNat, Int.reduceNeg, Int.reduceEq, axt, ftK, ft3, pickP, AScope, AAll, pickQ, ftQ, inHeap, Nd.cells, RV, tys]
      refine ACallK.strict rfl (cp) (by simp only [SeesL, hge0, e5, axs, axt, AS.ev, AS.put, upd, inHeap, Nat.reduceLT, Nat.reduceEqDiff, Nat.reduceAdd, Nat.reduceBEq, Nd.cells, RV]; repeat' (first | exact True.intro | exact Sees.sc | exact Sees.none | ((with_reducible refine Sees.same ?_) <;> simp [noIds, noIdsL, noIdsE, noIdsE_U, noIdsE_UU, noIdsE_I32, noIdsE_ND, noIdsE_LS] <;> fail) | (refine Live.sees ?_ ?_ <;> first | assumption | (simp [noIdsE_U, noIdsE_UU, noIdsE_I32, noIdsE_ND, noIdsE_LS] <;> fail)) | (refine Sees.obj ?_ ?_ ?_ <;> first | exact ⟨_, _, by assumption, rfl⟩ | (simp [U_len, UU_len, I32_len, ND_len, LS_len] <;> fail) | (simp [noIdsE_U, noIdsE_UU, noIdsE_I32, noIdsE_ND, noIdsE_LS] <;> fail) | (simp [U, UU, upd] <;> fail) | (simp [U, UU, upd, neS, *] <;> fail)) | (refine Sees.of_seen 3 ?_ <;> simp [seen, upd, noIdsE, noIdsL, noIds, U, UU, Nat.add_assoc] <;> fail) | refine Sees.agg ?_ | refine And.intro ?_ ?_ | simp only [SeesL])) ?_; simp (maxSteps := 400000) (dsimp := false) only [hge0, e5, axs, AThen, ABlock, dstsOk, AStep, callsF, AWant, aop, AS.ev, AS.put, upd, AS.bound, abin, aint, aload, astore, cellsAt, AV.cells, alen, elems, AV.int?, FPost, aresL, ares1, pack, afill, splice, Value.oneCell', Nat.reduceLT, Nat.reduceLeDiff, Nat.reduceEqDiff, Nat.reduceAdd, Nat.reduceMul, Nat.reduceSub, Nat.reduceBEq, Int.reduceLE, Int.reduceLT, Int.reduceToNat, Int.reduceNeg, Int.reduceEq, axt, ftK, ft3, pickP, AScope, AAll, pickQ, ftQ, inHeap, Nd.cells, RV, tys]
      exact ⟨_, rfl, Sees.sc⟩
    · have hpi : placeI x i = -1 := if_neg hc
      have hge0 : ¬ placeI x i ≥ 0 := by omega
      simp (maxSteps := 400000) (dsimp := false) only [e1, e2, e5, eH, hg, hp0, hpl, LS_len, axs, AThen, ABlock, dstsOk, AStep, callsF, AWant, aop, AS.ev, AS.put, upd, AS.bound, abin, aint, aload, astore, cellsAt, AV.cells, alen, elems, AV.int?, FPost, aresL, ares1, pack, afill, splice, Value.oneCell', Nat.reduceLT, Nat.reduceLeDiff, Nat.reduceEqDiff, Nat.reduceAdd, Nat.reduceMul, Nat.reduceSub, Nat.reduceBEq, Int.reduceLE, Int.reduceLT, Int.reduceToNat, Int.reduceNeg, Int.reduceEq, axt, ftK, ft3, pickP, AScope, AAll, pickQ, ftQ, inHeap, Nd.cells, RV, tys]
      refine ACallK.strict rfl (cp) (by simp only [SeesL, hge0, e1, e2, e5, hw, axs, axt, AS.ev, AS.put, upd, inHeap, Nat.reduceLT, Nat.reduceEqDiff, Nat.reduceAdd, Nat.reduceBEq, Nd.cells, RV]; repeat' (first | exact True.intro | exact Sees.sc | exact Sees.none | ((with_reducible refine Sees.same ?_) <;> simp [noIds, noIdsL, noIdsE, noIdsE_U, noIdsE_UU, noIdsE_I32, noIdsE_ND, noIdsE_LS] <;> fail) | (refine Live.sees ?_ ?_ <;> first | assumption | (simp [noIdsE_U, noIdsE_UU, noIdsE_I32, noIdsE_ND, noIdsE_LS] <;> fail)) | (refine Sees.obj ?_ ?_ ?_ <;> first | exact ⟨_, _, by assumption, rfl⟩ | (simp [U_len, UU_len, I32_len, ND_len, LS_len] <;> fail) | (simp [noIdsE_U, noIdsE_UU, noIdsE_I32, noIdsE_ND, noIdsE_LS] <;> fail) | (simp [U, UU, upd] <;> fail) | (simp [U, UU, upd, neS, *] <;> fail)) | (refine Sees.of_seen 3 ?_ <;> simp [seen, upd, noIdsE, noIdsL, noIds, U, UU, Nat.add_assoc] <;> fail) | refine Sees.agg ?_ | refine And.intro ?_ ?_ | simp only [SeesL])) ?_; simp (maxSteps := 400000) (dsimp := false) only [hge0, e1, e2, e5, hw, axs, AThen, ABlock, dstsOk, AStep, callsF, AWant, aop, AS.ev, AS.put, upd, AS.bound, abin, aint, aload, astore, cellsAt, AV.cells, alen, elems, AV.int?, FPost, aresL, ares1, pack, afill, splice, Value.oneCell', Nat.reduceLT, Nat.reduceLeDiff, Nat.reduceEqDiff, Nat.reduceAdd, Nat.reduceMul, Nat.reduceSub, Nat.reduceBEq, Int.reduceLE, Int.reduceLT, Int.reduceToNat, Int.reduceNeg, Int.reduceEq, axt, ftK, ft3, pickP, AScope, AAll, pickQ, ftQ, inHeap, Nd.cells, RV, tys]
      refine ⟨hlt, eH, fun q l hq hl => ?_⟩
      rcases Nat.lt_succ_iff_lt_or_eq.1 hq with h | rfl
      · exact hn q l h hl
      · rw [hx] at hl; cases hl; exact hc
  · have hpl : ¬ (p : Int) < ls.length := by omega
    have hres : (raAt R i).tag - 1 = -1 := by
      have := (inv.none i fun t l hl => hn t l (by have := (List.getElem?_eq_some_iff.1 hl).1; omega) hl).1
      omega
    rw [hres]
    simp (maxSteps := 400000) (dsimp := false) only [e1, e2, e5, eH, hpl, LS_len, axs, AThen, ABlock, dstsOk, AStep, callsF, AWant, aop, AS.ev, AS.put, upd, AS.bound, abin, aint, aload, astore, cellsAt, AV.cells, alen, elems, AV.int?, FPost, aresL, ares1, pack, afill, splice, Value.oneCell', Nat.reduceLT, Nat.reduceLeDiff, Nat.reduceEqDiff, Nat.reduceAdd, Nat.reduceMul, Nat.reduceSub, Nat.reduceBEq, Int.reduceLE, Int.reduceLT, Int.reduceToNat, Int.reduceNeg, Int.reduceEq, axt, ftK, ft3, pickP, AScope, AAll, pickQ, ftQ, inHeap, Nd.cells, RV, tys]
    exact ⟨_, rfl, Sees.sc⟩
theorem rAll (A : RA) (ls : List (List Int)) (t : Int) : PCalls Try.prog 46 [LVs A ls, .sc (.int .i64 t)] (.lst 1 (I32 (allL ls t))) := by
  unfold LVs
  by_cases h0 : t < 0
  · have e : allL ls t = [] := if_neg (by omega)
    rw [e]
    refine PCalls.intro2 Try.func46 rfl rfl Try.ntmps46 Try.results46 (by simp) fun n => ?_; simp (maxSteps := 400000) (dsimp := false) only [h0, axs, AThen, ABlock, dstsOk, AStep, callsF, AWant, aop, AS.ev, AS.put, upd, AS.bound, abin, aint, aload, astore, cellsAt, AV.cells, alen, elems, AV.int?, FPost, aresL, ares1, pack, afill, splice, Value.oneCell', Nat.reduceLT, Nat.reduceLeDiff, Nat.reduceEqDiff, Nat.reduceAdd, Nat.reduceMul, Nat.reduceSub, Nat.reduceBEq, Int.reduceLE, Int.reduceLT, Int.reduceToNat, Int.reduceNeg, Int.reduceEq, axt, ftK, ft3, pickP, AScope, AAll, pickQ, ftQ, inHeap, Nd.cells, RV, tys]
    exact ⟨_, rfl, Sees.none⟩
  · by_cases h1 : t ≥ ls.length
    · have e : allL ls t = [] := by unfold allL; rw [if_pos (by omega), List.getD_eq_getElem?_getD, List.getElem?_eq_none (by omega)]; rfl
      rw [e]
      refine PCalls.intro2 Try.func46 rfl rfl Try.ntmps46 Try.results46 (by simp) fun n => ?_; simp (maxSteps := 400000) (dsimp := false) only [h0, h1, LS_len, axs, AThen, ABlock, dstsOk, AStep, callsF, AWant, aop, AS.ev, AS.put, upd, AS.bound, abin, aint, aload, astore, cellsAt, AV.cells, alen, elems, AV.int?, FPost, aresL, ares1, pack, afill, splice, Value.oneCell', Nat.reduceLT, Nat.reduceLeDiff, Nat.reduceEqDiff, Nat.reduceAdd, Nat.reduceMul, Nat.reduceSub, Nat.reduceBEq, Int.reduceLE, Int.reduceLT, Int.reduceToNat, Int.reduceNeg, Int.reduceEq, axt, ftK, ft3, pickP, AScope, AAll, pickQ, ftQ, inHeap, Nd.cells, RV, tys]
      exact ⟨_, rfl, Sees.none⟩
    · have hx : ls[t.toNat]? = some (allL ls t) := by
        unfold allL
        rw [if_pos (by omega), List.getD_eq_getElem?_getD, List.getElem?_eq_getElem (by omega)]; rfl
      have hg := LS_get hx
      have h2 : 0 ≤ t := by omega
      have h3 : t < ls.length := by omega
      refine PCalls.intro2 Try.func46 rfl rfl Try.ntmps46 Try.results46 (by simp) fun n => ?_; simp (maxSteps := 400000) (dsimp := false) only [h0, h1, h2, h3, hg, LS_len, axs, AThen, ABlock, dstsOk, AStep, callsF, AWant, aop, AS.ev, AS.put, upd, AS.bound, abin, aint, aload, astore, cellsAt, AV.cells, alen, elems, AV.int?, FPost, aresL, ares1, pack, afill, splice, Value.oneCell', Nat.reduceLT, Nat.reduceLeDiff, Nat.reduceEqDiff, Nat.reduceAdd, Nat.reduceMul, Nat.reduceSub, Nat.reduceBEq, Int.reduceLE, Int.reduceLT, Int.reduceToNat, Int.reduceNeg, Int.reduceEq, axt, ftK, ft3, pickP, AScope, AAll, pickQ, ftQ, inHeap, Nd.cells, RV, tys]
      refine ⟨_, rfl, ?_⟩; simp (maxSteps := 400000) (dsimp := false) only [SeesL, axs, AThen, ABlock, dstsOk, AStep, callsF, AWant, aop, AS.ev, AS.put, upd, AS.bound, abin, aint, aload, astore, cellsAt, AV.cells, alen, elems, AV.int?, FPost, aresL, ares1, pack, afill, splice, Value.oneCell', Nat.reduceLT, Nat.reduceLeDiff, Nat.reduceEqDiff, Nat.reduceAdd, Nat.reduceMul, Nat.reduceSub, Nat.reduceBEq, Int.reduceLE, Int.reduceLT, Int.reduceToNat, Int.reduceNeg, Int.reduceEq, axt, ftK, ft3, pickP, AScope, AAll, pickQ, ftQ, inHeap, Nd.cells, RV, tys] <;> repeat' (first | exact True.intro | exact Sees.sc | exact Sees.none | ((with_reducible refine Sees.same ?_) <;> simp [noIds, noIdsL, noIdsE, noIdsE_U, noIdsE_UU, noIdsE_I32, noIdsE_ND, noIdsE_LS] <;> fail) | (refine Live.sees ?_ ?_ <;> first | assumption | (simp [noIdsE_U, noIdsE_UU, noIdsE_I32, noIdsE_ND, noIdsE_LS] <;> fail)) | (refine Sees.obj ?_ ?_ ?_ <;> first | exact ⟨_, _, by assumption, rfl⟩ | (simp [U_len, UU_len, I32_len, ND_len, LS_len] <;> fail) | (simp [noIdsE_U, noIdsE_UU, noIdsE_I32, noIdsE_ND, noIdsE_LS] <;> fail) | (simp [U, UU, upd, neS] <;> fail) | (simp [U, UU, upd, neS, *] <;> fail)) | refine Sees.agg ?_ | refine Sees.tup ?_ | refine And.intro ?_ ?_ | simp only [SeesL])
theorem rSame (l : List Int) (hl : l.length ≤ 1000) : PCalls Try.prog 47 [.lst 1 (I32 l), .lst 1 (I32 l)] (.sc (.bool true)) := by
  refine PCalls.intro2 Try.func47 rfl rfl Try.ntmps47 Try.results47 (by simp) fun n => ?_; simp (maxSteps := 400000) (dsimp := false) only [bne_self_eq_false, axs, AThen, ABlock, dstsOk, AStep, callsF, AWant, aop, AS.ev, AS.put, upd, AS.bound, abin, aint, aload, astore, cellsAt, AV.cells, alen, elems, AV.int?, FPost, aresL, ares1, pack, afill, splice, Value.oneCell', Nat.reduceLT, Nat.reduceLeDiff, Nat.reduceEqDiff, Nat.reduceAdd, Nat.reduceMul, Nat.reduceSub, Nat.reduceBEq, Int.reduceLE, Int.reduceLT, Int.reduceToNat, Int.reduceNeg, Int.reduceEq, axt, ftK, ft3, pickP, AScope, AAll, pickQ, ftQ, inHeap, Nd.cells, RV, tys]
  refine ALoop.upto l.length (fun p s => s.t 0 = .lst 1 (I32 l) ∧ s.t 1 = .lst 1 (I32 l) ∧ s.t 5 = .sc (.int .i64 p)) ⟨rfl, rfl, rfl⟩ ?_
  rintro p s hp hb ⟨e0, e1, e5⟩
  rcases Nat.lt_or_ge p l.length with hlt | hge
  · obtain ⟨x, hx, hp0, hpl, hw, hT, hD⟩ := idx hlt (by omega)
    have hg := I32_get hx
    simp (maxSteps := 400000) (dsimp := false) only [e0, e1, e5, hp0, hpl, I32_len, axs, AThen, ABlock, dstsOk, AStep, callsF, AWant, aop, AS.ev, AS.put, upd, AS.bound, abin, aint, aload, astore, cellsAt, AV.cells, alen, elems, AV.int?, FPost, aresL, ares1, pack, afill, splice, Value.oneCell', Nat.reduceLT, Nat.reduceLeDiff, Nat.reduceEqDiff, Nat.reduceAdd, Nat.reduceMul, Nat.reduceSub, Nat.reduceBEq, Int.reduceLE, Int.reduceLT, Int.reduceToNat, Int.reduceNeg, Int.reduceEq, axt, ftK, ft3, pickP, AScope, AAll, pickQ, ftQ, inHeap, Nd.cells, RV, tys]
    refine ADraw.planR [] [(0, true), (1, true), (2, true), (3, true), (4, true), (5, true), (6, true), (7, true), (8, true)] [(0, false), (0, false), (0, false), (0, false), (0, false), (0, false), (0, false), (0, false), (0, false)] mixed (by kernel_rfl) (by kernel_rfl) ?_
    simp (maxSteps := 400000) (dsimp := false) only [e0, e1, e5, hg, hp0, hpl, I32_len, hw, bne_self_eq_false, axs, AThen, ABlock, dstsOk, AStep, callsF, AWant, aop, AS.ev, AS.put, upd, AS.bound, abin, aint, aload, astore, cellsAt, AV.cells, alen, elems, AV.int?, FPost, aresL, ares1, pack, afill, splice, Value.oneCell', Nat.reduceLT, Nat.reduceLeDiff, Nat.reduceEqDiff, Nat.reduceAdd, Nat.reduceMul, Nat.reduceSub, Nat.reduceBEq, Int.reduceLE, Int.reduceLT, Int.reduceToNat, Int.reduceNeg, Int.reduceEq, axt, ftK, ft3, pickP, AScope, AAll, pickQ, ftQ, inHeap, Nd.cells, RV, tys]
    exact hlt
  · have hpl : ¬ (p : Int) < l.length := by omega
    simp (maxSteps := 400000) (dsimp := false) only [e0, e1, e5, hpl, I32_len, axs, AThen, ABlock, dstsOk, AStep, callsF, AWant, aop, AS.ev, AS.put, upd, AS.bound, abin, aint, aload, astore, cellsAt, AV.cells, alen, elems, AV.int?, FPost, aresL, ares1, pack, afill, splice, Value.oneCell', Nat.reduceLT, Nat.reduceLeDiff, Nat.reduceEqDiff, Nat.reduceAdd, Nat.reduceMul, Nat.reduceSub, Nat.reduceBEq, Int.reduceLE, Int.reduceLT, Int.reduceToNat, Int.reduceNeg, Int.reduceEq, axt, ftK, ft3, pickP, AScope, AAll, pickQ, ftQ, inHeap, Nd.cells, RV, tys]
    exact ⟨_, rfl, Sees.sc⟩
end
end Go.Al
