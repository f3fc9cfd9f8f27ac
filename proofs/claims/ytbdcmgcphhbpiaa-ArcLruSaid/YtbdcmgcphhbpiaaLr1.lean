/- What least recently used does: the program's functions and the reference's, as one. Conditions: the rows are short. -/
import Derived.Test.YtbdcmgcphhbpiaaAc1
set_option linter.unusedVariables false
set_option linter.unusedSimpArgs false
set_option maxRecDepth 20000
-- axs, AThen, ABlock, dstsOk, AStep, callsF, AWant, aop, AS.ev, AS.put, upd, AS.bound, abin, aint, aload, astore, cellsAt, AV.cells, alen, elems, AV.int?, FPost, aresL, ares1, pack, afill, splice, Value.oneCell', Nat.reduceLT, Nat.reduceLeDiff, Nat.reduceEqDiff, Nat.reduceAdd, Nat.reduceMul, Nat.reduceSub, Nat.reduceBEq, Int.reduceLE, Int.reduceLT, Int.reduceToNat, Int.reduceNeg, Int.reduceEq, axt, ftK, pickP, AScope, AAll, pickQ, ftQ, inHeap, S2, tys: S2
namespace Go.Al
open Go.Proofs
/-- A capacity and a row of keys. -/
def S2 (C : Int) (L : List Int) : AV := .agg [.sc (.int .i64 C), .lst 1 (U L)]
theorem rLNew (c : Int) : PCalls Try.prog 12 [.sc (.int .i64 c)] (S2 (capOf c) []) := by
  refine PCalls.intro2 Try.func12 rfl rfl Try.ntmps12 Try.results12 (by simp) fun n => ?_; simp (maxSteps := 400000) (dsimp := false) only [axs, AThen, ABlock, dstsOk, AStep, callsF, AWant, aop, AS.ev, AS.put, upd, AS.bound, abin, aint, aload, astore, cellsAt, AV.cells, alen, elems, AV.int?, FPost, aresL, ares1, pack, afill, splice, Value.oneCell', Nat.reduceLT, Nat.reduceLeDiff, Nat.reduceEqDiff, Nat.reduceAdd, Nat.reduceMul, Nat.reduceSub, Nat.reduceBEq, Int.reduceLE, Int.reduceLT, Int.reduceToNat, Int.reduceNeg, Int.reduceEq, axt, ftK, pickP, AScope, AAll, pickQ, ftQ, inHeap, S2, tys]
  refine ACallK.strict rfl (rCap c) (by simp only [SeesL, axs, axt, AS.ev, AS.put, upd, inHeap, Nat.reduceLT, Nat.reduceEqDiff, Nat.reduceAdd, Nat.reduceBEq, S2]; repeat' (first | exact True.intro | exact Sees.sc | exact Sees.none | ((with_reducible refine Sees.same ?_) <;> simp [noIds, noIdsL, noIdsE, noIdsE_U, noIdsE_UU] <;> fail) | (refine Live.sees ?_ ?_ <;> first | assumption | (simp [noIdsE_U, noIdsE_UU] <;> fail)) | (refine Sees.obj ?_ ?_ ?_ <;> first | exact ⟨_, _, by assumption, rfl⟩ | (simp [U_len, UU_len] <;> fail) | (simp [noIdsE_U, noIdsE_UU] <;> fail) | (simp [U, UU, upd] <;> fail) | (simp [U, UU, upd, neS, *] <;> fail)) | (refine Sees.of_seen 3 ?_ <;> simp [seen, upd, noIdsE, noIdsL, noIds, U, UU, Nat.add_assoc] <;> fail) | refine Sees.agg ?_ | refine And.intro ?_ ?_ | simp only [SeesL])) ?_; simp (maxSteps := 400000) (dsimp := false) only [axs, AThen, ABlock, dstsOk, AStep, callsF, AWant, aop, AS.ev, AS.put, upd, AS.bound, abin, aint, aload, astore, cellsAt, AV.cells, alen, elems, AV.int?, FPost, aresL, ares1, pack, afill, splice, Value.oneCell', Nat.reduceLT, Nat.reduceLeDiff, Nat.reduceEqDiff, Nat.reduceAdd, Nat.reduceMul, Nat.reduceSub, Nat.reduceBEq, Int.reduceLE, Int.reduceLT, Int.reduceToNat, Int.reduceNeg, Int.reduceEq, axt, ftK, pickP, AScope, AAll, pickQ, ftQ, inHeap, S2, tys]
  refine ⟨_, rfl, ?_⟩; simp (maxSteps := 400000) (dsimp := false) only [SeesL, axs, AThen, ABlock, dstsOk, AStep, callsF, AWant, aop, AS.ev, AS.put, upd, AS.bound, abin, aint, aload, astore, cellsAt, AV.cells, alen, elems, AV.int?, FPost, aresL, ares1, pack, afill, splice, Value.oneCell', Nat.reduceLT, Nat.reduceLeDiff, Nat.reduceEqDiff, Nat.reduceAdd, Nat.reduceMul, Nat.reduceSub, Nat.reduceBEq, Int.reduceLE, Int.reduceLT, Int.reduceToNat, Int.reduceNeg, Int.reduceEq, axt, ftK, pickP, AScope, AAll, pickQ, ftQ, inHeap, S2, tys] <;> repeat' (first | exact True.intro | exact Sees.sc | exact Sees.none | ((with_reducible refine Sees.same ?_) <;> simp [noIds, noIdsL, noIdsE, noIdsE_U, noIdsE_UU] <;> fail) | (refine Live.sees ?_ ?_ <;> first | assumption | (simp [noIdsE_U, noIdsE_UU] <;> fail)) | (refine Sees.obj ?_ ?_ ?_ <;> first | exact ⟨_, _, by assumption, rfl⟩ | (simp [U_len, UU_len] <;> fail) | (simp [noIdsE_U, noIdsE_UU] <;> fail) | (simp [U, UU, upd, neS] <;> fail) | (simp [U, UU, upd, neS, *] <;> fail)) | refine Sees.agg ?_ | refine Sees.tup ?_ | refine And.intro ?_ ?_ | simp only [SeesL])
def lruTouch (L : List Int) (k : Int) : List Int := if k ∈ L then k :: without L k else L
def lruAdmit (C : Int) (L : List Int) (k : Int) : List Int := if k ∈ L then L else k :: without (cutTo L (C - 1)) k
def lruGone (C : Int) (L : List Int) (k : Int) : List Int := if k ∈ L then [] else fallen L (C - 1)
theorem rShrink (C : Int) (L : List Int) (z : Int) (hl : L.length ≤ 1000000) (z0 : 0 ≤ z) : PCalls Try.prog 38 [S2 C L, .sc (.int .i64 z)] (.tup [S2 C (cutTo L z), .lst 1 (U (fallen L z))]) := by
  refine PCalls.intro2 Try.func38 rfl rfl Try.ntmps38 Try.results38 (by simp) fun n => ?_; simp (maxSteps := 400000) (dsimp := false) only [axs, AThen, ABlock, dstsOk, AStep, callsF, AWant, aop, AS.ev, AS.put, upd, AS.bound, abin, aint, aload, astore, cellsAt, AV.cells, alen, elems, AV.int?, FPost, aresL, ares1, pack, afill, splice, Value.oneCell', Nat.reduceLT, Nat.reduceLeDiff, Nat.reduceEqDiff, Nat.reduceAdd, Nat.reduceMul, Nat.reduceSub, Nat.reduceBEq, Int.reduceLE, Int.reduceLT, Int.reduceToNat, Int.reduceNeg, Int.reduceEq, axt, ftK, pickP, AScope, AAll, pickQ, ftQ, inHeap, S2, tys]
  refine ALoop.falls (fun k : Nat => k) (fun k s => k ≤ L.length ∧ s.t 1 = .sc (.int .i64 z) ∧ s.t 2 = .ptr n 2 0 0 ∧ s.t 4 = .ptr (n + 1) 2 0 0 ∧ s.H n = some (.obj 30 2 [[.sc (.int .i64 C), .lst 1 (U (L.take k))]] false) ∧ s.H (n + 1) = some (.obj 30 2 [[.sc (.int .i64 0), .sc (.slice none 0 0)]] false) ∧ Live 34 1 s.H (U (L.drop k).reverse) (s.t 6) ∧ (k < L.length → z ≤ k)) L.length ⟨Nat.le_refl _, rfl, rfl, rfl, by rw [List.take_length]; simp [upd], by simp [upd], by simp; exact Live.nil, by omega⟩ ?_
  rintro k s hb ⟨hk, h1, h2, h4, hn, hn1, hv, hz⟩
  have hlen : (L.take k).length = k := by simp; omega
  have hnn := hb _ _ hn1
  by_cases hc : z < k
  · obtain ⟨x, hx, hs, hw, g0, g1, g2⟩ := lastIdx (l := L.take k) (by intro e; rw [e] at hlen; simp at hlen; omega) (by omega)
    have hx' := hx
    have hc1 : (k : Int) > z := by omega
    rw [hlen] at hx hs hw g0 g1 g2
    have hd : L.drop (k - 1) = x :: L.drop k := by
      have : L[k - 1]? = some x := by rw [List.getElem?_take] at hx; simpa [show k - 1 < k by omega] using hx
      obtain ⟨h1, h2⟩ := List.getElem?_eq_some_iff.1 this
      rw [List.drop_eq_getElem_cons h1, h2, Nat.sub_add_cancel (by omega)]
    have ht : (L.take k).take (k - 1) = L.take (k - 1) := by rw [List.take_take, Nat.min_eq_left (by omega)]
    have hr : U (L.drop (k - 1)).reverse = U (L.drop k).reverse ++ [[.sc (.int .u64 x)]] := by rw [hd]; simp [U]
    have hql : (U (L.drop k).reverse).length ≤ 1000000 := by simp [U_len]; omega
    have hne1 : ¬ n = s.n := by omega
    have hne2 : ¬ n + 1 = s.n := by omega
    have hne3 : ¬ n = s.n + 1 := by omega
    have hne4 : ¬ n + 1 = s.n + 1 := by omega
    have hne5 : ¬ s.n + 1 = n := by omega
    generalize U (L.drop k).reverse = q at *
    rcases hv.cases hb with ⟨h7, h8⟩ | ⟨id, hlt2, hne, h7, h8⟩
    · subst h7
      simp (maxSteps := 400000) (dsimp := false) only [h1, h2, h4, hn, U_len, hlen, hc1, axs, AThen, ABlock, dstsOk, AStep, callsF, AWant, aop, AS.ev, AS.put, upd, AS.bound, abin, aint, aload, astore, cellsAt, AV.cells, alen, elems, AV.int?, FPost, aresL, ares1, pack, afill, splice, Value.oneCell', Nat.reduceLT, Nat.reduceLeDiff, Nat.reduceEqDiff, Nat.reduceAdd, Nat.reduceMul, Nat.reduceSub, Nat.reduceBEq, Int.reduceLE, Int.reduceLT, Int.reduceToNat, Int.reduceNeg, Int.reduceEq, axt, ftK, pickP, AScope, AAll, pickQ, ftQ, inHeap, S2, tys]
      refine ACallK.strict rfl (rBack (L.take k) x (by omega) hx') (by simp only [SeesL, h1, h2, h4, h8, hn, hne1, hne2, hne3, hne4, U_len, hlen, hw, g0, g2, U_take, ht, axs, axt, AS.ev, AS.put, upd, inHeap, Nat.reduceLT, Nat.reduceEqDiff, Nat.reduceAdd, Nat.reduceBEq, S2]; repeat' (first | exact True.intro | exact Sees.sc | exact Sees.none | ((with_reducible refine Sees.same ?_) <;> simp [noIds, noIdsL, noIdsE, noIdsE_U, noIdsE_UU] <;> fail) | (refine Live.sees ?_ ?_ <;> first | assumption | (simp [noIdsE_U, noIdsE_UU] <;> fail)) | (refine Sees.obj ?_ ?_ ?_ <;> first | exact ⟨_, _, by assumption, rfl⟩ | (simp [U_len, UU_len] <;> fail) | (simp [noIdsE_U, noIdsE_UU] <;> fail) | (simp [U, UU, upd] <;> fail) | (simp [U, UU, upd, neS, *] <;> fail)) | (refine Sees.of_seen 3 ?_ <;> simp [seen, upd, noIdsE, noIdsL, noIds, U, UU, Nat.add_assoc] <;> fail) | refine Sees.agg ?_ | refine And.intro ?_ ?_ | simp only [SeesL])) ?_; simp (maxSteps := 400000) (dsimp := false) only [h1, h2, h4, h8, hn, hne1, hne2, hne3, hne4, U_len, hlen, hw, g0, g2, U_take, ht, axs, AThen, ABlock, dstsOk, AStep, callsF, AWant, aop, AS.ev, AS.put, upd, AS.bound, abin, aint, aload, astore, cellsAt, AV.cells, alen, elems, AV.int?, FPost, aresL, ares1, pack, afill, splice, Value.oneCell', Nat.reduceLT, Nat.reduceLeDiff, Nat.reduceEqDiff, Nat.reduceAdd, Nat.reduceMul, Nat.reduceSub, Nat.reduceBEq, Int.reduceLE, Int.reduceLT, Int.reduceToNat, Int.reduceNeg, Int.reduceEq, axt, ftK, pickP, AScope, AAll, pickQ, ftQ, inHeap, S2, tys]
      exact ⟨k - 1, by omega, by omega, rfl, by simp [upd, hn1], by rw [hr]; exact Live.mk (by simp [upd, hne5]) rfl, by omega⟩
    · have b1 : (q.length + 1) * 8 ≤ 140737488355328 := by omega
      have b2 : q.length + 1 ≤ 1099511627776 := by omega
      have hid1 : ¬ id = n := by rintro rfl; rw [hn] at h8; simp at h8
      have hid2 : ¬ id = n + 1 := by rintro rfl; rw [hn1] at h8; simp at h8
      have hid3 : ¬ n = id := fun h => hid1 h.symm
      have hid4 : ¬ n + 1 = id := fun h => hid2 h.symm
      simp (maxSteps := 400000) (dsimp := false) only [h1, h2, h4, hn, U_len, hlen, hc1, axs, AThen, ABlock, dstsOk, AStep, callsF, AWant, aop, AS.ev, AS.put, upd, AS.bound, abin, aint, aload, astore, cellsAt, AV.cells, alen, elems, AV.int?, FPost, aresL, ares1, pack, afill, splice, Value.oneCell', Nat.reduceLT, Nat.reduceLeDiff, Nat.reduceEqDiff, Nat.reduceAdd, Nat.reduceMul, Nat.reduceSub, Nat.reduceBEq, Int.reduceLE, Int.reduceLT, Int.reduceToNat, Int.reduceNeg, Int.reduceEq, axt, ftK, pickP, AScope, AAll, pickQ, ftQ, inHeap, S2, tys]
      refine ACallK.strict rfl (rBack (L.take k) x (by omega) hx') (by simp only [SeesL, h1, h2, h4, h7, h8, hn, hne, hid1, hid2, hid3, hid4, hne1, hne2, hne3, hne4, b1, b2, U_len, hlen, hw, g0, g2, U_take, ht, axs, axt, AS.ev, AS.put, upd, inHeap, Nat.reduceLT, Nat.reduceEqDiff, Nat.reduceAdd, Nat.reduceBEq, S2]; repeat' (first | exact True.intro | exact Sees.sc | exact Sees.none | ((with_reducible refine Sees.same ?_) <;> simp [noIds, noIdsL, noIdsE, noIdsE_U, noIdsE_UU] <;> fail) | (refine Live.sees ?_ ?_ <;> first | assumption | (simp [noIdsE_U, noIdsE_UU] <;> fail)) | (refine Sees.obj ?_ ?_ ?_ <;> first | exact ⟨_, _, by assumption, rfl⟩ | (simp [U_len, UU_len] <;> fail) | (simp [noIdsE_U, noIdsE_UU] <;> fail) | (simp [U, UU, upd] <;> fail) | (simp [U, UU, upd, neS, *] <;> fail)) | (refine Sees.of_seen 3 ?_ <;> simp [seen, upd, noIdsE, noIdsL, noIds, U, UU, Nat.add_assoc] <;> fail) | refine Sees.agg ?_ | refine And.intro ?_ ?_ | simp only [SeesL])) ?_; simp (maxSteps := 400000) (dsimp := false) only [h1, h2, h4, h7, h8, hn, hne, hid1, hid2, hid3, hid4, hne1, hne2, hne3, hne4, b1, b2, U_len, hlen, hw, g0, g2, U_take, ht, axs, AThen, ABlock, dstsOk, AStep, callsF, AWant, aop, AS.ev, AS.put, upd, AS.bound, abin, aint, aload, astore, cellsAt, AV.cells, alen, elems, AV.int?, FPost, aresL, ares1, pack, afill, splice, Value.oneCell', Nat.reduceLT, Nat.reduceLeDiff, Nat.reduceEqDiff, Nat.reduceAdd, Nat.reduceMul, Nat.reduceSub, Nat.reduceBEq, Int.reduceLE, Int.reduceLT, Int.reduceToNat, Int.reduceNeg, Int.reduceEq, axt, ftK, pickP, AScope, AAll, pickQ, ftQ, inHeap, S2, tys]
      exact ⟨k - 1, by omega, by omega, rfl, by simp [upd, hn1, hid4, hne4, hne2], by rw [hr]; exact Live.mk (by simp [upd, hne5]) (by simp), by omega⟩
  · have e : (max z 0).toNat = k ∨ (k = L.length ∧ L.length ≤ (max z 0).toNat) := by omega
    have hf : fallen L z = (L.drop k).reverse ∧ cutTo L z = L.take k := by
      unfold fallen cutTo
      rcases e with e | ⟨e1, e2⟩
      · rw [e]; exact ⟨rfl, rfl⟩
      · rw [e1, List.take_length, List.take_of_length_le e2, List.drop_length, List.drop_of_length_le e2]; exact ⟨rfl, rfl⟩
    rw [hf.1, hf.2]
    have hc1 : ¬ (k : Int) > z := by omega
    have hv' := hv
    simp (maxSteps := 400000) (dsimp := false) only [h1, h2, h4, hn, hn1, U_len, hlen, hc1, axs, AThen, ABlock, dstsOk, AStep, callsF, AWant, aop, AS.ev, AS.put, upd, AS.bound, abin, aint, aload, astore, cellsAt, AV.cells, alen, elems, AV.int?, FPost, aresL, ares1, pack, afill, splice, Value.oneCell', Nat.reduceLT, Nat.reduceLeDiff, Nat.reduceEqDiff, Nat.reduceAdd, Nat.reduceMul, Nat.reduceSub, Nat.reduceBEq, Int.reduceLE, Int.reduceLT, Int.reduceToNat, Int.reduceNeg, Int.reduceEq, axt, ftK, pickP, AScope, AAll, pickQ, ftQ, inHeap, S2, tys]
    refine ⟨_, rfl, Sees.tup ?_⟩
    simp only [SeesL]
    refine ⟨Sees.same (by simp [noIds, noIdsL, noIdsE_U]), ?_, trivial⟩
    rcases hv with ⟨h7, h8⟩ | ⟨id, h7, h8⟩
    · rw [h8, h7]; exact Sees.none
    · have hid2 : ¬ id = n + 1 := by rintro rfl; rw [hn1] at h8; simp at h8
      rw [h7]
      exact Sees.obj ⟨_, _, (upd_ne _ _ hid2).trans h8, rfl⟩ rfl (noIdsE_U _)
end Go.Al
