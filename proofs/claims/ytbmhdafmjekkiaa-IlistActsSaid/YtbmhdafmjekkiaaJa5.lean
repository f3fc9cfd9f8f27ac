/- Lists of places: the program's lists, and the reference's, are told alike. Conditions: few places. -/
import Derived.Test.YtbmhdafmjekkiaaIz7
import Derived.Test.YtbmhdafmjekkiaaJa2
set_option linter.unusedVariables false
set_option linter.unusedSimpArgs false
set_option maxRecDepth 20000
set_option maxHeartbeats 1600000
-- axs, AThen, ABlock, dstsOk, AStep, callsF, AWant, aop, AS.ev, AS.put, upd, AS.bound, abin, aint, aload, astore, cellsAt, AV.cells, alen, elems, AV.int?, FPost, aresL, ares1, pack, afill, splice, Value.oneCell', Nat.reduceLT, Nat.reduceLeDiff, Nat.reduceEqDiff, Nat.reduceAdd, Nat.reduceMul, Nat.reduceSub, Nat.reduceBEq, Int.reduceLE, Int.reduceLT, Int.reduceToNat, Int.reduceNeg, Int.reduceEq, axt, ftK, ft3, pickP, AScope, AAll, pickQ, ftQ, inHeap, Nd.cells, tys: Nd.cells
-- NOIDS: noIdsE_I32, noIdsE_ND, noIdsE_LA, noIdsE_LS
-- LENS: I32_len, ND_len, LA_len, LS_len
namespace Go.Al
open Go.Proofs
def nbH (H : AH) (n : Nat) (R : RA) (i : Int) : AH := if (raAt R i).tag = 0 then upd H n (some (.obj 41 6 [(raAt R i).cells] false)) else upd (upd H n (some (.obj 41 6 [(raAt R i).cells] false))) (n + 1) (some (.obj 41 6 [(raAt R i).cells] false))
def nbN (n : Nat) (R : RA) (i : Int) : Nat := if (raAt R i).tag = 0 then n + 1 else n + 1 + 1
theorem nb_keeps (H : AH) (n : Nat) (R : RA) (i : Int) : Keeps H n (nbH H n R i) (nbN n R i) := by
  unfold nbH nbN
  split
  · exact (Keeps.refl _ _).upd
  · exact (Keeps.refl _ _).upd.upd
theorem cLsBeforeD {H : AH} {n L r a s : Nat} {fv : AV} {R : RA} {rows : List Rw} (h : LsH H n L r a s fv R rows) (ok : RaOk R) (i : Int) (hi : I32ok i) (h0 : 0 ≤ (raAt R i).tag) (h1 : (raAt R i).tag ≤ 1000) (hz : (raAt R i).tag = 0 → (raAt R i).prev = 0) :
    HCalls Try.prog 27 [.ptr L 2 0 0, .sc (.int .i32 i)] H n fun v H' n' => v = .sc (.int .i32 (raAt R i).prev) ∧ H' = nbH H n R i ∧ n' = nbN n R i := by
  have hL := h.hL
  have ne1 : ¬ L = n := by have := h.lL; omega
  unfold nbH nbN
  by_cases hc : (raAt R i).tag = 0
  · have hc1 : (raAt R i).tag - 1 = -1 := by omega
    rw [hz hc, if_pos hc, if_pos hc]
    refine HCalls.walk Try.func27 rfl rfl Try.ntmps27 Try.results27 (by simp) ?_; simp (maxSteps := 400000) (dsimp := false) only [axs, AThen, ABlock, dstsOk, AStep, callsF, AWant, aop, AS.ev, AS.put, upd, AS.bound, abin, aint, aload, astore, cellsAt, AV.cells, alen, elems, AV.int?, FPost, aresL, ares1, pack, afill, splice, Value.oneCell', Nat.reduceLT, Nat.reduceLeDiff, Nat.reduceEqDiff, Nat.reduceAdd, Nat.reduceMul, Nat.reduceSub, Nat.reduceBEq, Int.reduceLE, Int.reduceLT, Int.reduceToNat, Int.reduceNeg, Int.reduceEq, axt, ftK, ft3, pickP, AScope, AAll, pickQ, ftQ, inHeap, Nd.cells, tys]
    refine ACallK.heap _ rfl (cLsTag h ok i hi h0 h1) ?_; rintro r' H' n' ⟨rfl, eH, en⟩; obtain rfl := eH.symm; obtain rfl := en.symm; clear eH en; simp (maxSteps := 400000) (dsimp := false) only [hc1, axs, AThen, ABlock, dstsOk, AStep, callsF, AWant, aop, AS.ev, AS.put, upd, AS.bound, abin, aint, aload, astore, cellsAt, AV.cells, alen, elems, AV.int?, FPost, aresL, ares1, pack, afill, splice, Value.oneCell', Nat.reduceLT, Nat.reduceLeDiff, Nat.reduceEqDiff, Nat.reduceAdd, Nat.reduceMul, Nat.reduceSub, Nat.reduceBEq, Int.reduceLE, Int.reduceLT, Int.reduceToNat, Int.reduceNeg, Int.reduceEq, axt, ftK, ft3, pickP, AScope, AAll, pickQ, ftQ, inHeap, Nd.cells, tys]
    exact ⟨_, rfl, rfl⟩
  · have hc1 : ¬ (raAt R i).tag - 1 = -1 := by omega
    rw [if_neg hc, if_neg hc]
    refine HCalls.walk Try.func27 rfl rfl Try.ntmps27 Try.results27 (by simp) ?_; simp (maxSteps := 400000) (dsimp := false) only [axs, AThen, ABlock, dstsOk, AStep, callsF, AWant, aop, AS.ev, AS.put, upd, AS.bound, abin, aint, aload, astore, cellsAt, AV.cells, alen, elems, AV.int?, FPost, aresL, ares1, pack, afill, splice, Value.oneCell', Nat.reduceLT, Nat.reduceLeDiff, Nat.reduceEqDiff, Nat.reduceAdd, Nat.reduceMul, Nat.reduceSub, Nat.reduceBEq, Int.reduceLE, Int.reduceLT, Int.reduceToNat, Int.reduceNeg, Int.reduceEq, axt, ftK, ft3, pickP, AScope, AAll, pickQ, ftQ, inHeap, Nd.cells, tys]
    refine ACallK.heap _ rfl (cLsTag h ok i hi h0 h1) ?_; rintro r' H' n' ⟨rfl, eH, en⟩; obtain rfl := eH.symm; obtain rfl := en.symm; clear eH en; simp (maxSteps := 400000) (dsimp := false) only [hc1, hL, ne1, axs, AThen, ABlock, dstsOk, AStep, callsF, AWant, aop, AS.ev, AS.put, upd, AS.bound, abin, aint, aload, astore, cellsAt, AV.cells, alen, elems, AV.int?, FPost, aresL, ares1, pack, afill, splice, Value.oneCell', Nat.reduceLT, Nat.reduceLeDiff, Nat.reduceEqDiff, Nat.reduceAdd, Nat.reduceMul, Nat.reduceSub, Nat.reduceBEq, Int.reduceLE, Int.reduceLT, Int.reduceToNat, Int.reduceNeg, Int.reduceEq, axt, ftK, ft3, pickP, AScope, AAll, pickQ, ftQ, inHeap, Nd.cells, tys]
    refine ACallK.heap _ rfl (cRAt h.new.ar ok i hi) ?_; rintro r' H' n' ⟨rfl, eH, en⟩; obtain rfl := eH.symm; obtain rfl := en.symm; clear eH en; simp (maxSteps := 400000) (dsimp := false) only [axs, AThen, ABlock, dstsOk, AStep, callsF, AWant, aop, AS.ev, AS.put, upd, AS.bound, abin, aint, aload, astore, cellsAt, AV.cells, alen, elems, AV.int?, FPost, aresL, ares1, pack, afill, splice, Value.oneCell', Nat.reduceLT, Nat.reduceLeDiff, Nat.reduceEqDiff, Nat.reduceAdd, Nat.reduceMul, Nat.reduceSub, Nat.reduceBEq, Int.reduceLE, Int.reduceLT, Int.reduceToNat, Int.reduceNeg, Int.reduceEq, axt, ftK, ft3, pickP, AScope, AAll, pickQ, ftQ, inHeap, Nd.cells, tys]
    exact ⟨_, rfl, rfl⟩
theorem cLsAfterD {H : AH} {n L r a s : Nat} {fv : AV} {R : RA} {rows : List Rw} (h : LsH H n L r a s fv R rows) (ok : RaOk R) (i : Int) (hi : I32ok i) (h0 : 0 ≤ (raAt R i).tag) (h1 : (raAt R i).tag ≤ 1000) (hz : (raAt R i).tag = 0 → (raAt R i).next = 0) :
    HCalls Try.prog 26 [.ptr L 2 0 0, .sc (.int .i32 i)] H n fun v H' n' => v = .sc (.int .i32 (raAt R i).next) ∧ H' = nbH H n R i ∧ n' = nbN n R i := by
  have hL := h.hL
  have ne1 : ¬ L = n := by have := h.lL; omega
  unfold nbH nbN
  by_cases hc : (raAt R i).tag = 0
  · have hc1 : (raAt R i).tag - 1 = -1 := by omega
    rw [hz hc, if_pos hc, if_pos hc]
    refine HCalls.walk Try.func26 rfl rfl Try.ntmps26 Try.results26 (by simp) ?_; simp (maxSteps := 400000) (dsimp := false) only [axs, AThen, ABlock, dstsOk, AStep, callsF, AWant, aop, AS.ev, AS.put, upd, AS.bound, abin, aint, aload, astore, cellsAt, AV.cells, alen, elems, AV.int?, FPost, aresL, ares1, pack, afill, splice, Value.oneCell', Nat.reduceLT, Nat.reduceLeDiff, Nat.reduceEqDiff, Nat.reduceAdd, Nat.reduceMul, Nat.reduceSub, Nat.reduceBEq, Int.reduceLE, Int.reduceLT, Int.reduceToNat, Int.reduceNeg, Int.reduceEq, axt, ftK, ft3, pickP, AScope, AAll, pickQ, ftQ, inHeap, Nd.cells, tys]
    refine ACallK.heap _ rfl (cLsTag h ok i hi h0 h1) ?_; rintro r' H' n' ⟨rfl, eH, en⟩; obtain rfl := eH.symm; obtain rfl := en.symm; clear eH en; simp (maxSteps := 400000) (dsimp := false) only [hc1, axs, AThen, ABlock, dstsOk, AStep, callsF, AWant, aop, AS.ev, AS.put, upd, AS.bound, abin, aint, aload, astore, cellsAt, AV.cells, alen, elems, AV.int?, FPost, aresL, ares1, pack, afill, splice, Value.oneCell', Nat.reduceLT, Nat.reduceLeDiff, Nat.reduceEqDiff, Nat.reduceAdd, Nat.reduceMul, Nat.reduceSub, Nat.reduceBEq, Int.reduceLE, Int.reduceLT, Int.reduceToNat, Int.reduceNeg, Int.reduceEq, axt, ftK, ft3, pickP, AScope, AAll, pickQ, ftQ, inHeap, Nd.cells, tys]
    exact ⟨_, rfl, rfl⟩
  · have hc1 : ¬ (raAt R i).tag - 1 = -1 := by omega
    rw [if_neg hc, if_neg hc]
    refine HCalls.walk Try.func26 rfl rfl Try.ntmps26 Try.results26 (by simp) ?_; simp (maxSteps := 400000) (dsimp := false) only [axs, AThen, ABlock, dstsOk, AStep, callsF, AWant, aop, AS.ev, AS.put, upd, AS.bound, abin, aint, aload, astore, cellsAt, AV.cells, alen, elems, AV.int?, FPost, aresL, ares1, pack, afill, splice, Value.oneCell', Nat.reduceLT, Nat.reduceLeDiff, Nat.reduceEqDiff, Nat.reduceAdd, Nat.reduceMul, Nat.reduceSub, Nat.reduceBEq, Int.reduceLE, Int.reduceLT, Int.reduceToNat, Int.reduceNeg, Int.reduceEq, axt, ftK, ft3, pickP, AScope, AAll, pickQ, ftQ, inHeap, Nd.cells, tys]
    refine ACallK.heap _ rfl (cLsTag h ok i hi h0 h1) ?_; rintro r' H' n' ⟨rfl, eH, en⟩; obtain rfl := eH.symm; obtain rfl := en.symm; clear eH en; simp (maxSteps := 400000) (dsimp := false) only [hc1, hL, ne1, axs, AThen, ABlock, dstsOk, AStep, callsF, AWant, aop, AS.ev, AS.put, upd, AS.bound, abin, aint, aload, astore, cellsAt, AV.cells, alen, elems, AV.int?, FPost, aresL, ares1, pack, afill, splice, Value.oneCell', Nat.reduceLT, Nat.reduceLeDiff, Nat.reduceEqDiff, Nat.reduceAdd, Nat.reduceMul, Nat.reduceSub, Nat.reduceBEq, Int.reduceLE, Int.reduceLT, Int.reduceToNat, Int.reduceNeg, Int.reduceEq, axt, ftK, ft3, pickP, AScope, AAll, pickQ, ftQ, inHeap, Nd.cells, tys]
    refine ACallK.heap _ rfl (cRAt h.new.ar ok i hi) ?_; rintro r' H' n' ⟨rfl, eH, en⟩; obtain rfl := eH.symm; obtain rfl := en.symm; clear eH en; simp (maxSteps := 400000) (dsimp := false) only [axs, AThen, ABlock, dstsOk, AStep, callsF, AWant, aop, AS.ev, AS.put, upd, AS.bound, abin, aint, aload, astore, cellsAt, AV.cells, alen, elems, AV.int?, FPost, aresL, ares1, pack, afill, splice, Value.oneCell', Nat.reduceLT, Nat.reduceLeDiff, Nat.reduceEqDiff, Nat.reduceAdd, Nat.reduceMul, Nat.reduceSub, Nat.reduceBEq, Int.reduceLE, Int.reduceLT, Int.reduceToNat, Int.reduceNeg, Int.reduceEq, axt, ftK, ft3, pickP, AScope, AAll, pickQ, ftQ, inHeap, Nd.cells, tys]
    exact ⟨_, rfl, rfl⟩
section
variable {R : RA} {rows : List Rw} {ls : List (List Int)}
theorem LInv.len_all (inv : LInv R rows ls) (t : Int) : lenR rows t = ((allL ls t).length : Int) := by
  unfold lenR allL
  by_cases h0 : 0 ≤ t
  · rw [if_pos h0]
    by_cases h1 : t < rows.length
    · obtain ⟨l, hl, hr⟩ := inv.at (t := t.toNat) (by omega)
      rw [if_pos ⟨h0, h1⟩, hr, List.getD_eq_getElem?_getD, hl]
      rfl
    · rw [if_neg (by omega), List.getD_eq_getElem?_getD, List.getElem?_eq_none (by rw [← inv.len]; omega)]
      rfl
  · rw [if_neg (by omega), if_neg h0]; rfl
theorem LInv.back_all (inv : LInv R rows ls) (t : Int) : backR rows t = (allL ls t).getLastD 0 := by
  unfold backR allL
  by_cases h0 : 0 ≤ t
  · rw [if_pos h0]
    by_cases h1 : t < rows.length
    · obtain ⟨l, hl, hr⟩ := inv.at (t := t.toNat) (by omega)
      rw [if_pos ⟨h0, h1⟩, hr, List.getD_eq_getElem?_getD, hl]
      rfl
    · rw [if_neg (by omega), List.getD_eq_getElem?_getD, List.getElem?_eq_none (by rw [← inv.len]; omega)]
      rfl
  · rw [if_neg (by omega), if_neg h0]; rfl
end
theorem cSame04 {H : AH} {n L r a s k : Nat} {fv : AV} {R : RA} {rows : List Rw} {ls : List (List Int)} (u : Run H n L r a s fv k R rows ls) (hk : k ≤ 3) :
    HCalls Try.prog 29 [.ptr L 2 0 0, LVs raQ ls] H n fun v H' n' => v = .sc (.bool true) ∧ Keeps H n H' n' := by
  have he : R.ever ≤ 1000 := by rw [u.ever]; omega
  have h8 : ls.length ≤ 100 := by rw [u.len]; omega
  have inv := u.inv
  have ok := inv.ok
  unfold LVs
  refine HCalls.walk Try.func29 rfl rfl Try.ntmps29 Try.results29 (by simp) ?_; simp (maxSteps := 400000) (dsimp := false) only [axs, AThen, ABlock, dstsOk, AStep, callsF, AWant, aop, AS.ev, AS.put, upd, AS.bound, abin, aint, aload, astore, cellsAt, AV.cells, alen, elems, AV.int?, FPost, aresL, ares1, pack, afill, splice, Value.oneCell', Nat.reduceLT, Nat.reduceLeDiff, Nat.reduceEqDiff, Nat.reduceAdd, Nat.reduceMul, Nat.reduceSub, Nat.reduceBEq, Int.reduceLE, Int.reduceLT, Int.reduceToNat, Int.reduceNeg, Int.reduceEq, axt, ftK, ft3, pickP, AScope, AAll, pickQ, ftQ, inHeap, Nd.cells, tys]
  refine ALoop.upto 5 (fun p t => t.t 0 = .ptr L 2 0 0 ∧ t.t 3 = .ptr n 5 0 0 ∧ t.t 5 = .sc (.int .i64 ((p : Int) - 1)) ∧ n < t.n ∧ t.H n = some (.obj 32 5 [[.sc (.int .i64 raQ.len), .sc (.int .i64 raQ.ever), .lst 1 (I32 raQ.freed), .lst 6 (ND raQ.nodes), .lst 1 (LS ls)]] false) ∧ Keeps H n t.H t.n) ⟨rfl, rfl, rfl, by show n < n + 1; omega, by simp [upd], (Keeps.refl _ _).upd⟩ ?_
  rintro p st hp hb ⟨e0, e3, e5, hlt0, eb, kp⟩
  have w1 : IntKind.i64.wrap ((p : Int) - 1 + 1) = ((p + 1 : Nat) : Int) - 1 := by rw [IntWalk.i64_in _ ⟨by omega, by omega⟩]; omega
  rcases Nat.lt_or_ge p 5 with hlt | hge
  · have hpl : (p : Int) - 1 < 4 := by omega
    have u2 := u.keeps kp
    have ca := cLsAll u2.h inv h8 he ((p : Int) - 1)
    have cl : HCalls Try.prog 11 [.ptr L 2 0 0, .sc (.int .i64 ((p : Int) - 1))] st.H st.n fun v H' n' => v = .sc (.int .i64 (lenR rows ((p : Int) - 1))) ∧ H' = st.H ∧ n' = st.n := cLsLen u2.h _
    have cf : HCalls Try.prog 19 [.ptr L 2 0 0, .sc (.int .i64 ((p : Int) - 1))] st.H st.n fun v H' n' => v = .sc (.int .i32 (frontR rows ((p : Int) - 1))) ∧ H' = st.H ∧ n' = st.n := cLsFront u2.h _
    have cb : HCalls Try.prog 25 [.ptr L 2 0 0, .sc (.int .i64 ((p : Int) - 1))] st.H st.n fun v H' n' => v = .sc (.int .i32 (backR rows ((p : Int) - 1))) ∧ H' = st.H ∧ n' = st.n := cLsBack u2.h _
    have cr := rAll raQ ls ((p : Int) - 1)
    have hx6 := u.all_len ((p : Int) - 1)
    rw [inv.len_all] at cl
    rw [inv.front_eq] at cf
    rw [inv.back_all] at cb
    generalize allL ls ((p : Int) - 1) = xs at *
    have cs := rSame xs (by omega)
    unfold LVs at cr
    simp (maxSteps := 400000) (dsimp := false) only [e0, e3, e5, hpl, eb, axs, AThen, ABlock, dstsOk, AStep, callsF, AWant, aop, AS.ev, AS.put, upd, AS.bound, abin, aint, aload, astore, cellsAt, AV.cells, alen, elems, AV.int?, FPost, aresL, ares1, pack, afill, splice, Value.oneCell', Nat.reduceLT, Nat.reduceLeDiff, Nat.reduceEqDiff, Nat.reduceAdd, Nat.reduceMul, Nat.reduceSub, Nat.reduceBEq, Int.reduceLE, Int.reduceLT, Int.reduceToNat, Int.reduceNeg, Int.reduceEq, axt, ftK, ft3, pickP, AScope, AAll, pickQ, ftQ, inHeap, Nd.cells, tys]
    refine ACallK.strict rfl (cr) (by simp only [SeesL, e0, e3, e5, eb, I32_len, axs, axt, AS.ev, AS.put, upd, inHeap, Nat.reduceLT, Nat.reduceEqDiff, Nat.reduceAdd, Nat.reduceBEq, Nd.cells]; repeat' (first | exact True.intro | exact Sees.sc | exact Sees.none | ((with_reducible refine Sees.same ?_) <;> simp [noIds, noIdsL, noIdsE, noIdsE_U, noIdsE_UU, noIdsE_I32, noIdsE_ND, noIdsE_LA, noIdsE_LS] <;> fail) | (refine Live.sees ?_ ?_ <;> first | assumption | (simp [noIdsE_U, noIdsE_UU, noIdsE_I32, noIdsE_ND, noIdsE_LA, noIdsE_LS] <;> fail)) | (refine Sees.obj ?_ ?_ ?_ <;> first | exact ⟨_, _, by assumption, rfl⟩ | (simp [U_len, UU_len, I32_len, ND_len, LA_len, LS_len] <;> fail) | (simp [noIdsE_U, noIdsE_UU, noIdsE_I32, noIdsE_ND, noIdsE_LA, noIdsE_LS] <;> fail) | (simp [U, UU, upd] <;> fail) | (simp [U, UU, upd, neS, *] <;> fail)) | (refine Sees.of_seen 3 ?_ <;> simp [seen, upd, noIdsE, noIdsL, noIds, U, UU, Nat.add_assoc] <;> fail) | refine Sees.agg ?_ | refine And.intro ?_ ?_ | simp only [SeesL])) ?_; simp (maxSteps := 400000) (dsimp := false) only [e0, e3, e5, eb, I32_len, axs, AThen, ABlock, dstsOk, AStep, callsF, AWant, aop, AS.ev, AS.put, upd, AS.bound, abin, aint, aload, astore, cellsAt, AV.cells, alen, elems, AV.int?, FPost, aresL, ares1, pack, afill, splice, Value.oneCell', Nat.reduceLT, Nat.reduceLeDiff, Nat.reduceEqDiff, Nat.reduceAdd, Nat.reduceMul, Nat.reduceSub, Nat.reduceBEq, Int.reduceLE, Int.reduceLT, Int.reduceToNat, Int.reduceNeg, Int.reduceEq, axt, ftK, ft3, pickP, AScope, AAll, pickQ, ftQ, inHeap, Nd.cells, tys]
    by_cases hx : xs = []
    · have z0 : ¬ (xs.length : Int) > 0 := by rw [hx]; simp
      have c1 : hd0 xs = 0 := by rw [hx]; rfl
      have c2 : xs.getLastD 0 = 0 := by rw [hx]; rfl
      rw [c1] at cf
      rw [c2] at cb
      simp (maxSteps := 400000) (dsimp := false) only [e0, e3, e5, z0, axs, AThen, ABlock, dstsOk, AStep, callsF, AWant, aop, AS.ev, AS.put, upd, AS.bound, abin, aint, aload, astore, cellsAt, AV.cells, alen, elems, AV.int?, FPost, aresL, ares1, pack, afill, splice, Value.oneCell', Nat.reduceLT, Nat.reduceLeDiff, Nat.reduceEqDiff, Nat.reduceAdd, Nat.reduceMul, Nat.reduceSub, Nat.reduceBEq, Int.reduceLE, Int.reduceLT, Int.reduceToNat, Int.reduceNeg, Int.reduceEq, axt, ftK, ft3, pickP, AScope, AAll, pickQ, ftQ, inHeap, Nd.cells, tys]
      refine ACallK.heap _ rfl (ca) ?_; rintro r' H' n' ⟨rfl, eH, en⟩; obtain rfl := eH.symm; obtain rfl := en.symm; clear eH en; simp (maxSteps := 400000) (dsimp := false) only [e0, e3, e5, axs, AThen, ABlock, dstsOk, AStep, callsF, AWant, aop, AS.ev, AS.put, upd, AS.bound, abin, aint, aload, astore, cellsAt, AV.cells, alen, elems, AV.int?, FPost, aresL, ares1, pack, afill, splice, Value.oneCell', Nat.reduceLT, Nat.reduceLeDiff, Nat.reduceEqDiff, Nat.reduceAdd, Nat.reduceMul, Nat.reduceSub, Nat.reduceBEq, Int.reduceLE, Int.reduceLT, Int.reduceToNat, Int.reduceNeg, Int.reduceEq, axt, ftK, ft3, pickP, AScope, AAll, pickQ, ftQ, inHeap, Nd.cells, tys]
      refine ACallK.strict rfl (cs) (by simp only [SeesL, e0, e3, e5, axs, axt, AS.ev, AS.put, upd, inHeap, Nat.reduceLT, Nat.reduceEqDiff, Nat.reduceAdd, Nat.reduceBEq, Nd.cells]; repeat' (first | exact True.intro | exact Sees.sc | exact Sees.none | ((with_reducible refine Sees.same ?_) <;> simp [noIds, noIdsL, noIdsE, noIdsE_U, noIdsE_UU, noIdsE_I32, noIdsE_ND, noIdsE_LA, noIdsE_LS] <;> fail) | (refine Live.sees ?_ ?_ <;> first | assumption | (simp [noIdsE_U, noIdsE_UU, noIdsE_I32, noIdsE_ND, noIdsE_LA, noIdsE_LS] <;> fail)) | (refine Sees.obj ?_ ?_ ?_ <;> first | exact ⟨_, _, by assumption, rfl⟩ | (simp [U_len, UU_len, I32_len, ND_len, LA_len, LS_len] <;> fail) | (simp [noIdsE_U, noIdsE_UU, noIdsE_I32, noIdsE_ND, noIdsE_LA, noIdsE_LS] <;> fail) | (simp [U, UU, upd] <;> fail) | (simp [U, UU, upd, neS, *] <;> fail)) | (refine Sees.of_seen 3 ?_ <;> simp [seen, upd, noIdsE, noIdsL, noIds, U, UU, Nat.add_assoc] <;> fail) | refine Sees.agg ?_ | refine And.intro ?_ ?_ | simp only [SeesL])) ?_; simp (maxSteps := 400000) (dsimp := false) only [e0, e3, e5, axs, AThen, ABlock, dstsOk, AStep, callsF, AWant, aop, AS.ev, AS.put, upd, AS.bound, abin, aint, aload, astore, cellsAt, AV.cells, alen, elems, AV.int?, FPost, aresL, ares1, pack, afill, splice, Value.oneCell', Nat.reduceLT, Nat.reduceLeDiff, Nat.reduceEqDiff, Nat.reduceAdd, Nat.reduceMul, Nat.reduceSub, Nat.reduceBEq, Int.reduceLE, Int.reduceLT, Int.reduceToNat, Int.reduceNeg, Int.reduceEq, axt, ftK, ft3, pickP, AScope, AAll, pickQ, ftQ, inHeap, Nd.cells, tys]
      refine ACallK.heap _ rfl (cl) ?_; rintro r' H' n' ⟨rfl, eH, en⟩; obtain rfl := eH.symm; obtain rfl := en.symm; clear eH en; simp (maxSteps := 400000) (dsimp := false) only [e0, e3, e5, I32_len, bne_self_eq_false, axs, AThen, ABlock, dstsOk, AStep, callsF, AWant, aop, AS.ev, AS.put, upd, AS.bound, abin, aint, aload, astore, cellsAt, AV.cells, alen, elems, AV.int?, FPost, aresL, ares1, pack, afill, splice, Value.oneCell', Nat.reduceLT, Nat.reduceLeDiff, Nat.reduceEqDiff, Nat.reduceAdd, Nat.reduceMul, Nat.reduceSub, Nat.reduceBEq, Int.reduceLE, Int.reduceLT, Int.reduceToNat, Int.reduceNeg, Int.reduceEq, axt, ftK, ft3, pickP, AScope, AAll, pickQ, ftQ, inHeap, Nd.cells, tys]
      refine ACallK.heap _ rfl (cf) ?_; rintro r' H' n' ⟨rfl, eH, en⟩; obtain rfl := eH.symm; obtain rfl := en.symm; clear eH en; simp (maxSteps := 400000) (dsimp := false) only [e0, e3, e5, bne_self_eq_false, axs, AThen, ABlock, dstsOk, AStep, callsF, AWant, aop, AS.ev, AS.put, upd, AS.bound, abin, aint, aload, astore, cellsAt, AV.cells, alen, elems, AV.int?, FPost, aresL, ares1, pack, afill, splice, Value.oneCell', Nat.reduceLT, Nat.reduceLeDiff, Nat.reduceEqDiff, Nat.reduceAdd, Nat.reduceMul, Nat.reduceSub, Nat.reduceBEq, Int.reduceLE, Int.reduceLT, Int.reduceToNat, Int.reduceNeg, Int.reduceEq, axt, ftK, ft3, pickP, AScope, AAll, pickQ, ftQ, inHeap, Nd.cells, tys]
      refine ACallK.heap _ rfl (cb) ?_; rintro r' H' n' ⟨rfl, eH, en⟩; obtain rfl := eH.symm; obtain rfl := en.symm; clear eH en; simp (maxSteps := 400000) (dsimp := false) only [e0, e3, e5, bne_self_eq_false, w1, axs, AThen, ABlock, dstsOk, AStep, callsF, AWant, aop, AS.ev, AS.put, upd, AS.bound, abin, aint, aload, astore, cellsAt, AV.cells, alen, elems, AV.int?, FPost, aresL, ares1, pack, afill, splice, Value.oneCell', Nat.reduceLT, Nat.reduceLeDiff, Nat.reduceEqDiff, Nat.reduceAdd, Nat.reduceMul, Nat.reduceSub, Nat.reduceBEq, Int.reduceLE, Int.reduceLT, Int.reduceToNat, Int.reduceNeg, Int.reduceEq, axt, ftK, ft3, pickP, AScope, AAll, pickQ, ftQ, inHeap, Nd.cells, tys]
      exact ⟨hlt, hlt0, eb, kp⟩
    · have hpos := List.length_pos_iff.2 hx
      obtain ⟨m, hm⟩ : ∃ m : Nat, xs.length = m + 1 := ⟨xs.length - 1, by omega⟩
      have z0 : (xs.length : Int) > 0 := by omega
      have z1 : IntKind.i64.wrap ((xs.length : Int) - 1) = (m : Int) := by rw [IntWalk.i64_in _ ⟨by omega, by omega⟩]; omega
      have z2 : (0 : Int) ≤ (m : Int) := by omega
      have z3 : (m : Int) < xs.length := by omega
      have z4 : ((m : Int)).toNat = m := by omega
      have z5 : (I32 xs)[m]? = some [.sc (.int .i32 (xs.getLastD 0))] := by
        have := lastD_mem hx
        rw [hm] at this
        exact I32_get this
      have z6 : (0 : Int) < xs.length := z0
      have z7 : (I32 xs)[0]? = some [.sc (.int .i32 (hd0 xs))] := by
        cases xs with
        | nil => exact absurd rfl hx
        | cons y ys => rfl
      generalize xs.getLastD 0 = q at *
      generalize hd0 xs = y at *
      simp (maxSteps := 400000) (dsimp := false) only [e0, e3, e5, z0, z1, z2, z3, z4, z5, z6, z7, I32_len, axs, AThen, ABlock, dstsOk, AStep, callsF, AWant, aop, AS.ev, AS.put, upd, AS.bound, abin, aint, aload, astore, cellsAt, AV.cells, alen, elems, AV.int?, FPost, aresL, ares1, pack, afill, splice, Value.oneCell', Nat.reduceLT, Nat.reduceLeDiff, Nat.reduceEqDiff, Nat.reduceAdd, Nat.reduceMul, Nat.reduceSub, Nat.reduceBEq, Int.reduceLE, Int.reduceLT, Int.reduceToNat, Int.reduceNeg, Int.reduceEq, axt, ftK, ft3, pickP, AScope, AAll, pickQ, ftQ, inHeap, Nd.cells, tys]
      refine ACallK.heap _ rfl (ca) ?_; rintro r' H' n' ⟨rfl, eH, en⟩; obtain rfl := eH.symm; obtain rfl := en.symm; clear eH en; simp (maxSteps := 400000) (dsimp := false) only [e0, e3, e5, axs, AThen, ABlock, dstsOk, AStep, callsF, AWant, aop, AS.ev, AS.put, upd, AS.bound, abin, aint, aload, astore, cellsAt, AV.cells, alen, elems, AV.int?, FPost, aresL, ares1, pack, afill, splice, Value.oneCell', Nat.reduceLT, Nat.reduceLeDiff, Nat.reduceEqDiff, Nat.reduceAdd, Nat.reduceMul, Nat.reduceSub, Nat.reduceBEq, Int.reduceLE, Int.reduceLT, Int.reduceToNat, Int.reduceNeg, Int.reduceEq, axt, ftK, ft3, pickP, AScope, AAll, pickQ, ftQ, inHeap, Nd.cells, tys]
      refine ACallK.strict rfl (cs) (by simp only [SeesL, e0, e3, e5, axs, axt, AS.ev, AS.put, upd, inHeap, Nat.reduceLT, Nat.reduceEqDiff, Nat.reduceAdd, Nat.reduceBEq, Nd.cells]; repeat' (first | exact True.intro | exact Sees.sc | exact Sees.none | ((with_reducible refine Sees.same ?_) <;> simp [noIds, noIdsL, noIdsE, noIdsE_U, noIdsE_UU, noIdsE_I32, noIdsE_ND, noIdsE_LA, noIdsE_LS] <;> fail) | (refine Live.sees ?_ ?_ <;> first | assumption | (simp [noIdsE_U, noIdsE_UU, noIdsE_I32, noIdsE_ND, noIdsE_LA, noIdsE_LS] <;> fail)) | (refine Sees.obj ?_ ?_ ?_ <;> first | exact ⟨_, _, by assumption, rfl⟩ | (simp [U_len, UU_len, I32_len, ND_len, LA_len, LS_len] <;> fail) | (simp [noIdsE_U, noIdsE_UU, noIdsE_I32, noIdsE_ND, noIdsE_LA, noIdsE_LS] <;> fail) | (simp [U, UU, upd] <;> fail) | (simp [U, UU, upd, neS, *] <;> fail)) | (refine Sees.of_seen 3 ?_ <;> simp [seen, upd, noIdsE, noIdsL, noIds, U, UU, Nat.add_assoc] <;> fail) | refine Sees.agg ?_ | refine And.intro ?_ ?_ | simp only [SeesL])) ?_; simp (maxSteps := 400000) (dsimp := false) only [e0, e3, e5, axs, AThen, ABlock, dstsOk, AStep, callsF, AWant, aop, AS.ev, AS.put, upd, AS.bound, abin, aint, aload, astore, cellsAt, AV.cells, alen, elems, AV.int?, FPost, aresL, ares1, pack, afill, splice, Value.oneCell', Nat.reduceLT, Nat.reduceLeDiff, Nat.reduceEqDiff, Nat.reduceAdd, Nat.reduceMul, Nat.reduceSub, Nat.reduceBEq, Int.reduceLE, Int.reduceLT, Int.reduceToNat, Int.reduceNeg, Int.reduceEq, axt, ftK, ft3, pickP, AScope, AAll, pickQ, ftQ, inHeap, Nd.cells, tys]
      refine ACallK.heap _ rfl (cl) ?_; rintro r' H' n' ⟨rfl, eH, en⟩; obtain rfl := eH.symm; obtain rfl := en.symm; clear eH en; simp (maxSteps := 400000) (dsimp := false) only [e0, e3, e5, I32_len, bne_self_eq_false, axs, AThen, ABlock, dstsOk, AStep, callsF, AWant, aop, AS.ev, AS.put, upd, AS.bound, abin, aint, aload, astore, cellsAt, AV.cells, alen, elems, AV.int?, FPost, aresL, ares1, pack, afill, splice, Value.oneCell', Nat.reduceLT, Nat.reduceLeDiff, Nat.reduceEqDiff, Nat.reduceAdd, Nat.reduceMul, Nat.reduceSub, Nat.reduceBEq, Int.reduceLE, Int.reduceLT, Int.reduceToNat, Int.reduceNeg, Int.reduceEq, axt, ftK, ft3, pickP, AScope, AAll, pickQ, ftQ, inHeap, Nd.cells, tys]
      refine ACallK.heap _ rfl (cf) ?_; rintro r' H' n' ⟨rfl, eH, en⟩; obtain rfl := eH.symm; obtain rfl := en.symm; clear eH en; simp (maxSteps := 400000) (dsimp := false) only [e0, e3, e5, bne_self_eq_false, axs, AThen, ABlock, dstsOk, AStep, callsF, AWant, aop, AS.ev, AS.put, upd, AS.bound, abin, aint, aload, astore, cellsAt, AV.cells, alen, elems, AV.int?, FPost, aresL, ares1, pack, afill, splice, Value.oneCell', Nat.reduceLT, Nat.reduceLeDiff, Nat.reduceEqDiff, Nat.reduceAdd, Nat.reduceMul, Nat.reduceSub, Nat.reduceBEq, Int.reduceLE, Int.reduceLT, Int.reduceToNat, Int.reduceNeg, Int.reduceEq, axt, ftK, ft3, pickP, AScope, AAll, pickQ, ftQ, inHeap, Nd.cells, tys]
      refine ACallK.heap _ rfl (cb) ?_; rintro r' H' n' ⟨rfl, eH, en⟩; obtain rfl := eH.symm; obtain rfl := en.symm; clear eH en; simp (maxSteps := 400000) (dsimp := false) only [e0, e3, e5, bne_self_eq_false, w1, axs, AThen, ABlock, dstsOk, AStep, callsF, AWant, aop, AS.ev, AS.put, upd, AS.bound, abin, aint, aload, astore, cellsAt, AV.cells, alen, elems, AV.int?, FPost, aresL, ares1, pack, afill, splice, Value.oneCell', Nat.reduceLT, Nat.reduceLeDiff, Nat.reduceEqDiff, Nat.reduceAdd, Nat.reduceMul, Nat.reduceSub, Nat.reduceBEq, Int.reduceLE, Int.reduceLT, Int.reduceToNat, Int.reduceNeg, Int.reduceEq, axt, ftK, ft3, pickP, AScope, AAll, pickQ, ftQ, inHeap, Nd.cells, tys]
      exact ⟨hlt, hlt0, eb, kp⟩
  · have hpl : ¬ (p : Int) - 1 < 4 := by omega
    simp (maxSteps := 400000) (dsimp := false) only [e0, e3, e5, hpl, eb, axs, AThen, ABlock, dstsOk, AStep, callsF, AWant, aop, AS.ev, AS.put, upd, AS.bound, abin, aint, aload, astore, cellsAt, AV.cells, alen, elems, AV.int?, FPost, aresL, ares1, pack, afill, splice, Value.oneCell', Nat.reduceLT, Nat.reduceLeDiff, Nat.reduceEqDiff, Nat.reduceAdd, Nat.reduceMul, Nat.reduceSub, Nat.reduceBEq, Int.reduceLE, Int.reduceLT, Int.reduceToNat, Int.reduceNeg, Int.reduceEq, axt, ftK, ft3, pickP, AScope, AAll, pickQ, ftQ, inHeap, Nd.cells, tys]
    refine ALoop.upto 10 (fun p t => t.t 0 = .ptr L 2 0 0 ∧ t.t 3 = .ptr n 5 0 0 ∧ t.t 9 = .sc (.int .i32 ((p : Int) - 1)) ∧ n < t.n ∧ t.H n = some (.obj 32 5 [[.sc (.int .i64 raQ.len), .sc (.int .i64 raQ.ever), .lst 1 (I32 raQ.freed), .lst 6 (ND raQ.nodes), .lst 1 (LS ls)]] false) ∧ Keeps H n t.H t.n) ⟨e0, e3, rfl, hlt0, eb, kp⟩ ?_
    rintro q st2 hq hb2 ⟨f0, f3, f9, hlt1, fb, kp2⟩
    rcases Nat.lt_or_ge q 10 with hlt2 | hge2
    · have hpl2 : (q : Int) - 1 < 9 := by omega
      have w2 : IntKind.i32.wrap ((q : Int) - 1 + 1) = ((q + 1 : Nat) : Int) - 1 := by rw [IntWalk.i32_in _ ⟨by omega, by omega⟩]; omega
      have hi : I32ok ((q : Int) - 1) := ⟨by omega, by omega⟩
      have u2 := u.keeps kp2
      have fi := u.fine hk hi
      have cn := rNear raQ inv he h8 ((q : Int) - 1)
      have ct := rTag raQ inv he h8 ((q : Int) - 1)
      generalize (q : Int) - 1 = i at *
      have hz : (raAt R i).tag = 0 → (raAt R i).prev = 0 ∧ (raAt R i).next = 0 := fun h0 => by
        rcases inv.tagD i with ⟨t, l, q, h1, h2, h3⟩ | ⟨h2, _⟩
        · omega
        · exact (inv.none i h2).2
      have lt := cLsTag u2.h ok i hi fi.t0 fi.t1
      have u3 := u2.new (x := some (.obj 41 6 [(raAt R i).cells] false))
      have lb := cLsBeforeD u3.h ok i hi fi.t0 fi.t1 (fun h => (hz h).1)
      have u4 := u3.keeps (nb_keeps _ _ R i)
      have la := cLsAfterD u4.h ok i hi fi.t0 fi.t1 (fun h => (hz h).2)
      have u5 := u4.keeps (nb_keeps _ _ R i)
      unfold LVs at cn ct
      simp (maxSteps := 400000) (dsimp := false) only [f0, f3, f9, hpl2, fb, axs, AThen, ABlock, dstsOk, AStep, callsF, AWant, aop, AS.ev, AS.put, upd, AS.bound, abin, aint, aload, astore, cellsAt, AV.cells, alen, elems, AV.int?, FPost, aresL, ares1, pack, afill, splice, Value.oneCell', Nat.reduceLT, Nat.reduceLeDiff, Nat.reduceEqDiff, Nat.reduceAdd, Nat.reduceMul, Nat.reduceSub, Nat.reduceBEq, Int.reduceLE, Int.reduceLT, Int.reduceToNat, Int.reduceNeg, Int.reduceEq, axt, ftK, ft3, pickP, AScope, AAll, pickQ, ftQ, inHeap, Nd.cells, tys]
      refine ACallK.strict rfl (cn) (by simp only [SeesL, f0, f3, f9, fb, axs, axt, AS.ev, AS.put, upd, inHeap, Nat.reduceLT, Nat.reduceEqDiff, Nat.reduceAdd, Nat.reduceBEq, Nd.cells]; repeat' (first | exact True.intro | exact Sees.sc | exact Sees.none | ((with_reducible refine Sees.same ?_) <;> simp [noIds, noIdsL, noIdsE, noIdsE_U, noIdsE_UU, noIdsE_I32, noIdsE_ND, noIdsE_LA, noIdsE_LS] <;> fail) | (refine Live.sees ?_ ?_ <;> first | assumption | (simp [noIdsE_U, noIdsE_UU, noIdsE_I32, noIdsE_ND, noIdsE_LA, noIdsE_LS] <;> fail)) | (refine Sees.obj ?_ ?_ ?_ <;> first | exact ⟨_, _, by assumption, rfl⟩ | (simp [U_len, UU_len, I32_len, ND_len, LA_len, LS_len] <;> fail) | (simp [noIdsE_U, noIdsE_UU, noIdsE_I32, noIdsE_ND, noIdsE_LA, noIdsE_LS] <;> fail) | (simp [U, UU, upd] <;> fail) | (simp [U, UU, upd, neS, *] <;> fail)) | (refine Sees.of_seen 3 ?_ <;> simp [seen, upd, noIdsE, noIdsL, noIds, U, UU, Nat.add_assoc] <;> fail) | refine Sees.agg ?_ | refine And.intro ?_ ?_ | simp only [SeesL])) ?_; simp (maxSteps := 400000) (dsimp := false) only [f0, f3, f9, fb, axs, AThen, ABlock, dstsOk, AStep, callsF, AWant, aop, AS.ev, AS.put, upd, AS.bound, abin, aint, aload, astore, cellsAt, AV.cells, alen, elems, AV.int?, FPost, aresL, ares1, pack, afill, splice, Value.oneCell', Nat.reduceLT, Nat.reduceLeDiff, Nat.reduceEqDiff, Nat.reduceAdd, Nat.reduceMul, Nat.reduceSub, Nat.reduceBEq, Int.reduceLE, Int.reduceLT, Int.reduceToNat, Int.reduceNeg, Int.reduceEq, axt, ftK, ft3, pickP, AScope, AAll, pickQ, ftQ, inHeap, Nd.cells, tys]
      refine ADraw.planQR [] [2, 10, 17] [(0, true), (1, true), (3, true), (4, true), (2, true), (5, true), (6, true), (7, true), (8, true), (9, true), (11, true), (10, true), (12, true), (13, true), (14, true), (15, true), (16, true), (18, true), (17, true), (19, true), (20, true)] [(0, 0), (0, 0), (1, 0), (1, 0), (0, 2), (0, 0), (0, 0), (0, 0), (0, 0), (0, 0), (1, 0), (0, 2), (0, 0), (0, 0), (0, 0), (0, 0), (0, 0), (1, 0), (0, 2), (0, 0), (0, 0)] mixed (by kernel_rfl) (by kernel_rfl) ?_
      simp (maxSteps := 400000) (dsimp := false) only [f0, f3, f9, fb, axs, AThen, ABlock, dstsOk, AStep, callsF, AWant, aop, AS.ev, AS.put, upd, AS.bound, abin, aint, aload, astore, cellsAt, AV.cells, alen, elems, AV.int?, FPost, aresL, ares1, pack, afill, splice, Value.oneCell', Nat.reduceLT, Nat.reduceLeDiff, Nat.reduceEqDiff, Nat.reduceAdd, Nat.reduceMul, Nat.reduceSub, Nat.reduceBEq, Int.reduceLE, Int.reduceLT, Int.reduceToNat, Int.reduceNeg, Int.reduceEq, axt, ftK, ft3, pickP, AScope, AAll, pickQ, ftQ, inHeap, Nd.cells, tys]
      refine AQuietK.intro rfl rfl (lt) (by intro id hid; first | rfl | exact upd_ne _ _ (Nat.ne_of_lt hid)) ?_; simp (maxSteps := 400000) (dsimp := false) only [f0, f3, f9, fb, axs, AThen, ABlock, dstsOk, AStep, callsF, AWant, aop, AS.ev, AS.put, upd, AS.bound, abin, aint, aload, astore, cellsAt, AV.cells, alen, elems, AV.int?, FPost, aresL, ares1, pack, afill, splice, Value.oneCell', Nat.reduceLT, Nat.reduceLeDiff, Nat.reduceEqDiff, Nat.reduceAdd, Nat.reduceMul, Nat.reduceSub, Nat.reduceBEq, Int.reduceLE, Int.reduceLT, Int.reduceToNat, Int.reduceNeg, Int.reduceEq, axt, ftK, ft3, pickP, AScope, AAll, pickQ, ftQ, inHeap, Nd.cells, tys]
      refine ACallP.pure rfl (ct) ?_; simp (maxSteps := 400000) (dsimp := false) only [f0, f3, f9, bne_self_eq_false, axs, AThen, ABlock, dstsOk, AStep, callsF, AWant, aop, AS.ev, AS.put, upd, AS.bound, abin, aint, aload, astore, cellsAt, AV.cells, alen, elems, AV.int?, FPost, aresL, ares1, pack, afill, splice, Value.oneCell', Nat.reduceLT, Nat.reduceLeDiff, Nat.reduceEqDiff, Nat.reduceAdd, Nat.reduceMul, Nat.reduceSub, Nat.reduceBEq, Int.reduceLE, Int.reduceLT, Int.reduceToNat, Int.reduceNeg, Int.reduceEq, axt, ftK, ft3, pickP, AScope, AAll, pickQ, ftQ, inHeap, Nd.cells, tys]
      refine AQuietK.intro rfl rfl lb (fun id hid => (nb_keeps _ _ R i).2 id hid) ?_
      simp (maxSteps := 400000) (dsimp := false) only [f0, f3, f9, bne_self_eq_false, axs, AThen, ABlock, dstsOk, AStep, callsF, AWant, aop, AS.ev, AS.put, upd, AS.bound, abin, aint, aload, astore, cellsAt, AV.cells, alen, elems, AV.int?, FPost, aresL, ares1, pack, afill, splice, Value.oneCell', Nat.reduceLT, Nat.reduceLeDiff, Nat.reduceEqDiff, Nat.reduceAdd, Nat.reduceMul, Nat.reduceSub, Nat.reduceBEq, Int.reduceLE, Int.reduceLT, Int.reduceToNat, Int.reduceNeg, Int.reduceEq, axt, ftK, ft3, pickP, AScope, AAll, pickQ, ftQ, inHeap, Nd.cells, tys]
      refine AQuietK.intro rfl rfl la (fun id hid => (nb_keeps _ _ R i).2 id hid) ?_
      simp (maxSteps := 400000) (dsimp := false) only [f0, f3, f9, bne_self_eq_false, w2, axs, AThen, ABlock, dstsOk, AStep, callsF, AWant, aop, AS.ev, AS.put, upd, AS.bound, abin, aint, aload, astore, cellsAt, AV.cells, alen, elems, AV.int?, FPost, aresL, ares1, pack, afill, splice, Value.oneCell', Nat.reduceLT, Nat.reduceLeDiff, Nat.reduceEqDiff, Nat.reduceAdd, Nat.reduceMul, Nat.reduceSub, Nat.reduceBEq, Int.reduceLE, Int.reduceLT, Int.reduceToNat, Int.reduceNeg, Int.reduceEq, axt, ftK, ft3, pickP, AScope, AAll, pickQ, ftQ, inHeap, Nd.cells, tys]
      have kpx := (((Keeps.refl st2.H st2.n).upd (x := some (.obj 41 6 [(raAt R i).cells] false))).trans (nb_keeps _ _ R i)).trans (nb_keeps _ _ R i)
      exact ⟨hlt2, Nat.lt_of_lt_of_le hlt1 kpx.1, (kpx.2 n hlt1).trans fb, kp2.trans kpx⟩
    · have hpl2 : ¬ (q : Int) - 1 < 9 := by omega
      simp (maxSteps := 400000) (dsimp := false) only [f0, f3, f9, hpl2, axs, AThen, ABlock, dstsOk, AStep, callsF, AWant, aop, AS.ev, AS.put, upd, AS.bound, abin, aint, aload, astore, cellsAt, AV.cells, alen, elems, AV.int?, FPost, aresL, ares1, pack, afill, splice, Value.oneCell', Nat.reduceLT, Nat.reduceLeDiff, Nat.reduceEqDiff, Nat.reduceAdd, Nat.reduceMul, Nat.reduceSub, Nat.reduceBEq, Int.reduceLE, Int.reduceLT, Int.reduceToNat, Int.reduceNeg, Int.reduceEq, axt, ftK, ft3, pickP, AScope, AAll, pickQ, ftQ, inHeap, Nd.cells, tys]
      exact ⟨_, rfl, rfl, kp2⟩
end Go.Al
