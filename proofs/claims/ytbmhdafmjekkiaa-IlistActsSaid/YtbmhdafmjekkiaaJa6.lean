/- Lists of places: whatever is pushed, taken out, and moved: the program's lists, and the reference's, are told alike. Conditions: the numbers fit their kinds. -/
import Derived.Test.YtbmhdafmjekkiaaJa4
import Derived.Test.YtbmhdafmjekkiaaJa5
set_option linter.unusedVariables false
set_option linter.unusedSimpArgs false
set_option maxRecDepth 20000
set_option maxHeartbeats 6400000
-- axs, AThen, ABlock, dstsOk, AStep, callsF, AWant, aop, AS.ev, AS.put, upd, AS.bound, abin, aint, aload, astore, cellsAt, AV.cells, alen, elems, AV.int?, FPost, aresL, ares1, pack, afill, splice, Value.oneCell', Nat.reduceLT, Nat.reduceLeDiff, Nat.reduceEqDiff, Nat.reduceAdd, Nat.reduceMul, Nat.reduceSub, Nat.reduceBEq, Int.reduceLE, Int.reduceLT, Int.reduceToNat, Int.reduceNeg, Int.reduceEq, axt, ftK, ft3, pickP, AScope, AAll, pickQ, ftQ, inHeap, Nd.cells, tys: Nd.cells
-- NOIDS: noIdsE_I32, noIdsE_ND, noIdsE_LA, noIdsE_LS
-- LENS: I32_len, ND_len, LA_len, LS_len
namespace Go.Al
open Go.Proofs
theorem Run.doL {H H' : AH} {n n' L r a s k : Nat} {fv : AV} {R : RA} {rows : List Rw} {ls : List (List Int)} (u : Run H n L r a s fv k R rows ls) (x : LAct) (to : LsTo H n L r a s fv H' n' (doS R rows x).1 (doS R rows x).2) :
    Run H' n' L r a s fv k (doS R rows x).1 (doS R rows x).2 (Al.doL R rows ls x) := by
  obtain ⟨ls2, u2⟩ := u.do x to
  obtain ⟨h1, h2⟩ := u.inv.doL x
  exact ⟨to.ls, h1, h2.trans u.len, u2.same⟩
theorem Run.side {H : AH} {n L r a s k : Nat} {fv : AV} {R : RA} {rows : List Rw} {ls : List (List Int)} (u : Run H n L r a s fv k R rows ls) {j : Nat} {x : Option AO} (h1 : j ≠ L) (h2 : j ≠ r) (h3 : ¬ ArOwn a s fv j) : Run (upd H j x) n L r a s fv k R rows ls := ⟨u.h.side h1 h2 h3, u.inv, u.len, u.same⟩
theorem law_IlistActs (c : Int) (w : (Lit.int .u8 c).wf = true) (e : List (List Value)) (f : ∀ x ∈ e, FitK [some .u8, some .i64, some .i32] x) : PCalls Try.prog 6 [.sc (.int .u8 c), .lst 3 (e.map fun e => e.map .sc)] (.sc (.bool true)) := by
  obtain ⟨l, hl, hf, _⟩ := rows_LA f
  obtain ⟨h0, h1⟩ := wfu8' w
  obtain ⟨_, hk⟩ := lsK_small h0
  rw [hl]
  refine PCalls.intro2 Try.func6 rfl rfl Try.ntmps6 Try.results6 (by simp) fun n => ?_; simp (maxSteps := 400000) (dsimp := false) only [axs, AThen, ABlock, dstsOk, AStep, callsF, AWant, aop, AS.ev, AS.put, upd, AS.bound, abin, aint, aload, astore, cellsAt, AV.cells, alen, elems, AV.int?, FPost, aresL, ares1, pack, afill, splice, Value.oneCell', Nat.reduceLT, Nat.reduceLeDiff, Nat.reduceEqDiff, Nat.reduceAdd, Nat.reduceMul, Nat.reduceSub, Nat.reduceBEq, Int.reduceLE, Int.reduceLT, Int.reduceToNat, Int.reduceNeg, Int.reduceEq, axt, ftK, ft3, pickP, AScope, AAll, pickQ, ftQ, inHeap, Nd.cells, tys]
  refine ACallK.strict rfl (awake04) (by simp only [SeesL, LA_len, axs, axt, AS.ev, AS.put, upd, inHeap, Nat.reduceLT, Nat.reduceEqDiff, Nat.reduceAdd, Nat.reduceBEq, Nd.cells]; repeat' (first | exact True.intro | exact Sees.sc | exact Sees.none | ((with_reducible refine Sees.same ?_) <;> simp [noIds, noIdsL, noIdsE, noIdsE_U, noIdsE_UU, noIdsE_I32, noIdsE_ND, noIdsE_LA, noIdsE_LS] <;> fail) | (refine Live.sees ?_ ?_ <;> first | assumption | (simp [noIdsE_U, noIdsE_UU, noIdsE_I32, noIdsE_ND, noIdsE_LA, noIdsE_LS] <;> fail)) | (refine Sees.obj ?_ ?_ ?_ <;> first | exact ⟨_, _, by assumption, rfl⟩ | (simp [U_len, UU_len, I32_len, ND_len, LA_len, LS_len] <;> fail) | (simp [noIdsE_U, noIdsE_UU, noIdsE_I32, noIdsE_ND, noIdsE_LA, noIdsE_LS] <;> fail) | (simp [U, UU, upd] <;> fail) | (simp [U, UU, upd, neS, *] <;> fail)) | (refine Sees.of_seen 3 ?_ <;> simp [seen, upd, noIdsE, noIdsL, noIds, U, UU, Nat.add_assoc] <;> fail) | refine Sees.agg ?_ | refine And.intro ?_ ?_ | simp only [SeesL])) ?_; simp (maxSteps := 400000) (dsimp := false) only [LA_len, axs, AThen, ABlock, dstsOk, AStep, callsF, AWant, aop, AS.ev, AS.put, upd, AS.bound, abin, aint, aload, astore, cellsAt, AV.cells, alen, elems, AV.int?, FPost, aresL, ares1, pack, afill, splice, Value.oneCell', Nat.reduceLT, Nat.reduceLeDiff, Nat.reduceEqDiff, Nat.reduceAdd, Nat.reduceMul, Nat.reduceSub, Nat.reduceBEq, Int.reduceLE, Int.reduceLT, Int.reduceToNat, Int.reduceNeg, Int.reduceEq, axt, ftK, ft3, pickP, AScope, AAll, pickQ, ftQ, inHeap, Nd.cells, tys]
  by_cases h : l.length ≤ 40
  · have h' : ¬ (l.length : Int) > 40 := by omega
    simp (maxSteps := 400000) (dsimp := false) only [h', axs, AThen, ABlock, dstsOk, AStep, callsF, AWant, aop, AS.ev, AS.put, upd, AS.bound, abin, aint, aload, astore, cellsAt, AV.cells, alen, elems, AV.int?, FPost, aresL, ares1, pack, afill, splice, Value.oneCell', Nat.reduceLT, Nat.reduceLeDiff, Nat.reduceEqDiff, Nat.reduceAdd, Nat.reduceMul, Nat.reduceSub, Nat.reduceBEq, Int.reduceLE, Int.reduceLT, Int.reduceToNat, Int.reduceNeg, Int.reduceEq, axt, ftK, ft3, pickP, AScope, AAll, pickQ, ftQ, inHeap, Nd.cells, tys]
    refine ACallK.heap _ rfl (cLsBegin2 c h0 h1 _ _) ?_
    rintro v H1 n1 ⟨a, s, L, r, fv, rfl, hle, hkeep, hL⟩
    have u0 : Run H1 n1 L r a s fv (lsK (1 + c.tmod 3)) raQ (List.replicate (lsK (1 + c.tmod 3)) r0) (List.replicate (lsK (1 + c.tmod 3)) []) := ⟨hL, LInv.new raQ_ok (by decide) _, by simp, Same.refl _⟩
    generalize lsK (1 + c.tmod 3) = k at *
    simp (maxSteps := 400000) (dsimp := false) only [LVs, axs, AThen, ABlock, dstsOk, AStep, callsF, AWant, aop, AS.ev, AS.put, upd, AS.bound, abin, aint, aload, astore, cellsAt, AV.cells, alen, elems, AV.int?, FPost, aresL, ares1, pack, afill, splice, Value.oneCell', Nat.reduceLT, Nat.reduceLeDiff, Nat.reduceEqDiff, Nat.reduceAdd, Nat.reduceMul, Nat.reduceSub, Nat.reduceBEq, Int.reduceLE, Int.reduceLT, Int.reduceToNat, Int.reduceNeg, Int.reduceEq, axt, ftK, ft3, pickP, AScope, AAll, pickQ, ftQ, inHeap, Nd.cells, tys]
    refine ALoop.upto l.length (fun p t => t.t 1 = .lst 3 (LA l) ∧ t.t 5 = .sc (.bool true) ∧ t.t 7 = .ptr L 2 0 0 ∧ t.t 8 = .ptr n1 5 0 0 ∧ t.t 9 = .sc (.int .i64 p) ∧ ∃ R rows ls, t.H n1 = some (.obj 32 5 [[.sc (.int .i64 raQ.len), .sc (.int .i64 raQ.ever), .lst 1 (I32 raQ.freed), .lst 6 (ND raQ.nodes), .lst 1 (LS ls)]] false) ∧ n1 < t.n ∧ n1 ≠ r ∧ n1 ≠ s ∧ n1 ≠ L ∧ (¬ ArOwn a s fv n1) ∧ Run t.H t.n L r a s fv k R rows ls) ⟨rfl, rfl, rfl, rfl, rfl, raQ, List.replicate k r0, List.replicate k [], by simp [upd], by show n1 < n1 + 1; omega, (by have := hL.lr; omega), (by have := hL.ar.slt; omega), (by have := hL.lL; omega), (fun ho => by have := hL.ar.own_lt' ho; omega), u0.new2⟩ ?_
    · rintro p st hp hb ⟨e1, e5, e7, e8, e9, R, rows, ls, eb, hlt0, nr, ns, nL, nO, u⟩
      have hfr : raQ.freed.length ≤ 1000000 := by decide
      rcases Nat.lt_or_ge p l.length with hlt | hge
      · obtain ⟨x, hx, hp0, hpl, hw, hT, hD⟩ := idx hlt (by omega)
        have hg := LA_get hx
        have hxf := hf x (List.mem_of_getElem? hx)
        have cd := rDo u.inv (by rw [u.ever]; omega) (by rw [u.len]; omega) hfr x hxf.i (by rw [u.same.is])
        simp (maxSteps := 400000) (dsimp := false) only [e1, e5, e7, e8, e9, hpl, LA_len, hg, hp0, axs, AThen, ABlock, dstsOk, AStep, callsF, AWant, aop, AS.ev, AS.put, upd, AS.bound, abin, aint, aload, astore, cellsAt, AV.cells, alen, elems, AV.int?, FPost, aresL, ares1, pack, afill, splice, Value.oneCell', Nat.reduceLT, Nat.reduceLeDiff, Nat.reduceEqDiff, Nat.reduceAdd, Nat.reduceMul, Nat.reduceSub, Nat.reduceBEq, Int.reduceLE, Int.reduceLT, Int.reduceToNat, Int.reduceNeg, Int.reduceEq, axt, ftK, ft3, pickP, AScope, AAll, pickQ, ftQ, inHeap, Nd.cells, tys]
        refine ACallK.heap _ rfl (cLsDo u.h x (u.fine hk hxf.i) (u.fine2 hk hxf.i)) ?_
        rintro v H2 n2 ⟨rfl, to⟩
        have to : LsTo st.H st.n L r a s fv H2 n2 (doS R rows x).1 (doS R rows x).2 := to
        have u2 := u.doL x to
        have eb2 := (to.keep n1 hlt0 nr ns).trans eb
        have hle2 := to.le
        have hne : ¬ n1 = n2 ∧ ¬ n2 = n1 := by and_intros <;> omega
        generalize doS R rows x = S2 at *
        generalize Al.doL R rows ls x = ls2 at *
        unfold LVs LAct.cells at cd
        simp (maxSteps := 400000) (dsimp := false) only [e1, e5, e7, e8, e9, axs, AThen, ABlock, dstsOk, AStep, callsF, AWant, aop, AS.ev, AS.put, upd, AS.bound, abin, aint, aload, astore, cellsAt, AV.cells, alen, elems, AV.int?, FPost, aresL, ares1, pack, afill, splice, Value.oneCell', Nat.reduceLT, Nat.reduceLeDiff, Nat.reduceEqDiff, Nat.reduceAdd, Nat.reduceMul, Nat.reduceSub, Nat.reduceBEq, Int.reduceLE, Int.reduceLT, Int.reduceToNat, Int.reduceNeg, Int.reduceEq, axt, ftK, ft3, pickP, AScope, AAll, pickQ, ftQ, inHeap, Nd.cells, tys]
        refine ADraw.planR [] [(0, true), (1, true), (2, true), (3, true), (4, true), (5, true), (6, true), (7, true), (8, true), (9, true), (10, true), (11, true)] [(0, false), (0, false), (0, false), (0, false), (0, false), (0, false), (0, false), (0, false), (0, false), (0, false), (0, false), (0, false)] mixed (by kernel_rfl) (by kernel_rfl) ?_
        simp (maxSteps := 400000) (dsimp := false) only [e1, e5, e7, e8, e9, hg, hp0, eb2, LA_len, hpl, axs, AThen, ABlock, dstsOk, AStep, callsF, AWant, aop, AS.ev, AS.put, upd, AS.bound, abin, aint, aload, astore, cellsAt, AV.cells, alen, elems, AV.int?, FPost, aresL, ares1, pack, afill, splice, Value.oneCell', Nat.reduceLT, Nat.reduceLeDiff, Nat.reduceEqDiff, Nat.reduceAdd, Nat.reduceMul, Nat.reduceSub, Nat.reduceBEq, Int.reduceLE, Int.reduceLT, Int.reduceToNat, Int.reduceNeg, Int.reduceEq, axt, ftK, ft3, pickP, AScope, AAll, pickQ, ftQ, inHeap, Nd.cells, tys]
        refine ACallP.pure rfl (cd) ?_; simp (maxSteps := 400000) (dsimp := false) only [e1, e5, e7, e8, e9, eb2, hne, bne_self_eq_false, axs, AThen, ABlock, dstsOk, AStep, callsF, AWant, aop, AS.ev, AS.put, upd, AS.bound, abin, aint, aload, astore, cellsAt, AV.cells, alen, elems, AV.int?, FPost, aresL, ares1, pack, afill, splice, Value.oneCell', Nat.reduceLT, Nat.reduceLeDiff, Nat.reduceEqDiff, Nat.reduceAdd, Nat.reduceMul, Nat.reduceSub, Nat.reduceBEq, Int.reduceLE, Int.reduceLT, Int.reduceToNat, Int.reduceNeg, Int.reduceEq, axt, ftK, ft3, pickP, AScope, AAll, pickQ, ftQ, inHeap, Nd.cells, tys]
        have cs := fun (H : AH) (n : Nat) (u : Run H n L r a s fv k S2.1 S2.2 ls2) => cSame04 u hk
        unfold LVs at cs
        refine ACallK.heap _ rfl (cs _ _ ((u2.new2).side nL nr nO)) ?_
        rintro v H5 n5 ⟨rfl, kp⟩
        have kp5 : Keeps _ (n2 + 1) H5 n5 := kp
        have u5 : Run H5 n5 L r a s fv k S2.1 S2.2 ls2 := ((u2.new2).side nL nr nO).keeps kp5
        have hl5 := kp5.1
        have eb5 := (kp5.2 n1 (by omega)).trans (upd_same _ _ _)
        simp (maxSteps := 400000) (dsimp := false) only [e1, e5, e7, e8, e9, hw, axs, AThen, ABlock, dstsOk, AStep, callsF, AWant, aop, AS.ev, AS.put, upd, AS.bound, abin, aint, aload, astore, cellsAt, AV.cells, alen, elems, AV.int?, FPost, aresL, ares1, pack, afill, splice, Value.oneCell', Nat.reduceLT, Nat.reduceLeDiff, Nat.reduceEqDiff, Nat.reduceAdd, Nat.reduceMul, Nat.reduceSub, Nat.reduceBEq, Int.reduceLE, Int.reduceLT, Int.reduceToNat, Int.reduceNeg, Int.reduceEq, axt, ftK, ft3, pickP, AScope, AAll, pickQ, ftQ, inHeap, Nd.cells, tys]
        exact ⟨hlt, _, _, _, eb5, by omega, nr, ns, nL, nO, u5⟩
      · have hpl : ¬ (p : Int) < l.length := by omega
        have cs := cSame04 u hk
        unfold LVs at cs
        simp (maxSteps := 400000) (dsimp := false) only [e1, e5, e7, e8, e9, hpl, LA_len, eb, axs, AThen, ABlock, dstsOk, AStep, callsF, AWant, aop, AS.ev, AS.put, upd, AS.bound, abin, aint, aload, astore, cellsAt, AV.cells, alen, elems, AV.int?, FPost, aresL, ares1, pack, afill, splice, Value.oneCell', Nat.reduceLT, Nat.reduceLeDiff, Nat.reduceEqDiff, Nat.reduceAdd, Nat.reduceMul, Nat.reduceSub, Nat.reduceBEq, Int.reduceLE, Int.reduceLT, Int.reduceToNat, Int.reduceNeg, Int.reduceEq, axt, ftK, ft3, pickP, AScope, AAll, pickQ, ftQ, inHeap, Nd.cells, tys]
        refine ACallK.heap _ rfl cs ?_
        rintro v H2 n2 ⟨rfl, kp⟩
        simp (maxSteps := 400000) (dsimp := false) only [e1, e5, e7, e8, e9, axs, AThen, ABlock, dstsOk, AStep, callsF, AWant, aop, AS.ev, AS.put, upd, AS.bound, abin, aint, aload, astore, cellsAt, AV.cells, alen, elems, AV.int?, FPost, aresL, ares1, pack, afill, splice, Value.oneCell', Nat.reduceLT, Nat.reduceLeDiff, Nat.reduceEqDiff, Nat.reduceAdd, Nat.reduceMul, Nat.reduceSub, Nat.reduceBEq, Int.reduceLE, Int.reduceLT, Int.reduceToNat, Int.reduceNeg, Int.reduceEq, axt, ftK, ft3, pickP, AScope, AAll, pickQ, ftQ, inHeap, Nd.cells, tys]
        exact ⟨_, rfl, Sees.sc⟩
  · have h' : (l.length : Int) > 40 := by omega
    simp (maxSteps := 400000) (dsimp := false) only [h', axs, AThen, ABlock, dstsOk, AStep, callsF, AWant, aop, AS.ev, AS.put, upd, AS.bound, abin, aint, aload, astore, cellsAt, AV.cells, alen, elems, AV.int?, FPost, aresL, ares1, pack, afill, splice, Value.oneCell', Nat.reduceLT, Nat.reduceLeDiff, Nat.reduceEqDiff, Nat.reduceAdd, Nat.reduceMul, Nat.reduceSub, Nat.reduceBEq, Int.reduceLE, Int.reduceLT, Int.reduceToNat, Int.reduceNeg, Int.reduceEq, axt, ftK, ft3, pickP, AScope, AAll, pickQ, ftQ, inHeap, Nd.cells, tys]
    exact ⟨_, rfl, Sees.sc⟩
end Go.Al
