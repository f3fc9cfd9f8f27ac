/- Keys in queues: how many slots there are, of nodes, and of keys; never more than three times as many as keys were there at once, and 8. Conditions: the numbers fit their kinds. -/
import Derived.Test.YtdebjhjnpomlmaaStG
set_option linter.unusedVariables false
set_option linter.unusedSimpArgs false
set_option maxRecDepth 20000
set_option maxHeartbeats 6400000
-- axs, AThen, ABlock, dstsOk, AStep, callsF, AWant, aop, AS.ev, AS.put, upd, AS.bound, abin, aint, aload, astore, cellsAt, AV.cells, alen, elems, AV.int?, FPost, aresL, ares1, pack, afill, splice, Value.oneCell', Nat.reduceLT, Nat.reduceLeDiff, Nat.reduceEqDiff, Nat.reduceAdd, Nat.reduceMul, Nat.reduceSub, Nat.reduceBEq, Int.reduceLE, Int.reduceLT, Int.reduceToNat, Int.reduceNeg, Int.reduceEq, axt, ftK, ft3, pickP, AScope, AAll, pickQ, ftQ, inHeap, SAct.cells, tys: SAct.cells
-- NOIDS: noIdsE_EN, noIdsE_LE, noIdsE_TL, noIdsE_U, noIdsE_SA
-- LENS: EN_len, LE_len, TL_len, U_len, SA_len
namespace Go.Al
open Go.Proofs
theorem mostR_nil (c : Int) : mostR c [] = 0 := by
  have e : tot (newS (1 + c.tmod 4)).ls = 0 := by
    have := totE_ents (newS (1 + c.tmod 4))
    rw [← this, ents_new]
    unfold totE
    simp
  show max 0 (tot (newS (1 + c.tmod 4)).ls) = 0
  rw [e]; rfl
theorem law_StoreRooms (c : Int) (w : (Lit.int .u8 c).wf = true) (e : List (List Value)) (f : ∀ x ∈ e, FitK [some .u8, some .i64, some .u64, some .u64, some .i64] x) : PCalls Try.prog 3 [.sc (.int .u8 c), .lst 5 (e.map fun e => e.map .sc)] (.sc (.bool true)) := by
  obtain ⟨l, hl, hf, _⟩ := rows_SA f
  obtain ⟨h0, h1⟩ := wfu8' w
  have w1 : IntKind.i64.wrap c = c := wrap_in (by omega) (by omega)
  have hc4 : 0 ≤ c.tmod 4 ∧ c.tmod 4 < 4 := by rw [Int.tmod_eq_emod_of_nonneg h0]; omega
  have w2 : IntKind.i64.wrap (1 + c.tmod 4) = 1 + c.tmod 4 := wrap_in (by omega) (by omega)
  have w3 : IntKind.i64.wrap (c.tmod 4) = c.tmod 4 := wrap_in (by omega) (by omega)
  have crn := rStNew (1 + c.tmod 4)
  have hr0 : (stRun c (l.take 0)).1 = newS (1 + c.tmod 4) ∧ (stRun c (l.take 0)).2 = List.replicate 8 z3 := ⟨rfl, rfl⟩
  rw [hl]
  refine PCalls.intro2 Try.func3 rfl rfl Try.ntmps3 Try.results3 (by simp) fun n => ?_; simp (maxSteps := 400000) (dsimp := false) only [axs, AThen, ABlock, dstsOk, AStep, callsF, AWant, aop, AS.ev, AS.put, upd, AS.bound, abin, aint, aload, astore, cellsAt, AV.cells, alen, elems, AV.int?, FPost, aresL, ares1, pack, afill, splice, Value.oneCell', Nat.reduceLT, Nat.reduceLeDiff, Nat.reduceEqDiff, Nat.reduceAdd, Nat.reduceMul, Nat.reduceSub, Nat.reduceBEq, Int.reduceLE, Int.reduceLT, Int.reduceToNat, Int.reduceNeg, Int.reduceEq, axt, ftK, ft3, pickP, AScope, AAll, pickQ, ftQ, inHeap, SAct.cells, tys]
  refine ACallK.strict rfl (awake06) (by simp only [SeesL, SA_len, axs, axt, AS.ev, AS.put, upd, inHeap, Nat.reduceLT, Nat.reduceEqDiff, Nat.reduceAdd, Nat.reduceBEq, SAct.cells]; repeat' (first | exact True.intro | exact Sees.sc | exact Sees.none | ((with_reducible refine Sees.same ?_) <;> simp [noIds, noIdsL, noIdsE, noIdsE_U, noIdsE_UU, noIdsE_EN, noIdsE_LE, noIdsE_TL, noIdsE_U, noIdsE_SA] <;> fail) | (refine Live.sees ?_ ?_ <;> first | assumption | (simp [noIdsE_U, noIdsE_UU, noIdsE_EN, noIdsE_LE, noIdsE_TL, noIdsE_U, noIdsE_SA] <;> fail)) | (refine Sees.obj ?_ ?_ ?_ <;> first | exact ⟨_, _, by assumption, rfl⟩ | (simp [U_len, UU_len, EN_len, LE_len, TL_len, U_len, SA_len] <;> fail) | (simp [noIdsE_U, noIdsE_UU, noIdsE_EN, noIdsE_LE, noIdsE_TL, noIdsE_U, noIdsE_SA] <;> fail) | (simp [U, UU, upd] <;> fail) | (simp [U, UU, upd, neS, *] <;> fail)) | (refine Sees.of_seen 3 ?_ <;> simp [seen, upd, noIdsE, noIdsL, noIds, U, UU, Nat.add_assoc] <;> fail) | refine Sees.agg ?_ | refine And.intro ?_ ?_ | simp only [SeesL])) ?_; simp (maxSteps := 400000) (dsimp := false) only [SA_len, axs, AThen, ABlock, dstsOk, AStep, callsF, AWant, aop, AS.ev, AS.put, upd, AS.bound, abin, aint, aload, astore, cellsAt, AV.cells, alen, elems, AV.int?, FPost, aresL, ares1, pack, afill, splice, Value.oneCell', Nat.reduceLT, Nat.reduceLeDiff, Nat.reduceEqDiff, Nat.reduceAdd, Nat.reduceMul, Nat.reduceSub, Nat.reduceBEq, Int.reduceLE, Int.reduceLT, Int.reduceToNat, Int.reduceNeg, Int.reduceEq, axt, ftK, ft3, pickP, AScope, AAll, pickQ, ftQ, inHeap, SAct.cells, tys]
  by_cases h : l.length ≤ 50
  · have h' : ¬ (l.length : Int) > 50 := by omega
    simp (maxSteps := 400000) (dsimp := false) only [h', w1, w2, w3, axs, AThen, ABlock, dstsOk, AStep, callsF, AWant, aop, AS.ev, AS.put, upd, AS.bound, abin, aint, aload, astore, cellsAt, AV.cells, alen, elems, AV.int?, FPost, aresL, ares1, pack, afill, splice, Value.oneCell', Nat.reduceLT, Nat.reduceLeDiff, Nat.reduceEqDiff, Nat.reduceAdd, Nat.reduceMul, Nat.reduceSub, Nat.reduceBEq, Int.reduceLE, Int.reduceLT, Int.reduceToNat, Int.reduceNeg, Int.reduceEq, axt, ftK, ft3, pickP, AScope, AAll, pickQ, ftQ, inHeap, SAct.cells, tys]
    refine ACallK.heap _ rfl (cStNew2 (1 + c.tmod 4) _ _) ?_
    rintro v H1 n1 ⟨S, L, r, a, s, ta, ts, fv, rfl, hown, hst, kp1⟩
    clear hown kp1
    unfold SV at crn
    simp (maxSteps := 400000) (dsimp := false) only [w1, w2, w3, axs, AThen, ABlock, dstsOk, AStep, callsF, AWant, aop, AS.ev, AS.put, upd, AS.bound, abin, aint, aload, astore, cellsAt, AV.cells, alen, elems, AV.int?, FPost, aresL, ares1, pack, afill, splice, Value.oneCell', Nat.reduceLT, Nat.reduceLeDiff, Nat.reduceEqDiff, Nat.reduceAdd, Nat.reduceMul, Nat.reduceSub, Nat.reduceBEq, Int.reduceLE, Int.reduceLT, Int.reduceToNat, Int.reduceNeg, Int.reduceEq, axt, ftK, ft3, pickP, AScope, AAll, pickQ, ftQ, inHeap, SAct.cells, tys]
    refine ACallK.strict rfl (crn) (by simp only [SeesL, w1, w2, w3, axs, axt, AS.ev, AS.put, upd, inHeap, Nat.reduceLT, Nat.reduceEqDiff, Nat.reduceAdd, Nat.reduceBEq, SAct.cells]; repeat' (first | exact True.intro | exact Sees.sc | exact Sees.none | ((with_reducible refine Sees.same ?_) <;> simp [noIds, noIdsL, noIdsE, noIdsE_U, noIdsE_UU, noIdsE_EN, noIdsE_LE, noIdsE_TL, noIdsE_U, noIdsE_SA] <;> fail) | (refine Live.sees ?_ ?_ <;> first | assumption | (simp [noIdsE_U, noIdsE_UU, noIdsE_EN, noIdsE_LE, noIdsE_TL, noIdsE_U, noIdsE_SA] <;> fail)) | (refine Sees.obj ?_ ?_ ?_ <;> first | exact ⟨_, _, by assumption, rfl⟩ | (simp [U_len, UU_len, EN_len, LE_len, TL_len, U_len, SA_len] <;> fail) | (simp [noIdsE_U, noIdsE_UU, noIdsE_EN, noIdsE_LE, noIdsE_TL, noIdsE_U, noIdsE_SA] <;> fail) | (simp [U, UU, upd] <;> fail) | (simp [U, UU, upd, neS, *] <;> fail)) | (refine Sees.of_seen 3 ?_ <;> simp [seen, upd, noIdsE, noIdsL, noIds, U, UU, Nat.add_assoc] <;> fail) | refine Sees.agg ?_ | refine And.intro ?_ ?_ | simp only [SeesL])) ?_; simp (maxSteps := 400000) (dsimp := false) only [w1, w2, w3, axs, AThen, ABlock, dstsOk, AStep, callsF, AWant, aop, AS.ev, AS.put, upd, AS.bound, abin, aint, aload, astore, cellsAt, AV.cells, alen, elems, AV.int?, FPost, aresL, ares1, pack, afill, splice, Value.oneCell', Nat.reduceLT, Nat.reduceLeDiff, Nat.reduceEqDiff, Nat.reduceAdd, Nat.reduceMul, Nat.reduceSub, Nat.reduceBEq, Int.reduceLE, Int.reduceLT, Int.reduceToNat, Int.reduceNeg, Int.reduceEq, axt, ftK, ft3, pickP, AScope, AAll, pickQ, ftQ, inHeap, SAct.cells, tys]
    refine ALoop.upto l.length (fun p t => t.t 1 = .lst 5 (SA l) ∧ t.t 5 = .sc (.bool true) ∧ t.t 6 = .ptr S 4 0 0 ∧ t.t 7 = .ptr n1 3 0 0 ∧ t.t 8 = .sc (.int .i64 (mostR c (l.take p))) ∧ t.t 9 = .sc (.int .i64 p) ∧ n1 < t.n ∧ t.H n1 = some (.obj 31 3 [[.lst 1 (LE (ents (stRun c (l.take p)).1)), .sc (.int .i64 (stRun c (l.take p)).1.R.len), .lst 3 (TL (stRun c (l.take p)).2)]] false) ∧ ∃ s ts fv, StL t.H t.n S L r a s ta ts fv (stRun c (l.take p)).1 ∧ ∀ j, stOwn S L r a s ta ts fv j → j ≠ n1) ?_ ?_
    · refine ⟨rfl, rfl, rfl, rfl, ?_, rfl, by show n1 < n1 + 1; omega, ?_, s, ts, fv, ?_, fun j hj => ?_⟩
      · show _ = AV.sc (.int .i64 ((mostR c [] : Nat) : Int))
        rw [mostR_nil]; rfl
      · refine (upd_same _ _ _).trans ?_
        rw [hr0.1, hr0.2, ents_new, newS_len]
        rfl
      · rw [hr0.1]
        exact hst.at (by show n1 ≤ n1 + 1; omega) fun j hj => by
          have := hst.own_lt hj
          exact (upd_ne _ _ (by omega)).trans (upd_ne _ _ (by omega))
      · have h1 := hst.own_lt hj
        omega
    · rintro p st hp hb ⟨e1, e5, e6, e7, e8, e9, hlt0, hv, s', ts', fv', hst, hown⟩
      have hxp : (l.take p).length ≤ 900 := by rw [List.length_take]; omega
      obtain ⟨b, hmo, tw⟩ := stRun_ok c (l.take p) (fun a ha => hf a (List.mem_of_mem_take ha)) hxp
      rw [List.length_take] at hmo
      rcases Nat.lt_or_ge p l.length with hlt | hge
      · obtain ⟨y, hy, hp0, hpl, hw, hT, hD⟩ := idx hlt (by omega)
        have hsn := stRun_snoc c (l.take p) y
        have hms := mostR_snoc c (l.take p) y
        rw [← hT] at hsn hms
        rw [hsn] at hms
        have hg := SA_get hy
        have hyf := hf y (List.mem_of_getElem? hy)
        have cd := rDo b (by omega) tw y hyf
        obtain ⟨b2, hto, tw2⟩ := b.act (by omega) tw y hyf
        rw [hsn, hms]
        unfold stStep at *
        generalize (stRun c (l.take p)).1 = x at *
        generalize (stRun c (l.take p)).2 = U at *
        generalize mostR c (l.take p) = M at *
        have htm : tot x.ls ≤ M := b.le
        have cdo := cStDo hst (b.ok (by omega)) y hyf
        generalize hM2 : max M (tot (stDo x y).1.ls) = M2 at *
        have hM50 : M2 ≤ 900 := by omega
        have o2 := b2.ok hM50
        have hmx : (if (cnt (stDo x y).1.T : Int) > (M : Int) then (cnt (stDo x y).1.T : Int) else (M : Int)) = (M2 : Int) := by rw [b2.cn]; split <;> omega
        have g1 := b2.ln
        have g2 := b2.tl
        have g3 := tw2.len
        generalize hx2 : stDo x y = x2 at *
        generalize doU x U y = U2 at *
        simp (maxSteps := 400000) (dsimp := false) only [e1, e5, e6, e7, e8, e9, hpl, SA_len, hg, hp0, axs, AThen, ABlock, dstsOk, AStep, callsF, AWant, aop, AS.ev, AS.put, upd, AS.bound, abin, aint, aload, astore, cellsAt, AV.cells, alen, elems, AV.int?, FPost, aresL, ares1, pack, afill, splice, Value.oneCell', Nat.reduceLT, Nat.reduceLeDiff, Nat.reduceEqDiff, Nat.reduceAdd, Nat.reduceMul, Nat.reduceSub, Nat.reduceBEq, Int.reduceLE, Int.reduceLT, Int.reduceToNat, Int.reduceNeg, Int.reduceEq, axt, ftK, ft3, pickP, AScope, AAll, pickQ, ftQ, inHeap, SAct.cells, tys]
        refine ACallK.heap _ rfl cdo ?_
        rintro v H2 n2 ⟨rfl, to⟩
        obtain ⟨le2, kp2, s2, ts2, fv2, hst2, own2⟩ := to
        have le2 : st.n ≤ n2 := le2
        have kp2 : ∀ j, j < st.n → ¬ stOwn S L r a s' ta ts' fv' j → H2 j = st.H j := kp2
        have own2 : ∀ j, stOwn S L r a s2 ta ts2 fv2 j → stOwn S L r a s' ta ts' fv' j ∨ st.n ≤ j := own2
        have hv2 := (kp2 n1 hlt0 (fun h => hown _ h rfl)).trans hv
        have hne : ¬ n1 = n2 ∧ ¬ n2 = n1 := by and_intros <;> omega
        have own3 : ∀ j, stOwn S L r a s2 ta ts2 fv2 j → j ≠ n1 := fun j hj => by
          rcases own2 j hj with h | h
          · exact hown j h
          · omega
        have look : ∀ (H : AH) (n : Nat), n2 ≤ n → (∀ j, j ≠ n1 → j < n2 → H j = H2 j) → StL H n S L r a s2 ta ts2 fv2 x2.1 := fun H n hn hk => hst2.at hn fun j hj => hk j (own3 j hj) (hst2.own_lt hj)
        have w4 : IntKind.i64.wrap (3 * (M2 : Int)) = 3 * (M2 : Int) := wrap_in (by omega) (by omega)
        have w5 : IntKind.i64.wrap (3 * (M2 : Int) + 8) = 3 * (M2 : Int) + 8 := wrap_in (by omega) (by omega)
        have z1 : ¬ x2.1.R.len > 3 * (M2 : Int) + 8 := by omega
        have z2 : ¬ (x2.1.T.length : Int) > 3 * (M2 : Int) + 8 := by omega
        unfold SV SAct.cells at cd
        simp (maxSteps := 400000) (dsimp := false) only [e1, e5, e6, e7, e8, e9, axs, AThen, ABlock, dstsOk, AStep, callsF, AWant, aop, AS.ev, AS.put, upd, AS.bound, abin, aint, aload, astore, cellsAt, AV.cells, alen, elems, AV.int?, FPost, aresL, ares1, pack, afill, splice, Value.oneCell', Nat.reduceLT, Nat.reduceLeDiff, Nat.reduceEqDiff, Nat.reduceAdd, Nat.reduceMul, Nat.reduceSub, Nat.reduceBEq, Int.reduceLE, Int.reduceLT, Int.reduceToNat, Int.reduceNeg, Int.reduceEq, axt, ftK, ft3, pickP, AScope, AAll, pickQ, ftQ, inHeap, SAct.cells, tys]
        refine ADraw.planR [] [(0, true), (1, true), (2, true), (3, true), (4, true), (5, true), (6, true), (7, true), (8, true), (9, true), (10, true), (11, true)] [(0, false), (0, false), (0, false), (0, false), (0, false), (0, false), (0, false), (0, false), (0, false), (0, false), (0, false), (0, false)] mixed (by kernel_rfl) (by kernel_rfl) ?_
        simp (maxSteps := 400000) (dsimp := false) only [e1, e5, e6, e7, e8, e9, hg, hp0, hpl, hv2, SA_len, axs, AThen, ABlock, dstsOk, AStep, callsF, AWant, aop, AS.ev, AS.put, upd, AS.bound, abin, aint, aload, astore, cellsAt, AV.cells, alen, elems, AV.int?, FPost, aresL, ares1, pack, afill, splice, Value.oneCell', Nat.reduceLT, Nat.reduceLeDiff, Nat.reduceEqDiff, Nat.reduceAdd, Nat.reduceMul, Nat.reduceSub, Nat.reduceBEq, Int.reduceLE, Int.reduceLT, Int.reduceToNat, Int.reduceNeg, Int.reduceEq, axt, ftK, ft3, pickP, AScope, AAll, pickQ, ftQ, inHeap, SAct.cells, tys]
        refine ACallP.pure rfl (cd) ?_; simp (maxSteps := 400000) (dsimp := false) only [e1, e5, e6, e7, e8, e9, hv2, hne, axs, AThen, ABlock, dstsOk, AStep, callsF, AWant, aop, AS.ev, AS.put, upd, AS.bound, abin, aint, aload, astore, cellsAt, AV.cells, alen, elems, AV.int?, FPost, aresL, ares1, pack, afill, splice, Value.oneCell', Nat.reduceLT, Nat.reduceLeDiff, Nat.reduceEqDiff, Nat.reduceAdd, Nat.reduceMul, Nat.reduceSub, Nat.reduceBEq, Int.reduceLE, Int.reduceLT, Int.reduceToNat, Int.reduceNeg, Int.reduceEq, axt, ftK, ft3, pickP, AScope, AAll, pickQ, ftQ, inHeap, SAct.cells, tys]
        refine ACallK.heap _ rfl (cStTotal (look _ _ (Nat.le_succ _) (by intro j h1 h2; simp [Al.upd, h1, Nat.ne_of_lt h2]))) ?_; rintro r' H' n' ⟨rfl, eH, en⟩; obtain rfl := eH.symm; obtain rfl := en.symm; clear eH en; simp (maxSteps := 400000) (dsimp := false) only [e1, e5, e6, e7, e8, e9, hne, axs, AThen, ABlock, dstsOk, AStep, callsF, AWant, aop, AS.ev, AS.put, upd, AS.bound, abin, aint, aload, astore, cellsAt, AV.cells, alen, elems, AV.int?, FPost, aresL, ares1, pack, afill, splice, Value.oneCell', Nat.reduceLT, Nat.reduceLeDiff, Nat.reduceEqDiff, Nat.reduceAdd, Nat.reduceMul, Nat.reduceSub, Nat.reduceBEq, Int.reduceLE, Int.reduceLT, Int.reduceToNat, Int.reduceNeg, Int.reduceEq, axt, ftK, ft3, pickP, AScope, AAll, pickQ, ftQ, inHeap, SAct.cells, tys]
        rw [hmx]
        refine ACallK.heap _ rfl (cStRooms (look _ _ (Nat.le_succ _) (by intro j h1 h2; simp [Al.upd, h1, Nat.ne_of_lt h2])) o2) ?_; rintro r' H' n' ⟨rfl, eH, en⟩; obtain rfl := eH.symm; obtain rfl := en.symm; clear eH en; simp (maxSteps := 400000) (dsimp := false) only [e1, e5, e6, e7, e8, e9, hne, bne_self_eq_false, TL_len, g3, w4, w5, z1, z2, hw, axs, AThen, ABlock, dstsOk, AStep, callsF, AWant, aop, AS.ev, AS.put, upd, AS.bound, abin, aint, aload, astore, cellsAt, AV.cells, alen, elems, AV.int?, FPost, aresL, ares1, pack, afill, splice, Value.oneCell', Nat.reduceLT, Nat.reduceLeDiff, Nat.reduceEqDiff, Nat.reduceAdd, Nat.reduceMul, Nat.reduceSub, Nat.reduceBEq, Int.reduceLE, Int.reduceLT, Int.reduceToNat, Int.reduceNeg, Int.reduceEq, axt, ftK, ft3, pickP, AScope, AAll, pickQ, ftQ, inHeap, SAct.cells, tys]
        refine ⟨hlt, by omega, s2, ts2, fv2, ?_, own3⟩
        exact look _ _ (Nat.le_succ _) (by intro j h1 h2; simp [Al.upd, h1, Nat.ne_of_lt h2])
      · have hpl : ¬ (p : Int) < l.length := by omega
        simp (maxSteps := 400000) (dsimp := false) only [e1, e5, e6, e7, e8, e9, hpl, SA_len, axs, AThen, ABlock, dstsOk, AStep, callsF, AWant, aop, AS.ev, AS.put, upd, AS.bound, abin, aint, aload, astore, cellsAt, AV.cells, alen, elems, AV.int?, FPost, aresL, ares1, pack, afill, splice, Value.oneCell', Nat.reduceLT, Nat.reduceLeDiff, Nat.reduceEqDiff, Nat.reduceAdd, Nat.reduceMul, Nat.reduceSub, Nat.reduceBEq, Int.reduceLE, Int.reduceLT, Int.reduceToNat, Int.reduceNeg, Int.reduceEq, axt, ftK, ft3, pickP, AScope, AAll, pickQ, ftQ, inHeap, SAct.cells, tys]
        exact ⟨_, rfl, Sees.sc⟩
  · have h' : (l.length : Int) > 50 := by omega
    simp (maxSteps := 400000) (dsimp := false) only [h', axs, AThen, ABlock, dstsOk, AStep, callsF, AWant, aop, AS.ev, AS.put, upd, AS.bound, abin, aint, aload, astore, cellsAt, AV.cells, alen, elems, AV.int?, FPost, aresL, ares1, pack, afill, splice, Value.oneCell', Nat.reduceLT, Nat.reduceLeDiff, Nat.reduceEqDiff, Nat.reduceAdd, Nat.reduceMul, Nat.reduceSub, Nat.reduceBEq, Int.reduceLE, Int.reduceLT, Int.reduceToNat, Int.reduceNeg, Int.reduceEq, axt, ftK, ft3, pickP, AScope, AAll, pickQ, ftQ, inHeap, SAct.cells, tys]
    exact ⟨_, rfl, Sees.sc⟩
end Go.Al
