/- Numbers by keys, in slots: the law of nearness answers true. Conditions: the numbers fit their kinds. -/
import Derived.Test.YtnojinpneojfeaaHx16
set_option linter.unusedVariables false
set_option linter.unusedSimpArgs false
set_option maxRecDepth 20000
set_option maxHeartbeats 1600000
-- axs, AThen, ABlock, dstsOk, AStep, callsF, AWant, aop, AS.ev, AS.put, upd, AS.bound, abin, aint, aload, astore, cellsAt, AV.cells, alen, elems, AV.int?, FPost, aresL, ares1, pack, afill, splice, Value.oneCell', Nat.reduceLT, Nat.reduceLeDiff, Nat.reduceEqDiff, Nat.reduceAdd, Nat.reduceMul, Nat.reduceSub, Nat.reduceBEq, Int.reduceLE, Int.reduceLT, Int.reduceToNat, Int.reduceNeg, Int.reduceEq, axt, ftK, pickP, AScope, AAll, pickQ, ftQ, inHeap, RT, Sl3.cells, tys: RT, Sl3.cells
-- NOIDS: noIdsE_TL, noIdsE_HA
-- LENS: TL_len, HA_len
namespace Go.Al
open Go.Proofs
theorem law_HindexNear (e : List (List Value)) (f : ∀ x ∈ e, FitK [some .u8, some .u64, some .i32] x) : PCalls Try.prog 6 [.lst 3 (e.map fun x => x.map .sc)] (.sc (.bool true)) := by
  obtain ⟨l, hl, hf, _⟩ := rows_HA f
  rw [hl]
  refine PCalls.intro2 Try.func6 rfl rfl Try.ntmps6 Try.results6 (by simp) fun n => ?_; simp (maxSteps := 400000) (dsimp := false) only [axs, AThen, ABlock, dstsOk, AStep, callsF, AWant, aop, AS.ev, AS.put, upd, AS.bound, abin, aint, aload, astore, cellsAt, AV.cells, alen, elems, AV.int?, FPost, aresL, ares1, pack, afill, splice, Value.oneCell', Nat.reduceLT, Nat.reduceLeDiff, Nat.reduceEqDiff, Nat.reduceAdd, Nat.reduceMul, Nat.reduceSub, Nat.reduceBEq, Int.reduceLE, Int.reduceLT, Int.reduceToNat, Int.reduceNeg, Int.reduceEq, axt, ftK, pickP, AScope, AAll, pickQ, ftQ, inHeap, RT, Sl3.cells, tys]
  refine ACallK.strict rfl (f8) (by simp only [SeesL, HA_len, axs, axt, AS.ev, AS.put, upd, inHeap, Nat.reduceLT, Nat.reduceEqDiff, Nat.reduceAdd, Nat.reduceBEq, RT, Sl3.cells]; repeat' (first | exact True.intro | exact Sees.sc | exact Sees.none | ((with_reducible refine Sees.same ?_) <;> simp [noIds, noIdsL, noIdsE, noIdsE_U, noIdsE_UU, noIdsE_TL, noIdsE_HA] <;> fail) | (refine Live.sees ?_ ?_ <;> first | assumption | (simp [noIdsE_U, noIdsE_UU, noIdsE_TL, noIdsE_HA] <;> fail)) | (refine Sees.obj ?_ ?_ ?_ <;> first | exact ⟨_, _, by assumption, rfl⟩ | (simp [U_len, UU_len, TL_len, HA_len] <;> fail) | (simp [noIdsE_U, noIdsE_UU, noIdsE_TL, noIdsE_HA] <;> fail) | (simp [U, UU, upd] <;> fail) | (simp [U, UU, upd, neS, *] <;> fail)) | (refine Sees.of_seen 3 ?_ <;> simp [seen, upd, noIdsE, noIdsL, noIds, U, UU, Nat.add_assoc] <;> fail) | refine Sees.agg ?_ | refine And.intro ?_ ?_ | simp only [SeesL])) ?_; simp (maxSteps := 400000) (dsimp := false) only [HA_len, axs, AThen, ABlock, dstsOk, AStep, callsF, AWant, aop, AS.ev, AS.put, upd, AS.bound, abin, aint, aload, astore, cellsAt, AV.cells, alen, elems, AV.int?, FPost, aresL, ares1, pack, afill, splice, Value.oneCell', Nat.reduceLT, Nat.reduceLeDiff, Nat.reduceEqDiff, Nat.reduceAdd, Nat.reduceMul, Nat.reduceSub, Nat.reduceBEq, Int.reduceLE, Int.reduceLT, Int.reduceToNat, Int.reduceNeg, Int.reduceEq, axt, ftK, pickP, AScope, AAll, pickQ, ftQ, inHeap, RT, Sl3.cells, tys]
  by_cases h : l.length ≤ 50
  · have h' : ¬ (l.length : Int) > 50 := by omega
    simp (maxSteps := 400000) (dsimp := false) only [h', axs, AThen, ABlock, dstsOk, AStep, callsF, AWant, aop, AS.ev, AS.put, upd, AS.bound, abin, aint, aload, astore, cellsAt, AV.cells, alen, elems, AV.int?, FPost, aresL, ares1, pack, afill, splice, Value.oneCell', Nat.reduceLT, Nat.reduceLeDiff, Nat.reduceEqDiff, Nat.reduceAdd, Nat.reduceMul, Nat.reduceSub, Nat.reduceBEq, Int.reduceLE, Int.reduceLT, Int.reduceToNat, Int.reduceNeg, Int.reduceEq, axt, ftK, pickP, AScope, AAll, pickQ, ftQ, inHeap, RT, Sl3.cells, tys]
    refine ACallK.heap _ rfl (cHtNew _ _) ?_; rintro r' H' n' ⟨rfl, eH, en⟩; obtain rfl := eH.symm; obtain rfl := en.symm; clear eH en; simp (maxSteps := 400000) (dsimp := false) only [axs, AThen, ABlock, dstsOk, AStep, callsF, AWant, aop, AS.ev, AS.put, upd, AS.bound, abin, aint, aload, astore, cellsAt, AV.cells, alen, elems, AV.int?, FPost, aresL, ares1, pack, afill, splice, Value.oneCell', Nat.reduceLT, Nat.reduceLeDiff, Nat.reduceEqDiff, Nat.reduceAdd, Nat.reduceMul, Nat.reduceSub, Nat.reduceBEq, Int.reduceLE, Int.reduceLT, Int.reduceToNat, Int.reduceNeg, Int.reduceEq, axt, ftK, pickP, AScope, AAll, pickQ, ftQ, inHeap, RT, Sl3.cells, tys]
    refine ALoop.upto l.length (fun p t => t.t 0 = .lst 3 (HA l) ∧ t.t 3 = .sc (.bool true) ∧ t.t 4 = .ptr (n + 1) 2 0 0 ∧ t.t 6 = .sc (.int .i64 p) ∧ ∃ (most : Nat) (s : Nat), t.t 5 = .sc (.int .i64 most) ∧ most ≤ p ∧ cnt (hRun (l.take p)) ≤ most ∧ ((hRun (l.take p)).length = 8 ∨ 3 * (hRun (l.take p)).length < 8 * most) ∧ HtH t.H t.n (n + 1) s (hRun (l.take p)) (cnt (hRun (l.take p)))) ?_ ?_
    · exact ⟨rfl, rfl, rfl, rfl, 0, n, rfl, Nat.le_refl _, by rw [show cnt (hRun (l.take 0)) = 0 from empty_cnt 8]; omega, .inl (by simp [hRun]), newH_is _ n⟩
    · rintro p t hp hb ⟨e0, e3, e4, e6, most, s, e5, lm, lc, ln, hA⟩
      obtain ⟨ok, le1, le2⟩ := hRun_ok (l.take p) (fun a ha => hf a (List.mem_of_mem_take ha)) (by rw [List.length_take]; omega)
      have hpl2 : (l.take p).length ≤ l.length := by rw [List.length_take]; omega
      rcases Nat.lt_or_ge p l.length with hlt | hge
      · obtain ⟨x, hx, hp0, hpl, hw, hT, hD⟩ := idx hlt (by omega)
        have hg := HA_get hx
        have hsn := hRun_snoc (l.take p) x
        rw [← hT] at hsn
        have hxf := hf x (List.mem_of_getElem? hx)
        have hdo := cHtDo hA ok (by omega) x hxf
        obtain ⟨ok2, c2, g2⟩ := hDo_ok ok (by omega) x hxf
        rw [← hsn] at hdo ok2 c2 g2
        generalize (hDo (hRun (l.take p)) x).2 = res at *
        generalize hRun (l.take p) = R at *
        generalize hRun (l.take (p + 1)) = R2 at *
        simp (maxSteps := 400000) (dsimp := false) only [e0, e4, e6, hpl, HA_len, hg, hp0, axs, AThen, ABlock, dstsOk, AStep, callsF, AWant, aop, AS.ev, AS.put, upd, AS.bound, abin, aint, aload, astore, cellsAt, AV.cells, alen, elems, AV.int?, FPost, aresL, ares1, pack, afill, splice, Value.oneCell', Nat.reduceLT, Nat.reduceLeDiff, Nat.reduceEqDiff, Nat.reduceAdd, Nat.reduceMul, Nat.reduceSub, Nat.reduceBEq, Int.reduceLE, Int.reduceLT, Int.reduceToNat, Int.reduceNeg, Int.reduceEq, axt, ftK, pickP, AScope, AAll, pickQ, ftQ, inHeap, RT, Sl3.cells, tys]
        refine ACallK.heap _ rfl hdo ?_
        rintro r H' n' ⟨rfl, hle, hkeep, s', hA', hs'⟩
        simp (maxSteps := 400000) (dsimp := false) only [e4, axs, AThen, ABlock, dstsOk, AStep, callsF, AWant, aop, AS.ev, AS.put, upd, AS.bound, abin, aint, aload, astore, cellsAt, AV.cells, alen, elems, AV.int?, FPost, aresL, ares1, pack, afill, splice, Value.oneCell', Nat.reduceLT, Nat.reduceLeDiff, Nat.reduceEqDiff, Nat.reduceAdd, Nat.reduceMul, Nat.reduceSub, Nat.reduceBEq, Int.reduceLE, Int.reduceLT, Int.reduceToNat, Int.reduceNeg, Int.reduceEq, axt, ftK, pickP, AScope, AAll, pickQ, ftQ, inHeap, RT, Sl3.cells, tys]
        refine ACallK.heap _ rfl (cHtLen hA') ?_; rintro r' H' n' ⟨rfl, eH, en⟩; obtain rfl := eH.symm; obtain rfl := en.symm; clear eH en; simp (maxSteps := 400000) (dsimp := false) only [e0, e4, e5, e6, hw, axs, AThen, ABlock, dstsOk, AStep, callsF, AWant, aop, AS.ev, AS.put, upd, AS.bound, abin, aint, aload, astore, cellsAt, AV.cells, alen, elems, AV.int?, FPost, aresL, ares1, pack, afill, splice, Value.oneCell', Nat.reduceLT, Nat.reduceLeDiff, Nat.reduceEqDiff, Nat.reduceAdd, Nat.reduceMul, Nat.reduceSub, Nat.reduceBEq, Int.reduceLE, Int.reduceLT, Int.reduceToNat, Int.reduceNeg, Int.reduceEq, axt, ftK, pickP, AScope, AAll, pickQ, ftQ, inHeap, RT, Sl3.cells, tys]
        have hmx : (if (cnt R2 : Int) > (most : Int) then (cnt R2 : Int) else (most : Int)) = ((max most (cnt R2) : Nat) : Int) := by split <;> omega
        exact ⟨hlt, e3, max most (cnt R2), s', by rw [hmx], by omega, by omega, by omega, hA'⟩
      · have hpl : ¬ (p : Int) < l.length := by omega
        rw [List.take_of_length_le hge] at hA ok lc ln
        generalize hRun l = R at *
        have hlen := ok.len
        have hload := ok.load
        simp (maxSteps := 400000) (dsimp := false) only [e0, e4, e6, hpl, HA_len, axs, AThen, ABlock, dstsOk, AStep, callsF, AWant, aop, AS.ev, AS.put, upd, AS.bound, abin, aint, aload, astore, cellsAt, AV.cells, alen, elems, AV.int?, FPost, aresL, ares1, pack, afill, splice, Value.oneCell', Nat.reduceLT, Nat.reduceLeDiff, Nat.reduceEqDiff, Nat.reduceAdd, Nat.reduceMul, Nat.reduceSub, Nat.reduceBEq, Int.reduceLE, Int.reduceLT, Int.reduceToNat, Int.reduceNeg, Int.reduceEq, axt, ftK, pickP, AScope, AAll, pickQ, ftQ, inHeap, RT, Sl3.cells, tys]
        refine ACallK.heap _ rfl (cHtSlots hA) ?_; rintro r' H' n' ⟨rfl, eH, en⟩; obtain rfl := eH.symm; obtain rfl := en.symm; clear eH en; simp (maxSteps := 400000) (dsimp := false) only [e3, e4, e5, axs, AThen, ABlock, dstsOk, AStep, callsF, AWant, aop, AS.ev, AS.put, upd, AS.bound, abin, aint, aload, astore, cellsAt, AV.cells, alen, elems, AV.int?, FPost, aresL, ares1, pack, afill, splice, Value.oneCell', Nat.reduceLT, Nat.reduceLeDiff, Nat.reduceEqDiff, Nat.reduceAdd, Nat.reduceMul, Nat.reduceSub, Nat.reduceBEq, Int.reduceLE, Int.reduceLT, Int.reduceToNat, Int.reduceNeg, Int.reduceEq, axt, ftK, pickP, AScope, AAll, pickQ, ftQ, inHeap, RT, Sl3.cells, tys]
        have n1 : ¬ (R.length : Int) < 8 := by omega
        have wm : IntKind.i64.wrap (3 * (most : Int)) = 3 * (most : Int) := wrap_in (by omega) (by omega)
        have wm' : IntKind.i64.wrap (3 * (most : Int) + 9) = 3 * (most : Int) + 9 := wrap_in (by omega) (by omega)
        have n2 : ¬ (R.length : Int) ≥ 3 * (most : Int) + 9 := by omega
        have n3 : ¬ (cnt R : Int) ≥ (R.length : Int) := by omega
        simp (maxSteps := 400000) (dsimp := false) only [n1, wm, wm', n2, e4, e5, axs, AThen, ABlock, dstsOk, AStep, callsF, AWant, aop, AS.ev, AS.put, upd, AS.bound, abin, aint, aload, astore, cellsAt, AV.cells, alen, elems, AV.int?, FPost, aresL, ares1, pack, afill, splice, Value.oneCell', Nat.reduceLT, Nat.reduceLeDiff, Nat.reduceEqDiff, Nat.reduceAdd, Nat.reduceMul, Nat.reduceSub, Nat.reduceBEq, Int.reduceLE, Int.reduceLT, Int.reduceToNat, Int.reduceNeg, Int.reduceEq, axt, ftK, pickP, AScope, AAll, pickQ, ftQ, inHeap, RT, Sl3.cells, tys]
        refine ACallK.heap _ rfl (cHtLen hA) ?_; rintro r' H' n' ⟨rfl, eH, en⟩; obtain rfl := eH.symm; obtain rfl := en.symm; clear eH en; simp (maxSteps := 400000) (dsimp := false) only [n3, axs, AThen, ABlock, dstsOk, AStep, callsF, AWant, aop, AS.ev, AS.put, upd, AS.bound, abin, aint, aload, astore, cellsAt, AV.cells, alen, elems, AV.int?, FPost, aresL, ares1, pack, afill, splice, Value.oneCell', Nat.reduceLT, Nat.reduceLeDiff, Nat.reduceEqDiff, Nat.reduceAdd, Nat.reduceMul, Nat.reduceSub, Nat.reduceBEq, Int.reduceLE, Int.reduceLT, Int.reduceToNat, Int.reduceNeg, Int.reduceEq, axt, ftK, pickP, AScope, AAll, pickQ, ftQ, inHeap, RT, Sl3.cells, tys]
        refine ALoop.upto R.length (fun i t => t.t 3 = .sc (.bool true) ∧ t.t 4 = .ptr (n + 1) 2 0 0 ∧ t.t 7 = .sc (.int .i64 R.length) ∧ t.t 8 = .sc (.int .i64 i) ∧ HtH t.H t.n (n + 1) s R (cnt R)) ⟨e3, e4, rfl, rfl, hA⟩ ?_
        rintro i u hi hbu ⟨u3, u4, u7, u8, hU⟩
        by_cases hx : i < R.length
        · have i1 : (i : Int) < R.length := by omega
          have wi : IntKind.i64.wrap ((i : Int) + 1) = ((i + 1 : Nat) : Int) := by rw [wrap_in (by omega) (by omega)]; omega
          have hat : atF R (i : Int) = sl R i := by unfold atF; rw [if_pos ⟨by omega, i1⟩]; simp
          simp (maxSteps := 400000) (dsimp := false) only [u4, u7, u8, i1, axs, AThen, ABlock, dstsOk, AStep, callsF, AWant, aop, AS.ev, AS.put, upd, AS.bound, abin, aint, aload, astore, cellsAt, AV.cells, alen, elems, AV.int?, FPost, aresL, ares1, pack, afill, splice, Value.oneCell', Nat.reduceLT, Nat.reduceLeDiff, Nat.reduceEqDiff, Nat.reduceAdd, Nat.reduceMul, Nat.reduceSub, Nat.reduceBEq, Int.reduceLE, Int.reduceLT, Int.reduceToNat, Int.reduceNeg, Int.reduceEq, axt, ftK, pickP, AScope, AAll, pickQ, ftQ, inHeap, RT, Sl3.cells, tys]
          refine ACallK.heap _ rfl (cHtSlot hU (i : Int)) ?_
          rintro r H2 n2 ⟨rfl, kp⟩
          have hU2 := hU.keeps kp
          rw [hat]
          simp (maxSteps := 400000) (dsimp := false) only [u7, axs, AThen, ABlock, dstsOk, AStep, callsF, AWant, aop, AS.ev, AS.put, upd, AS.bound, abin, aint, aload, astore, cellsAt, AV.cells, alen, elems, AV.int?, FPost, aresL, ares1, pack, afill, splice, Value.oneCell', Nat.reduceLT, Nat.reduceLeDiff, Nat.reduceEqDiff, Nat.reduceAdd, Nat.reduceMul, Nat.reduceSub, Nat.reduceBEq, Int.reduceLE, Int.reduceLT, Int.reduceToNat, Int.reduceNeg, Int.reduceEq, axt, ftK, pickP, AScope, AAll, pickQ, ftQ, inHeap, RT, Sl3.cells, tys]
          refine ACallK.strict rfl (f14 _ _) (by simp only [SeesL, u7, axs, axt, AS.ev, AS.put, upd, inHeap, Nat.reduceLT, Nat.reduceEqDiff, Nat.reduceAdd, Nat.reduceBEq, RT, Sl3.cells]; repeat' (first | exact True.intro | exact Sees.sc | exact Sees.none | ((with_reducible refine Sees.same ?_) <;> simp [noIds, noIdsL, noIdsE, noIdsE_U, noIdsE_UU, noIdsE_TL, noIdsE_HA] <;> fail) | (refine Live.sees ?_ ?_ <;> first | assumption | (simp [noIdsE_U, noIdsE_UU, noIdsE_TL, noIdsE_HA] <;> fail)) | (refine Sees.obj ?_ ?_ ?_ <;> first | exact ⟨_, _, by assumption, rfl⟩ | (simp [U_len, UU_len, TL_len, HA_len] <;> fail) | (simp [noIdsE_U, noIdsE_UU, noIdsE_TL, noIdsE_HA] <;> fail) | (simp [U, UU, upd] <;> fail) | (simp [U, UU, upd, neS, *] <;> fail)) | (refine Sees.of_seen 3 ?_ <;> simp [seen, upd, noIdsE, noIdsL, noIds, U, UU, Nat.add_assoc] <;> fail) | refine Sees.agg ?_ | refine And.intro ?_ ?_ | simp only [SeesL])) ?_; simp (maxSteps := 400000) (dsimp := false) only [u7, axs, AThen, ABlock, dstsOk, AStep, callsF, AWant, aop, AS.ev, AS.put, upd, AS.bound, abin, aint, aload, astore, cellsAt, AV.cells, alen, elems, AV.int?, FPost, aresL, ares1, pack, afill, splice, Value.oneCell', Nat.reduceLT, Nat.reduceLeDiff, Nat.reduceEqDiff, Nat.reduceAdd, Nat.reduceMul, Nat.reduceSub, Nat.reduceBEq, Int.reduceLE, Int.reduceLT, Int.reduceToNat, Int.reduceNeg, Int.reduceEq, axt, ftK, pickP, AScope, AAll, pickQ, ftQ, inHeap, RT, Sl3.cells, tys]
          cases hfu : (sl R i).full with
          | false =>
            refine ALoop.upto 0 (fun d t => t.t 3 = .sc (.bool true) ∧ t.t 4 = .ptr (n + 1) 2 0 0 ∧ t.t 7 = .sc (.int .i64 R.length) ∧ t.t 8 = .sc (.int .i64 i) ∧ t.t 11 = .sc (.bool false) ∧ HtH t.H t.n (n + 1) s R (cnt R)) ⟨u3, u4, u7, u8, rfl, hU2⟩ ?_
            rintro d v hd hbv ⟨v3, v4, v7, v8, v11, hV⟩
            simp (maxSteps := 400000) (dsimp := false) only [v11, v8, wi, axs, AThen, ABlock, dstsOk, AStep, callsF, AWant, aop, AS.ev, AS.put, upd, AS.bound, abin, aint, aload, astore, cellsAt, AV.cells, alen, elems, AV.int?, FPost, aresL, ares1, pack, afill, splice, Value.oneCell', Nat.reduceLT, Nat.reduceLeDiff, Nat.reduceEqDiff, Nat.reduceAdd, Nat.reduceMul, Nat.reduceSub, Nat.reduceBEq, Int.reduceLE, Int.reduceLT, Int.reduceToNat, Int.reduceNeg, Int.reduceEq, axt, ftK, pickP, AScope, AAll, pickQ, ftQ, inHeap, RT, Sl3.cells, tys]
            exact ⟨hx, v3, v4, v7, hV⟩
          | true =>
            have hkk := ok.keys _ ⟨hfu, i, hx, rfl⟩
            have hh : hm R.length (sl R i).key < R.length := hm_lt (by omega) _
            rw [hm_homeR ok.pw hkk]
            have hpath := fun q => ok.inv.path i q hx
            have hDl := D_lt hh hx
            refine ALoop.upto (D R.length (hm R.length (sl R i).key) i) (fun d t => t.t 3 = .sc (.bool true) ∧ t.t 4 = .ptr (n + 1) 2 0 0 ∧ t.t 7 = .sc (.int .i64 R.length) ∧ t.t 8 = .sc (.int .i64 i) ∧ t.t 11 = .sc (.bool true) ∧ t.t 12 = .sc (.int .i64 (adv R.length (hm R.length (sl R i).key) d)) ∧ HtH t.H t.n (n + 1) s R (cnt R)) ⟨u3, u4, u7, u8, rfl, by rw [adv_zero hh]; rfl, hU2⟩ ?_
            rintro d v hd hbv ⟨v3, v4, v7, v8, v11, v12, hV⟩
            have hatd : adv R.length (hm R.length (sl R i).key) d < R.length := adv_lt hh (by omega)
            have hDa := D_adv hh (show d < R.length by omega)
            by_cases hx2 : d < D R.length (hm R.length (sl R i).key) i
            · have hful := hpath _ hatd hfu (by rw [hDa]; exact hx2)
              have hne : ¬ ((adv R.length (hm R.length (sl R i).key) d : Nat) : Int) = (i : Int) := by
                intro hc
                have : adv R.length (hm R.length (sl R i).key) d = i := by omega
                rw [this] at hDa
                omega
              have hnx : adv R.length (hm R.length (sl R i).key) (d + 1) = adv R.length (adv R.length (hm R.length (sl R i).key) d) 1 := adv_succ hh (by omega)
              generalize adv R.length (hm R.length (sl R i).key) d = q at *
              generalize adv R.length (hm R.length (sl R i).key) (d + 1) = q2 at *
              subst hnx
              have hat2 : atF R (q : Int) = sl R q := by unfold atF; rw [if_pos ⟨by omega, by omega⟩]; simp
              have wq : IntKind.i64.wrap ((q : Int) + 1) = (q : Int) + 1 := wrap_in (by omega) (by omega)
              have hrem := rem_next hatd
              have hN0 : ¬ ((R.length : Int) = 0) := by omega
              simp (maxSteps := 400000) (dsimp := false) only [v4, v8, v11, v12, hne, axs, AThen, ABlock, dstsOk, AStep, callsF, AWant, aop, AS.ev, AS.put, upd, AS.bound, abin, aint, aload, astore, cellsAt, AV.cells, alen, elems, AV.int?, FPost, aresL, ares1, pack, afill, splice, Value.oneCell', Nat.reduceLT, Nat.reduceLeDiff, Nat.reduceEqDiff, Nat.reduceAdd, Nat.reduceMul, Nat.reduceSub, Nat.reduceBEq, Int.reduceLE, Int.reduceLT, Int.reduceToNat, Int.reduceNeg, Int.reduceEq, axt, ftK, pickP, AScope, AAll, pickQ, ftQ, inHeap, RT, Sl3.cells, tys]
              refine ACallK.heap _ rfl (cHtSlot hV (q : Int)) ?_
              rintro r H3 n3 ⟨rfl, kp3⟩
              have hV3 := hV.keeps kp3
              rw [hat2]
              simp (maxSteps := 400000) (dsimp := false) only [v7, v12, hful, wq, hrem, hN0, axs, AThen, ABlock, dstsOk, AStep, callsF, AWant, aop, AS.ev, AS.put, upd, AS.bound, abin, aint, aload, astore, cellsAt, AV.cells, alen, elems, AV.int?, FPost, aresL, ares1, pack, afill, splice, Value.oneCell', Nat.reduceLT, Nat.reduceLeDiff, Nat.reduceEqDiff, Nat.reduceAdd, Nat.reduceMul, Nat.reduceSub, Nat.reduceBEq, Int.reduceLE, Int.reduceLT, Int.reduceToNat, Int.reduceNeg, Int.reduceEq, axt, ftK, pickP, AScope, AAll, pickQ, ftQ, inHeap, RT, Sl3.cells, tys]
              exact ⟨hx2, v3, v4, v8, v11, hV3⟩
            · have hde : adv R.length (hm R.length (sl R i).key) d = i := by rw [show d = D R.length (hm R.length (sl R i).key) i by omega, adv_D hh hx]
              rw [hde] at v12
              simp (maxSteps := 400000) (dsimp := false) only [v8, v11, v12, wi, axs, AThen, ABlock, dstsOk, AStep, callsF, AWant, aop, AS.ev, AS.put, upd, AS.bound, abin, aint, aload, astore, cellsAt, AV.cells, alen, elems, AV.int?, FPost, aresL, ares1, pack, afill, splice, Value.oneCell', Nat.reduceLT, Nat.reduceLeDiff, Nat.reduceEqDiff, Nat.reduceAdd, Nat.reduceMul, Nat.reduceSub, Nat.reduceBEq, Int.reduceLE, Int.reduceLT, Int.reduceToNat, Int.reduceNeg, Int.reduceEq, axt, ftK, pickP, AScope, AAll, pickQ, ftQ, inHeap, RT, Sl3.cells, tys]
              exact ⟨hx, v3, v4, v7, hV⟩
        · have i1 : ¬ (i : Int) < R.length := by omega
          simp (maxSteps := 400000) (dsimp := false) only [u3, u7, u8, i1, axs, AThen, ABlock, dstsOk, AStep, callsF, AWant, aop, AS.ev, AS.put, upd, AS.bound, abin, aint, aload, astore, cellsAt, AV.cells, alen, elems, AV.int?, FPost, aresL, ares1, pack, afill, splice, Value.oneCell', Nat.reduceLT, Nat.reduceLeDiff, Nat.reduceEqDiff, Nat.reduceAdd, Nat.reduceMul, Nat.reduceSub, Nat.reduceBEq, Int.reduceLE, Int.reduceLT, Int.reduceToNat, Int.reduceNeg, Int.reduceEq, axt, ftK, pickP, AScope, AAll, pickQ, ftQ, inHeap, RT, Sl3.cells, tys]
          exact ⟨_, rfl, Sees.sc⟩
  · have h' : (l.length : Int) > 50 := by omega
    simp (maxSteps := 400000) (dsimp := false) only [h', axs, AThen, ABlock, dstsOk, AStep, callsF, AWant, aop, AS.ev, AS.put, upd, AS.bound, abin, aint, aload, astore, cellsAt, AV.cells, alen, elems, AV.int?, FPost, aresL, ares1, pack, afill, splice, Value.oneCell', Nat.reduceLT, Nat.reduceLeDiff, Nat.reduceEqDiff, Nat.reduceAdd, Nat.reduceMul, Nat.reduceSub, Nat.reduceBEq, Int.reduceLE, Int.reduceLT, Int.reduceToNat, Int.reduceNeg, Int.reduceEq, axt, ftK, pickP, AScope, AAll, pickQ, ftQ, inHeap, RT, Sl3.cells, tys]
    exact ⟨_, rfl, Sees.sc⟩
end Go.Al
