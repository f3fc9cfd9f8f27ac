/- Low inter-reference recency: the kinds, and a hit: the laws answer true. Conditions: the numbers fit their kinds. -/
import Derived.Test.YthglbfgmohgfdaaKs2
set_option linter.unusedVariables false
set_option linter.unusedSimpArgs false
set_option maxRecDepth 20000
set_option maxHeartbeats 3200000
-- axs, AThen, ABlock, dstsOk, AStep, callsF, AWant, aop, AS.ev, AS.put, upd, AS.bound, abin, aint, aload, astore, cellsAt, AV.cells, alen, elems, AV.int?, FPost, aresL, ares1, pack, afill, splice, Value.oneCell', Nat.reduceLT, Nat.reduceLeDiff, Nat.reduceEqDiff, Nat.reduceAdd, Nat.reduceMul, Nat.reduceSub, Nat.reduceBEq, Int.reduceLE, Int.reduceLT, Int.reduceToNat, Int.reduceNeg, Int.reduceEq, axt, ftK, ft3, pickP, AScope, AAll, pickQ, ftQ, inHeap, SL, tys: SL
-- NOIDS: noIdsE_IT, noIdsE_DD
-- LENS: IT_len
namespace Go.Al
open Go.Proofs
/-- A live row in a new row of rows. -/
theorem Sees.rows1 {H : AH} {id idr te te' m : Nat} {q : List Int} (h : H idr = some (.obj te 1 [[.sl id 1 0 m]] false)) (h2 : H id = some (.obj te' 1 (U q) false)) (hm : m = q.length) : Sees H true (.sl idr 1 0 1) (.lst 1 (UU [q])) := by
  refine Sees.of_seen 3 ?_
  have e : (U q).take m = U q := by rw [hm, List.take_of_length_le (by rw [U_len]; omega)]
  have hl : m ≤ (U q).length := by rw [U_len]; omega
  have hs : seen H true 2 (.sl id 1 0 m) = some (.lst 1 (U q)) := by
    unfold seen
    simp only [h2, List.drop_zero, e, noIdsE_U, if_true]
    rw [if_pos ⟨trivial, by omega, by simp⟩]
  unfold seen
  simp only [h]
  rw [if_pos ⟨trivial, by simp, by simp⟩, if_neg (by simp [noIdsE, noIdsL, noIds])]
  simp [hs, UU]
/-- One row, that is nil. -/
theorem rApartNil : PCalls Try.prog 25 [.lst 1 [[.sc (.slice none 0 0)]]] (.sc (.bool true)) := by
  have w1 : IntKind.i64.wrap (0 + 1) = 1 := by decide
  have g1 : (0 : Int) < 1 := by omega
  have g2 : ¬ (0 : Int) < 0 := by omega
  have g3 : ¬ (1 : Int) < 1 := by omega
  have g4 : (0 : Int) ≤ 0 := by omega
  refine PCalls.intro2 Try.func25 rfl rfl Try.ntmps25 Try.results25 (by simp) fun n => ?_; simp (maxSteps := 400000) (dsimp := false) only [axs, AThen, ABlock, dstsOk, AStep, callsF, AWant, aop, AS.ev, AS.put, upd, AS.bound, abin, aint, aload, astore, cellsAt, AV.cells, alen, elems, AV.int?, FPost, aresL, ares1, pack, afill, splice, Value.oneCell', Nat.reduceLT, Nat.reduceLeDiff, Nat.reduceEqDiff, Nat.reduceAdd, Nat.reduceMul, Nat.reduceSub, Nat.reduceBEq, Int.reduceLE, Int.reduceLT, Int.reduceToNat, Int.reduceNeg, Int.reduceEq, axt, ftK, ft3, pickP, AScope, AAll, pickQ, ftQ, inHeap, SL, tys]
  refine ALoop.upto 1 (fun p s => s.t 0 = .lst 1 [[.sc (.slice none 0 0)]] ∧ s.t 4 = .sc (.int .i64 p)) ⟨rfl, rfl⟩ ?_
  rintro p s hp hb ⟨h0, h4⟩
  rcases Nat.lt_or_ge p 1 with hlt | hge
  · obtain rfl : p = 0 := by omega
    have h4 : s.t 4 = .sc (.int .i64 0) := h4
    have hl : (([[AV.sc (.slice none 0 0)]] : List (List AV)).length : Int) = 1 := rfl
    have hg : ([[AV.sc (.slice none 0 0)]] : List (List AV))[0]? = some [.sc (.slice none 0 0)] := rfl
    simp (maxSteps := 400000) (dsimp := false) only [h0, h4, g1, hl, axs, AThen, ABlock, dstsOk, AStep, callsF, AWant, aop, AS.ev, AS.put, upd, AS.bound, abin, aint, aload, astore, cellsAt, AV.cells, alen, elems, AV.int?, FPost, aresL, ares1, pack, afill, splice, Value.oneCell', Nat.reduceLT, Nat.reduceLeDiff, Nat.reduceEqDiff, Nat.reduceAdd, Nat.reduceMul, Nat.reduceSub, Nat.reduceBEq, Int.reduceLE, Int.reduceLT, Int.reduceToNat, Int.reduceNeg, Int.reduceEq, axt, ftK, ft3, pickP, AScope, AAll, pickQ, ftQ, inHeap, SL, tys]
    refine ALoop.upto 0 (fun q s => s.t 0 = .lst 1 [[.sc (.slice none 0 0)]] ∧ s.t 4 = .sc (.int .i64 0) ∧ s.t 5 = .sc (.int .i64 q)) ⟨h0, h4, rfl⟩ ?_
    clear h0 h4 hb
    rintro q s hq hb ⟨h0, h4, h5⟩
    obtain rfl : q = 0 := by omega
    have h5 : s.t 5 = .sc (.int .i64 0) := h5
    simp (maxSteps := 400000) (dsimp := false) only [h0, h4, h5, g2, g4, hg, w1, axs, AThen, ABlock, dstsOk, AStep, callsF, AWant, aop, AS.ev, AS.put, upd, AS.bound, abin, aint, aload, astore, cellsAt, AV.cells, alen, elems, AV.int?, FPost, aresL, ares1, pack, afill, splice, Value.oneCell', Nat.reduceLT, Nat.reduceLeDiff, Nat.reduceEqDiff, Nat.reduceAdd, Nat.reduceMul, Nat.reduceSub, Nat.reduceBEq, Int.reduceLE, Int.reduceLT, Int.reduceToNat, Int.reduceNeg, Int.reduceEq, axt, ftK, ft3, pickP, AScope, AAll, pickQ, ftQ, inHeap, SL, tys]
  · obtain rfl : p = 1 := by omega
    have h4 : s.t 4 = .sc (.int .i64 1) := h4
    simp (maxSteps := 400000) (dsimp := false) only [h0, h4, g3, axs, AThen, ABlock, dstsOk, AStep, callsF, AWant, aop, AS.ev, AS.put, upd, AS.bound, abin, aint, aload, astore, cellsAt, AV.cells, alen, elems, AV.int?, FPost, aresL, ares1, pack, afill, splice, Value.oneCell', Nat.reduceLT, Nat.reduceLeDiff, Nat.reduceEqDiff, Nat.reduceAdd, Nat.reduceMul, Nat.reduceSub, Nat.reduceBEq, Int.reduceLE, Int.reduceLT, Int.reduceToNat, Int.reduceNeg, Int.reduceEq, axt, ftK, ft3, pickP, AScope, AAll, pickQ, ftQ, inHeap, SL, tys]
    exact ⟨_, rfl, Sees.sc⟩
theorem law_LirsKinds (c : Int) (w : (Lit.int .u8 c).wf = true) (e : List (List Value)) (f : ∀ x ∈ e, FitK [some .u8, some .u64, some .u16] x) : PCalls Try.prog 7 [.sc (.int .u8 c), .lst 3 (e.map fun e => e.map .sc)] (.sc (.bool true)) := by
  obtain ⟨l, hl, hf, _⟩ := rows_DD f
  obtain ⟨h0, h1⟩ := wfu8 w
  obtain ⟨k1, k2, w1, w2, hc⟩ := size12 h0 h1
  rw [hl]
  refine PCalls.intro2 Try.func7 rfl rfl Try.ntmps7 Try.results7 (by simp) fun n => ?_; simp (maxSteps := 400000) (dsimp := false) only [axs, AThen, ABlock, dstsOk, AStep, callsF, AWant, aop, AS.ev, AS.put, upd, AS.bound, abin, aint, aload, astore, cellsAt, AV.cells, alen, elems, AV.int?, FPost, aresL, ares1, pack, afill, splice, Value.oneCell', Nat.reduceLT, Nat.reduceLeDiff, Nat.reduceEqDiff, Nat.reduceAdd, Nat.reduceMul, Nat.reduceSub, Nat.reduceBEq, Int.reduceLE, Int.reduceLT, Int.reduceToNat, Int.reduceNeg, Int.reduceEq, axt, ftK, ft3, pickP, AScope, AAll, pickQ, ftQ, inHeap, SL, tys]
  refine ACallK.strict rfl (awake12) (by simp only [SeesL, DD_len, axs, axt, AS.ev, AS.put, upd, inHeap, Nat.reduceLT, Nat.reduceEqDiff, Nat.reduceAdd, Nat.reduceBEq, SL]; repeat' (first | exact True.intro | exact Sees.sc | exact Sees.none | ((with_reducible refine Sees.same ?_) <;> simp [noIds, noIdsL, noIdsE, noIdsE_U, noIdsE_UU, noIdsE_IT, noIdsE_DD] <;> fail) | (refine Live.sees ?_ ?_ <;> first | assumption | (simp [noIdsE_U, noIdsE_UU, noIdsE_IT, noIdsE_DD] <;> fail)) | (refine Sees.obj ?_ ?_ ?_ <;> first | exact ⟨_, _, by assumption, rfl⟩ | (simp [U_len, UU_len, IT_len] <;> fail) | (simp [noIdsE_U, noIdsE_UU, noIdsE_IT, noIdsE_DD] <;> fail) | (simp [U, UU, upd] <;> fail) | (simp [U, UU, upd, neS, *] <;> fail)) | (refine Sees.of_seen 3 ?_ <;> simp [seen, upd, noIdsE, noIdsL, noIds, U, UU, Nat.add_assoc] <;> fail) | refine Sees.agg ?_ | refine And.intro ?_ ?_ | simp only [SeesL])) ?_; simp (maxSteps := 400000) (dsimp := false) only [DD_len, axs, AThen, ABlock, dstsOk, AStep, callsF, AWant, aop, AS.ev, AS.put, upd, AS.bound, abin, aint, aload, astore, cellsAt, AV.cells, alen, elems, AV.int?, FPost, aresL, ares1, pack, afill, splice, Value.oneCell', Nat.reduceLT, Nat.reduceLeDiff, Nat.reduceEqDiff, Nat.reduceAdd, Nat.reduceMul, Nat.reduceSub, Nat.reduceBEq, Int.reduceLE, Int.reduceLT, Int.reduceToNat, Int.reduceNeg, Int.reduceEq, axt, ftK, ft3, pickP, AScope, AAll, pickQ, ftQ, inHeap, SL, tys]
  by_cases h : l.length ≤ 60
  · have h' : ¬ (l.length : Int) > 60 := by omega
    have hok := liRun_ok k1 k2 l hf
    have hrun := cLrun c l h0 h1 (by omega) hf
    generalize liRun c l = st at *
    obtain ⟨q1, q2⟩ := hok.bounds
    have z1 := hok.keys_len
    have z3 := hok.c1
    have u1 := cLKeys st (by omega) (by omega)
    have ha := apart_iff.2 hok.keys
    have ha' : apart (liKeys st ++ []) = true := by rw [List.append_nil]; exact ha
    have hk1 := apart_iff.2 hok.b.sn
    have hk1' : apart (st.S.map Prod.fst ++ []) = true := by rw [List.append_nil]; exact hk1
    have hk2 := apart_iff.2 hok.b.qn
    have hk2' : apart (st.Q ++ []) = true := by rw [List.append_nil]; exact hk2
    have hkd := hok.b.kd
    have hcq := hok.b.cq
    clear hok
    generalize liKeys st = K at *
    obtain ⟨C, S, Q⟩ := st
    simp only at q1 q2 z1 z3 hk1 hk1' hk2 hk2' hkd hcq
    simp (maxSteps := 400000) (dsimp := false) only [h', axs, AThen, ABlock, dstsOk, AStep, callsF, AWant, aop, AS.ev, AS.put, upd, AS.bound, abin, aint, aload, astore, cellsAt, AV.cells, alen, elems, AV.int?, FPost, aresL, ares1, pack, afill, splice, Value.oneCell', Nat.reduceLT, Nat.reduceLeDiff, Nat.reduceEqDiff, Nat.reduceAdd, Nat.reduceMul, Nat.reduceSub, Nat.reduceBEq, Int.reduceLE, Int.reduceLT, Int.reduceToNat, Int.reduceNeg, Int.reduceEq, axt, ftK, ft3, pickP, AScope, AAll, pickQ, ftQ, inHeap, SL, tys]
    refine ACallK.strict rfl (hrun) (by simp only [SeesL, axs, axt, AS.ev, AS.put, upd, inHeap, Nat.reduceLT, Nat.reduceEqDiff, Nat.reduceAdd, Nat.reduceBEq, SL]; repeat' (first | exact True.intro | exact Sees.sc | exact Sees.none | ((with_reducible refine Sees.same ?_) <;> simp [noIds, noIdsL, noIdsE, noIdsE_U, noIdsE_UU, noIdsE_IT, noIdsE_DD] <;> fail) | (refine Live.sees ?_ ?_ <;> first | assumption | (simp [noIdsE_U, noIdsE_UU, noIdsE_IT, noIdsE_DD] <;> fail)) | (refine Sees.obj ?_ ?_ ?_ <;> first | exact ⟨_, _, by assumption, rfl⟩ | (simp [U_len, UU_len, IT_len] <;> fail) | (simp [noIdsE_U, noIdsE_UU, noIdsE_IT, noIdsE_DD] <;> fail) | (simp [U, UU, upd] <;> fail) | (simp [U, UU, upd, neS, *] <;> fail)) | (refine Sees.of_seen 3 ?_ <;> simp [seen, upd, noIdsE, noIdsL, noIds, U, UU, Nat.add_assoc] <;> fail) | refine Sees.agg ?_ | refine And.intro ?_ ?_ | simp only [SeesL])) ?_; simp (maxSteps := 400000) (dsimp := false) only [axs, AThen, ABlock, dstsOk, AStep, callsF, AWant, aop, AS.ev, AS.put, upd, AS.bound, abin, aint, aload, astore, cellsAt, AV.cells, alen, elems, AV.int?, FPost, aresL, ares1, pack, afill, splice, Value.oneCell', Nat.reduceLT, Nat.reduceLeDiff, Nat.reduceEqDiff, Nat.reduceAdd, Nat.reduceMul, Nat.reduceSub, Nat.reduceBEq, Int.reduceLE, Int.reduceLT, Int.reduceToNat, Int.reduceNeg, Int.reduceEq, axt, ftK, ft3, pickP, AScope, AAll, pickQ, ftQ, inHeap, SL, tys]
    refine ALoop.upto S.length (fun p s => s.t 5 = .sc (.bool true) ∧ s.t 6 = .ptr n 3 0 0 ∧ s.t 8 = .sc (.int .i64 p) ∧ n < s.n ∧ s.H n = some (.obj 27 3 [[.sc (.int .i64 C), .lst 2 (IT S), .lst 1 (U Q)]] false) ∧ Live 35 1 s.H (U ((S.take p).map Prod.fst)) (s.t 7)) ⟨rfl, rfl, rfl, Nat.lt_succ_self _, upd_same _ _ _, Live.nil⟩ ?_
    rintro p s hp hb ⟨e5, e6, e8, hlt0, en, hv⟩
    have hnn : (¬ n = s.n ∧ ¬ s.n = n) ∧ (¬ n = s.n + 1 ∧ ¬ s.n + 1 = n) ∧ (¬ n = s.n + 1 + 1 ∧ ¬ s.n + 1 + 1 = n) := by omega
    rcases Nat.lt_or_ge p S.length with hlt | hge
    · obtain ⟨x, hx, hp0, hpl, hw, hT, hD⟩ := idx hlt (by omega)
      have hg := IT_get hx
      have hxm := List.mem_of_getElem? hx
      have hs : U ((S.take (p + 1)).map Prod.fst) = U ((S.take p).map Prod.fst) ++ [[.sc (.int .u64 x.1)]] := by rw [hT]; simp [U]
      rw [hs]
      have hml : ((S.take p).map Prod.fst).length ≤ 28 := by rw [List.length_map, List.length_take]; omega
      generalize (S.take p).map Prod.fst = q at *
      have b1 : (q.length + 1) * 8 ≤ 140737488355328 := by omega
      have b2 : q.length + 1 ≤ 1099511627776 := by omega
      have r1 := rHas Q x.1 (by omega)
      have hx2 := hcq x hxm
      have y1 : ¬ x.2 < 0 := by rcases hkd x hxm with h | h | h <;> omega
      have y2 : ¬ x.2 > 2 := by rcases hkd x hxm with h | h | h <;> omega
      have hbb : (decide (x.1 ∈ Q) == decide (x.2 = 1)) = true := by simp [hx2]
      have y3 : ¬ (1 : Int) < 0 := by omega
      have y4 : ¬ (1 : Int) > 2 := by omega
      rcases hv.cases hb with ⟨g1, g2⟩ | ⟨id, i1, i2, g1, g2⟩
      · obtain rfl : q = [] := by simpa [U] using g1
        simp (maxSteps := 400000) (dsimp := false) only [e5, e6, e8, en, hp0, hpl, hg, IT_len, hw, hnn, g2, axs, AThen, ABlock, dstsOk, AStep, callsF, AWant, aop, AS.ev, AS.put, upd, AS.bound, abin, aint, aload, astore, cellsAt, AV.cells, alen, elems, AV.int?, FPost, aresL, ares1, pack, afill, splice, Value.oneCell', Nat.reduceLT, Nat.reduceLeDiff, Nat.reduceEqDiff, Nat.reduceAdd, Nat.reduceMul, Nat.reduceSub, Nat.reduceBEq, Int.reduceLE, Int.reduceLT, Int.reduceToNat, Int.reduceNeg, Int.reduceEq, axt, ftK, ft3, pickP, AScope, AAll, pickQ, ftQ, inHeap, SL, tys]
        refine ADraw.planR [] [(0, true), (1, true), (2, true), (3, true), (4, true), (5, true), (6, true), (7, true), (8, true), (9, true), (10, true), (11, true), (12, true), (13, true), (14, true), (15, true), (16, true), (17, true), (18, true)] [(0, false), (0, false), (0, false), (0, false), (0, false), (0, false), (0, false), (0, false), (0, false), (0, false), (0, false), (0, false), (0, false), (0, false), (0, false), (0, false), (0, false), (0, false), (0, false)] mixed (by kernel_rfl) (by kernel_rfl) ?_
        simp (maxSteps := 400000) (dsimp := false) only [e5, e6, e8, en, hp0, hpl, hg, IT_len, hw, hnn, g2, axs, AThen, ABlock, dstsOk, AStep, callsF, AWant, aop, AS.ev, AS.put, upd, AS.bound, abin, aint, aload, astore, cellsAt, AV.cells, alen, elems, AV.int?, FPost, aresL, ares1, pack, afill, splice, Value.oneCell', Nat.reduceLT, Nat.reduceLeDiff, Nat.reduceEqDiff, Nat.reduceAdd, Nat.reduceMul, Nat.reduceSub, Nat.reduceBEq, Int.reduceLE, Int.reduceLT, Int.reduceToNat, Int.reduceNeg, Int.reduceEq, axt, ftK, ft3, pickP, AScope, AAll, pickQ, ftQ, inHeap, SL, tys]
        by_cases hq : x.1 ∈ Q
        · have hq2 : x.2 = 1 := hx2.1 hq
          refine ACallP.pure rfl (r1) ?_; simp (maxSteps := 400000) (dsimp := false) only [e5, e6, e8, en, hp0, hpl, hg, IT_len, hw, hnn, g2, hq, hq2, bne_self_eq_false, y3, y4, axs, AThen, ABlock, dstsOk, AStep, callsF, AWant, aop, AS.ev, AS.put, upd, AS.bound, abin, aint, aload, astore, cellsAt, AV.cells, alen, elems, AV.int?, FPost, aresL, ares1, pack, afill, splice, Value.oneCell', Nat.reduceLT, Nat.reduceLeDiff, Nat.reduceEqDiff, Nat.reduceAdd, Nat.reduceMul, Nat.reduceSub, Nat.reduceBEq, Int.reduceLE, Int.reduceLT, Int.reduceToNat, Int.reduceNeg, Int.reduceEq, axt, ftK, ft3, pickP, AScope, AAll, pickQ, ftQ, inHeap, SL, tys]
          exact ⟨hlt, by omega, Live.mk (upd_same _ _ _) rfl⟩
        · have hq2 : ¬ x.2 = 1 := fun h => hq (hx2.2 h)
          refine ACallP.pure rfl (r1) ?_; simp (maxSteps := 400000) (dsimp := false) only [e5, e6, e8, en, hp0, hpl, hg, IT_len, hw, hnn, g2, hq, hq2, bne_self_eq_false, y1, y2, axs, AThen, ABlock, dstsOk, AStep, callsF, AWant, aop, AS.ev, AS.put, upd, AS.bound, abin, aint, aload, astore, cellsAt, AV.cells, alen, elems, AV.int?, FPost, aresL, ares1, pack, afill, splice, Value.oneCell', Nat.reduceLT, Nat.reduceLeDiff, Nat.reduceEqDiff, Nat.reduceAdd, Nat.reduceMul, Nat.reduceSub, Nat.reduceBEq, Int.reduceLE, Int.reduceLT, Int.reduceToNat, Int.reduceNeg, Int.reduceEq, axt, ftK, ft3, pickP, AScope, AAll, pickQ, ftQ, inHeap, SL, tys]
          exact ⟨hlt, by omega, Live.mk (upd_same _ _ _) rfl⟩
      · rw [U_len] at g1
        have hin : ¬ id = n ∧ ¬ n = id := by
          have : id ≠ n := by rintro rfl; rw [en] at g2; simp at g2
          omega
        have hn4 : (¬ id = s.n ∧ ¬ s.n = id) ∧ (¬ id = s.n + 1 ∧ ¬ s.n + 1 = id) ∧ (¬ id = s.n + 1 + 1 ∧ ¬ s.n + 1 + 1 = id) := by omega
        simp (maxSteps := 400000) (dsimp := false) only [e5, e6, e8, en, hp0, hpl, hg, IT_len, hw, hnn, g1, g2, hn4, hin, b1, b2, U_len, axs, AThen, ABlock, dstsOk, AStep, callsF, AWant, aop, AS.ev, AS.put, upd, AS.bound, abin, aint, aload, astore, cellsAt, AV.cells, alen, elems, AV.int?, FPost, aresL, ares1, pack, afill, splice, Value.oneCell', Nat.reduceLT, Nat.reduceLeDiff, Nat.reduceEqDiff, Nat.reduceAdd, Nat.reduceMul, Nat.reduceSub, Nat.reduceBEq, Int.reduceLE, Int.reduceLT, Int.reduceToNat, Int.reduceNeg, Int.reduceEq, axt, ftK, ft3, pickP, AScope, AAll, pickQ, ftQ, inHeap, SL, tys]
        refine ADraw.planR [] [(0, true), (1, true), (2, true), (3, true), (4, true), (5, true), (6, true), (7, true), (8, true), (9, true), (10, true), (11, true), (12, true), (13, true), (14, true), (15, true), (16, true), (17, true), (18, true)] [(0, false), (0, false), (0, false), (0, false), (0, false), (0, false), (0, false), (0, false), (0, false), (0, false), (0, false), (0, false), (0, false), (0, false), (0, false), (0, false), (0, false), (0, false), (0, false)] mixed (by kernel_rfl) (by kernel_rfl) ?_
        simp (maxSteps := 400000) (dsimp := false) only [e5, e6, e8, en, hp0, hpl, hg, IT_len, hw, hnn, g1, g2, hn4, hin, b1, b2, U_len, axs, AThen, ABlock, dstsOk, AStep, callsF, AWant, aop, AS.ev, AS.put, upd, AS.bound, abin, aint, aload, astore, cellsAt, AV.cells, alen, elems, AV.int?, FPost, aresL, ares1, pack, afill, splice, Value.oneCell', Nat.reduceLT, Nat.reduceLeDiff, Nat.reduceEqDiff, Nat.reduceAdd, Nat.reduceMul, Nat.reduceSub, Nat.reduceBEq, Int.reduceLE, Int.reduceLT, Int.reduceToNat, Int.reduceNeg, Int.reduceEq, axt, ftK, ft3, pickP, AScope, AAll, pickQ, ftQ, inHeap, SL, tys]
        by_cases hq : x.1 ∈ Q
        · have hq2 : x.2 = 1 := hx2.1 hq
          refine ACallP.pure rfl (r1) ?_; simp (maxSteps := 400000) (dsimp := false) only [e5, e6, e8, en, hp0, hpl, hg, IT_len, hw, hnn, g1, g2, hn4, hin, b1, b2, U_len, hq, hq2, bne_self_eq_false, y3, y4, axs, AThen, ABlock, dstsOk, AStep, callsF, AWant, aop, AS.ev, AS.put, upd, AS.bound, abin, aint, aload, astore, cellsAt, AV.cells, alen, elems, AV.int?, FPost, aresL, ares1, pack, afill, splice, Value.oneCell', Nat.reduceLT, Nat.reduceLeDiff, Nat.reduceEqDiff, Nat.reduceAdd, Nat.reduceMul, Nat.reduceSub, Nat.reduceBEq, Int.reduceLE, Int.reduceLT, Int.reduceToNat, Int.reduceNeg, Int.reduceEq, axt, ftK, ft3, pickP, AScope, AAll, pickQ, ftQ, inHeap, SL, tys]
          exact ⟨hlt, by omega, Live.mk (upd_same _ _ _) (by simp [U_len])⟩
        · have hq2 : ¬ x.2 = 1 := fun h => hq (hx2.2 h)
          refine ACallP.pure rfl (r1) ?_; simp (maxSteps := 400000) (dsimp := false) only [e5, e6, e8, en, hp0, hpl, hg, IT_len, hw, hnn, g1, g2, hn4, hin, b1, b2, U_len, hq, hq2, bne_self_eq_false, y1, y2, axs, AThen, ABlock, dstsOk, AStep, callsF, AWant, aop, AS.ev, AS.put, upd, AS.bound, abin, aint, aload, astore, cellsAt, AV.cells, alen, elems, AV.int?, FPost, aresL, ares1, pack, afill, splice, Value.oneCell', Nat.reduceLT, Nat.reduceLeDiff, Nat.reduceEqDiff, Nat.reduceAdd, Nat.reduceMul, Nat.reduceSub, Nat.reduceBEq, Int.reduceLE, Int.reduceLT, Int.reduceToNat, Int.reduceNeg, Int.reduceEq, axt, ftK, ft3, pickP, AScope, AAll, pickQ, ftQ, inHeap, SL, tys]
          exact ⟨hlt, by omega, Live.mk (upd_same _ _ _) (by simp [U_len])⟩
    · have hpl : ¬ (p : Int) < S.length := by omega
      rw [List.take_of_length_le hge] at hv
      have hml : (S.map Prod.fst).length ≤ 28 := by rw [List.length_map]; exact q1
      generalize S.map Prod.fst = q at *
      rcases hv.cases hb with ⟨g1, g2⟩ | ⟨id, i1, i2, g1, g2⟩
      · simp (maxSteps := 400000) (dsimp := false) only [e5, e6, e8, en, hpl, IT_len, g2, hnn, axs, AThen, ABlock, dstsOk, AStep, callsF, AWant, aop, AS.ev, AS.put, upd, AS.bound, abin, aint, aload, astore, cellsAt, AV.cells, alen, elems, AV.int?, FPost, aresL, ares1, pack, afill, splice, Value.oneCell', Nat.reduceLT, Nat.reduceLeDiff, Nat.reduceEqDiff, Nat.reduceAdd, Nat.reduceMul, Nat.reduceSub, Nat.reduceBEq, Int.reduceLE, Int.reduceLT, Int.reduceToNat, Int.reduceNeg, Int.reduceEq, axt, ftK, ft3, pickP, AScope, AAll, pickQ, ftQ, inHeap, SL, tys]
        refine ACallK.flat rfl (rApartNil) (by simp only [SeesL, e5, e6, en, hnn, axs, axt, AS.ev, AS.put, upd, inHeap, Nat.reduceLT, Nat.reduceEqDiff, Nat.reduceAdd, Nat.reduceBEq, SL]; repeat' (first | exact True.intro | exact Sees.sc | exact Sees.none | ((with_reducible refine Sees.same ?_) <;> simp [noIds, noIdsL, noIdsE, noIdsE_U, noIdsE_UU, noIdsE_IT, noIdsE_DD] <;> fail) | (refine Live.sees ?_ ?_ <;> first | assumption | (simp [noIdsE_U, noIdsE_UU, noIdsE_IT, noIdsE_DD] <;> fail)) | (refine Sees.obj ?_ ?_ ?_ <;> first | exact ⟨_, _, by assumption, rfl⟩ | (simp [U_len, UU_len, IT_len] <;> fail) | (simp [noIdsE_U, noIdsE_UU, noIdsE_IT, noIdsE_DD] <;> fail) | (simp [U, UU, upd] <;> fail) | (simp [U, UU, upd, neS, *] <;> fail)) | (refine Sees.of_seen 3 ?_ <;> simp [seen, upd, noIdsE, noIdsL, noIds, U, UU, Nat.add_assoc] <;> fail) | refine Sees.agg ?_ | refine And.intro ?_ ?_ | simp only [SeesL])) (by simp [flatV, flatL]) ?_; simp (maxSteps := 400000) (dsimp := false) only [e5, e6, en, hnn, axs, AThen, ABlock, dstsOk, AStep, callsF, AWant, aop, AS.ev, AS.put, upd, AS.bound, abin, aint, aload, astore, cellsAt, AV.cells, alen, elems, AV.int?, FPost, aresL, ares1, pack, afill, splice, Value.oneCell', Nat.reduceLT, Nat.reduceLeDiff, Nat.reduceEqDiff, Nat.reduceAdd, Nat.reduceMul, Nat.reduceSub, Nat.reduceBEq, Int.reduceLE, Int.reduceLT, Int.reduceToNat, Int.reduceNeg, Int.reduceEq, axt, ftK, ft3, pickP, AScope, AAll, pickQ, ftQ, inHeap, SL, tys]
        refine ACallK.flat rfl (rApart [Q] (by simp) (by simp; omega)) (by simp only [SeesL, e5, e6, en, hnn, hk2, hk2', axs, axt, AS.ev, AS.put, upd, inHeap, Nat.reduceLT, Nat.reduceEqDiff, Nat.reduceAdd, Nat.reduceBEq, SL]; repeat' (first | exact True.intro | exact Sees.sc | exact Sees.none | ((with_reducible refine Sees.same ?_) <;> simp [noIds, noIdsL, noIdsE, noIdsE_U, noIdsE_UU, noIdsE_IT, noIdsE_DD] <;> fail) | (refine Live.sees ?_ ?_ <;> first | assumption | (simp [noIdsE_U, noIdsE_UU, noIdsE_IT, noIdsE_DD] <;> fail)) | (refine Sees.obj ?_ ?_ ?_ <;> first | exact ⟨_, _, by assumption, rfl⟩ | (simp [U_len, UU_len, IT_len] <;> fail) | (simp [noIdsE_U, noIdsE_UU, noIdsE_IT, noIdsE_DD] <;> fail) | (simp [U, UU, upd] <;> fail) | (simp [U, UU, upd, neS, *] <;> fail)) | (refine Sees.of_seen 3 ?_ <;> simp [seen, upd, noIdsE, noIdsL, noIds, U, UU, Nat.add_assoc] <;> fail) | refine Sees.agg ?_ | refine And.intro ?_ ?_ | simp only [SeesL])) (by simp [flatV, flatL]) ?_; simp (maxSteps := 400000) (dsimp := false) only [e5, e6, en, hnn, hk2, hk2', axs, AThen, ABlock, dstsOk, AStep, callsF, AWant, aop, AS.ev, AS.put, upd, AS.bound, abin, aint, aload, astore, cellsAt, AV.cells, alen, elems, AV.int?, FPost, aresL, ares1, pack, afill, splice, Value.oneCell', Nat.reduceLT, Nat.reduceLeDiff, Nat.reduceEqDiff, Nat.reduceAdd, Nat.reduceMul, Nat.reduceSub, Nat.reduceBEq, Int.reduceLE, Int.reduceLT, Int.reduceToNat, Int.reduceNeg, Int.reduceEq, axt, ftK, ft3, pickP, AScope, AAll, pickQ, ftQ, inHeap, SL, tys]
        refine ACallK.strict rfl (u1) (by simp only [SeesL, e5, e6, en, hnn, axs, axt, AS.ev, AS.put, upd, inHeap, Nat.reduceLT, Nat.reduceEqDiff, Nat.reduceAdd, Nat.reduceBEq, SL]; repeat' (first | exact True.intro | exact Sees.sc | exact Sees.none | ((with_reducible refine Sees.same ?_) <;> simp [noIds, noIdsL, noIdsE, noIdsE_U, noIdsE_UU, noIdsE_IT, noIdsE_DD] <;> fail) | (refine Live.sees ?_ ?_ <;> first | assumption | (simp [noIdsE_U, noIdsE_UU, noIdsE_IT, noIdsE_DD] <;> fail)) | (refine Sees.obj ?_ ?_ ?_ <;> first | exact ⟨_, _, by assumption, rfl⟩ | (simp [U_len, UU_len, IT_len] <;> fail) | (simp [noIdsE_U, noIdsE_UU, noIdsE_IT, noIdsE_DD] <;> fail) | (simp [U, UU, upd] <;> fail) | (simp [U, UU, upd, neS, *] <;> fail)) | (refine Sees.of_seen 3 ?_ <;> simp [seen, upd, noIdsE, noIdsL, noIds, U, UU, Nat.add_assoc] <;> fail) | refine Sees.agg ?_ | refine And.intro ?_ ?_ | simp only [SeesL])) ?_; simp (maxSteps := 400000) (dsimp := false) only [e5, e6, en, hnn, axs, AThen, ABlock, dstsOk, AStep, callsF, AWant, aop, AS.ev, AS.put, upd, AS.bound, abin, aint, aload, astore, cellsAt, AV.cells, alen, elems, AV.int?, FPost, aresL, ares1, pack, afill, splice, Value.oneCell', Nat.reduceLT, Nat.reduceLeDiff, Nat.reduceEqDiff, Nat.reduceAdd, Nat.reduceMul, Nat.reduceSub, Nat.reduceBEq, Int.reduceLE, Int.reduceLT, Int.reduceToNat, Int.reduceNeg, Int.reduceEq, axt, ftK, ft3, pickP, AScope, AAll, pickQ, ftQ, inHeap, SL, tys]
        refine ACallK.flat rfl (rApart [K] (by simp) (by simp; omega)) (by simp only [SeesL, e5, e6, en, hnn, ha, ha', axs, axt, AS.ev, AS.put, upd, inHeap, Nat.reduceLT, Nat.reduceEqDiff, Nat.reduceAdd, Nat.reduceBEq, SL]; repeat' (first | exact True.intro | exact Sees.sc | exact Sees.none | ((with_reducible refine Sees.same ?_) <;> simp [noIds, noIdsL, noIdsE, noIdsE_U, noIdsE_UU, noIdsE_IT, noIdsE_DD] <;> fail) | (refine Live.sees ?_ ?_ <;> first | assumption | (simp [noIdsE_U, noIdsE_UU, noIdsE_IT, noIdsE_DD] <;> fail)) | (refine Sees.obj ?_ ?_ ?_ <;> first | exact ⟨_, _, by assumption, rfl⟩ | (simp [U_len, UU_len, IT_len] <;> fail) | (simp [noIdsE_U, noIdsE_UU, noIdsE_IT, noIdsE_DD] <;> fail) | (simp [U, UU, upd] <;> fail) | (simp [U, UU, upd, neS, *] <;> fail)) | (refine Sees.of_seen 3 ?_ <;> simp [seen, upd, noIdsE, noIdsL, noIds, U, UU, Nat.add_assoc] <;> fail) | refine Sees.agg ?_ | refine And.intro ?_ ?_ | simp only [SeesL])) (by simp [flatV, flatL]) ?_; simp (maxSteps := 400000) (dsimp := false) only [e5, e6, en, hnn, ha, ha', axs, AThen, ABlock, dstsOk, AStep, callsF, AWant, aop, AS.ev, AS.put, upd, AS.bound, abin, aint, aload, astore, cellsAt, AV.cells, alen, elems, AV.int?, FPost, aresL, ares1, pack, afill, splice, Value.oneCell', Nat.reduceLT, Nat.reduceLeDiff, Nat.reduceEqDiff, Nat.reduceAdd, Nat.reduceMul, Nat.reduceSub, Nat.reduceBEq, Int.reduceLE, Int.reduceLT, Int.reduceToNat, Int.reduceNeg, Int.reduceEq, axt, ftK, ft3, pickP, AScope, AAll, pickQ, ftQ, inHeap, SL, tys]
        exact ⟨_, rfl, Sees.sc⟩
      · rw [U_len] at g1
        simp (maxSteps := 400000) (dsimp := false) only [e5, e6, e8, en, hpl, IT_len, g1, hnn, axs, AThen, ABlock, dstsOk, AStep, callsF, AWant, aop, AS.ev, AS.put, upd, AS.bound, abin, aint, aload, astore, cellsAt, AV.cells, alen, elems, AV.int?, FPost, aresL, ares1, pack, afill, splice, Value.oneCell', Nat.reduceLT, Nat.reduceLeDiff, Nat.reduceEqDiff, Nat.reduceAdd, Nat.reduceMul, Nat.reduceSub, Nat.reduceBEq, Int.reduceLE, Int.reduceLT, Int.reduceToNat, Int.reduceNeg, Int.reduceEq, axt, ftK, ft3, pickP, AScope, AAll, pickQ, ftQ, inHeap, SL, tys]
        refine ACallK.flat rfl (rApart [q] (by simp) (by simp; omega)) (by simp only [SeesL]; exact ⟨Sees.rows1 (upd_same _ _ _) ((upd_ne _ _ (by omega)).trans g2) rfl, trivial⟩) (by simp [flatV, flatL]) ?_
        simp (maxSteps := 400000) (dsimp := false) only [e5, e6, en, hnn, hk1, hk1', axs, AThen, ABlock, dstsOk, AStep, callsF, AWant, aop, AS.ev, AS.put, upd, AS.bound, abin, aint, aload, astore, cellsAt, AV.cells, alen, elems, AV.int?, FPost, aresL, ares1, pack, afill, splice, Value.oneCell', Nat.reduceLT, Nat.reduceLeDiff, Nat.reduceEqDiff, Nat.reduceAdd, Nat.reduceMul, Nat.reduceSub, Nat.reduceBEq, Int.reduceLE, Int.reduceLT, Int.reduceToNat, Int.reduceNeg, Int.reduceEq, axt, ftK, ft3, pickP, AScope, AAll, pickQ, ftQ, inHeap, SL, tys]
        refine ACallK.flat rfl (rApart [Q] (by simp) (by simp; omega)) (by simp only [SeesL, e5, e6, en, hnn, hk1, hk1', hk2, hk2', axs, axt, AS.ev, AS.put, upd, inHeap, Nat.reduceLT, Nat.reduceEqDiff, Nat.reduceAdd, Nat.reduceBEq, SL]; repeat' (first | exact True.intro | exact Sees.sc | exact Sees.none | ((with_reducible refine Sees.same ?_) <;> simp [noIds, noIdsL, noIdsE, noIdsE_U, noIdsE_UU, noIdsE_IT, noIdsE_DD] <;> fail) | (refine Live.sees ?_ ?_ <;> first | assumption | (simp [noIdsE_U, noIdsE_UU, noIdsE_IT, noIdsE_DD] <;> fail)) | (refine Sees.obj ?_ ?_ ?_ <;> first | exact ⟨_, _, by assumption, rfl⟩ | (simp [U_len, UU_len, IT_len] <;> fail) | (simp [noIdsE_U, noIdsE_UU, noIdsE_IT, noIdsE_DD] <;> fail) | (simp [U, UU, upd] <;> fail) | (simp [U, UU, upd, neS, *] <;> fail)) | (refine Sees.of_seen 3 ?_ <;> simp [seen, upd, noIdsE, noIdsL, noIds, U, UU, Nat.add_assoc] <;> fail) | refine Sees.agg ?_ | refine And.intro ?_ ?_ | simp only [SeesL])) (by simp [flatV, flatL]) ?_; simp (maxSteps := 400000) (dsimp := false) only [e5, e6, en, hnn, hk1, hk1', hk2, hk2', axs, AThen, ABlock, dstsOk, AStep, callsF, AWant, aop, AS.ev, AS.put, upd, AS.bound, abin, aint, aload, astore, cellsAt, AV.cells, alen, elems, AV.int?, FPost, aresL, ares1, pack, afill, splice, Value.oneCell', Nat.reduceLT, Nat.reduceLeDiff, Nat.reduceEqDiff, Nat.reduceAdd, Nat.reduceMul, Nat.reduceSub, Nat.reduceBEq, Int.reduceLE, Int.reduceLT, Int.reduceToNat, Int.reduceNeg, Int.reduceEq, axt, ftK, ft3, pickP, AScope, AAll, pickQ, ftQ, inHeap, SL, tys]
        refine ACallK.strict rfl (u1) (by simp only [SeesL, e5, e6, en, hnn, axs, axt, AS.ev, AS.put, upd, inHeap, Nat.reduceLT, Nat.reduceEqDiff, Nat.reduceAdd, Nat.reduceBEq, SL]; repeat' (first | exact True.intro | exact Sees.sc | exact Sees.none | ((with_reducible refine Sees.same ?_) <;> simp [noIds, noIdsL, noIdsE, noIdsE_U, noIdsE_UU, noIdsE_IT, noIdsE_DD] <;> fail) | (refine Live.sees ?_ ?_ <;> first | assumption | (simp [noIdsE_U, noIdsE_UU, noIdsE_IT, noIdsE_DD] <;> fail)) | (refine Sees.obj ?_ ?_ ?_ <;> first | exact ⟨_, _, by assumption, rfl⟩ | (simp [U_len, UU_len, IT_len] <;> fail) | (simp [noIdsE_U, noIdsE_UU, noIdsE_IT, noIdsE_DD] <;> fail) | (simp [U, UU, upd] <;> fail) | (simp [U, UU, upd, neS, *] <;> fail)) | (refine Sees.of_seen 3 ?_ <;> simp [seen, upd, noIdsE, noIdsL, noIds, U, UU, Nat.add_assoc] <;> fail) | refine Sees.agg ?_ | refine And.intro ?_ ?_ | simp only [SeesL])) ?_; simp (maxSteps := 400000) (dsimp := false) only [e5, e6, en, hnn, axs, AThen, ABlock, dstsOk, AStep, callsF, AWant, aop, AS.ev, AS.put, upd, AS.bound, abin, aint, aload, astore, cellsAt, AV.cells, alen, elems, AV.int?, FPost, aresL, ares1, pack, afill, splice, Value.oneCell', Nat.reduceLT, Nat.reduceLeDiff, Nat.reduceEqDiff, Nat.reduceAdd, Nat.reduceMul, Nat.reduceSub, Nat.reduceBEq, Int.reduceLE, Int.reduceLT, Int.reduceToNat, Int.reduceNeg, Int.reduceEq, axt, ftK, ft3, pickP, AScope, AAll, pickQ, ftQ, inHeap, SL, tys]
        refine ACallK.flat rfl (rApart [K] (by simp) (by simp; omega)) (by simp only [SeesL, e5, e6, en, hnn, ha, ha', axs, axt, AS.ev, AS.put, upd, inHeap, Nat.reduceLT, Nat.reduceEqDiff, Nat.reduceAdd, Nat.reduceBEq, SL]; repeat' (first | exact True.intro | exact Sees.sc | exact Sees.none | ((with_reducible refine Sees.same ?_) <;> simp [noIds, noIdsL, noIdsE, noIdsE_U, noIdsE_UU, noIdsE_IT, noIdsE_DD] <;> fail) | (refine Live.sees ?_ ?_ <;> first | assumption | (simp [noIdsE_U, noIdsE_UU, noIdsE_IT, noIdsE_DD] <;> fail)) | (refine Sees.obj ?_ ?_ ?_ <;> first | exact ⟨_, _, by assumption, rfl⟩ | (simp [U_len, UU_len, IT_len] <;> fail) | (simp [noIdsE_U, noIdsE_UU, noIdsE_IT, noIdsE_DD] <;> fail) | (simp [U, UU, upd] <;> fail) | (simp [U, UU, upd, neS, *] <;> fail)) | (refine Sees.of_seen 3 ?_ <;> simp [seen, upd, noIdsE, noIdsL, noIds, U, UU, Nat.add_assoc] <;> fail) | refine Sees.agg ?_ | refine And.intro ?_ ?_ | simp only [SeesL])) (by simp [flatV, flatL]) ?_; simp (maxSteps := 400000) (dsimp := false) only [e5, e6, en, hnn, ha, ha', axs, AThen, ABlock, dstsOk, AStep, callsF, AWant, aop, AS.ev, AS.put, upd, AS.bound, abin, aint, aload, astore, cellsAt, AV.cells, alen, elems, AV.int?, FPost, aresL, ares1, pack, afill, splice, Value.oneCell', Nat.reduceLT, Nat.reduceLeDiff, Nat.reduceEqDiff, Nat.reduceAdd, Nat.reduceMul, Nat.reduceSub, Nat.reduceBEq, Int.reduceLE, Int.reduceLT, Int.reduceToNat, Int.reduceNeg, Int.reduceEq, axt, ftK, ft3, pickP, AScope, AAll, pickQ, ftQ, inHeap, SL, tys]
        exact ⟨_, rfl, Sees.sc⟩
  · have h' : (l.length : Int) > 60 := by omega
    simp (maxSteps := 400000) (dsimp := false) only [h', axs, AThen, ABlock, dstsOk, AStep, callsF, AWant, aop, AS.ev, AS.put, upd, AS.bound, abin, aint, aload, astore, cellsAt, AV.cells, alen, elems, AV.int?, FPost, aresL, ares1, pack, afill, splice, Value.oneCell', Nat.reduceLT, Nat.reduceLeDiff, Nat.reduceEqDiff, Nat.reduceAdd, Nat.reduceMul, Nat.reduceSub, Nat.reduceBEq, Int.reduceLE, Int.reduceLT, Int.reduceToNat, Int.reduceNeg, Int.reduceEq, axt, ftK, ft3, pickP, AScope, AAll, pickQ, ftQ, inHeap, SL, tys]
    exact ⟨_, rfl, Sees.sc⟩
theorem law_LirsStays (c : Int) (w : (Lit.int .u8 c).wf = true) (e : List (List Value)) (f : ∀ x ∈ e, FitK [some .u8, some .u64, some .u16] x) (k : Int) (wk : (Lit.int .u64 k).wf = true) : PCalls Try.prog 8 [.sc (.int .u8 c), .lst 3 (e.map fun e => e.map .sc), .sc (.int .u64 k)] (.sc (.bool true)) := by
  obtain ⟨l, hl, hf, _⟩ := rows_DD f
  obtain ⟨h0, h1⟩ := wfu8 w
  obtain ⟨k1, k2, w1, w2, hc⟩ := size12 h0 h1
  rw [hl]
  refine PCalls.intro2 Try.func8 rfl rfl Try.ntmps8 Try.results8 (by simp) fun n => ?_; simp (maxSteps := 400000) (dsimp := false) only [axs, AThen, ABlock, dstsOk, AStep, callsF, AWant, aop, AS.ev, AS.put, upd, AS.bound, abin, aint, aload, astore, cellsAt, AV.cells, alen, elems, AV.int?, FPost, aresL, ares1, pack, afill, splice, Value.oneCell', Nat.reduceLT, Nat.reduceLeDiff, Nat.reduceEqDiff, Nat.reduceAdd, Nat.reduceMul, Nat.reduceSub, Nat.reduceBEq, Int.reduceLE, Int.reduceLT, Int.reduceToNat, Int.reduceNeg, Int.reduceEq, axt, ftK, ft3, pickP, AScope, AAll, pickQ, ftQ, inHeap, SL, tys]
  refine ACallK.strict rfl (awake12) (by simp only [SeesL, DD_len, axs, axt, AS.ev, AS.put, upd, inHeap, Nat.reduceLT, Nat.reduceEqDiff, Nat.reduceAdd, Nat.reduceBEq, SL]; repeat' (first | exact True.intro | exact Sees.sc | exact Sees.none | ((with_reducible refine Sees.same ?_) <;> simp [noIds, noIdsL, noIdsE, noIdsE_U, noIdsE_UU, noIdsE_IT, noIdsE_DD] <;> fail) | (refine Live.sees ?_ ?_ <;> first | assumption | (simp [noIdsE_U, noIdsE_UU, noIdsE_IT, noIdsE_DD] <;> fail)) | (refine Sees.obj ?_ ?_ ?_ <;> first | exact ⟨_, _, by assumption, rfl⟩ | (simp [U_len, UU_len, IT_len] <;> fail) | (simp [noIdsE_U, noIdsE_UU, noIdsE_IT, noIdsE_DD] <;> fail) | (simp [U, UU, upd] <;> fail) | (simp [U, UU, upd, neS, *] <;> fail)) | (refine Sees.of_seen 3 ?_ <;> simp [seen, upd, noIdsE, noIdsL, noIds, U, UU, Nat.add_assoc] <;> fail) | refine Sees.agg ?_ | refine And.intro ?_ ?_ | simp only [SeesL])) ?_; simp (maxSteps := 400000) (dsimp := false) only [DD_len, axs, AThen, ABlock, dstsOk, AStep, callsF, AWant, aop, AS.ev, AS.put, upd, AS.bound, abin, aint, aload, astore, cellsAt, AV.cells, alen, elems, AV.int?, FPost, aresL, ares1, pack, afill, splice, Value.oneCell', Nat.reduceLT, Nat.reduceLeDiff, Nat.reduceEqDiff, Nat.reduceAdd, Nat.reduceMul, Nat.reduceSub, Nat.reduceBEq, Int.reduceLE, Int.reduceLT, Int.reduceToNat, Int.reduceNeg, Int.reduceEq, axt, ftK, ft3, pickP, AScope, AAll, pickQ, ftQ, inHeap, SL, tys]
  by_cases h : l.length ≤ 60
  · have h' : ¬ (l.length : Int) > 60 := by omega
    have hok := liRun_ok k1 k2 l hf
    have hrun := cLrun c l h0 h1 (by omega) hf
    generalize liRun c l = st at *
    obtain ⟨hok2, hperm⟩ := hok.touch k
    obtain ⟨q1, q2⟩ := hok.bounds
    obtain ⟨r1, r2⟩ := hok2.bounds
    have z1 := hok.keys_len
    have z3 := hok.c1
    have u0 := cLTouch st k hok.c0 (by omega) (by omega) (by omega)
    have u1 := cLKeys st (by omega) (by omega)
    have u2 := cLKeys (liTouch st k) (by omega) (by omega)
    have hlen : ((liKeys (liTouch st k)).length : Int) = (liKeys st).length := by rw [hperm.length_eq]
    have hmem : ∀ y ∈ liKeys st, y ∈ liKeys (liTouch st k) := fun y hy => hperm.symm.subset hy
    have hhot : (k, 2) ∈ st.S → ∃ r, (liTouch st k).S = (k, 2) :: r := by
      intro hm
      have hi : idxK st.S k ≥ 0 := by
        rcases Int.lt_or_le (idxK st.S k) 0 with h | h
        · exact absurd rfl (idxK_miss.1 h _ hm)
        · exact h
      have hh : hotAt st k := by
        refine ⟨hi, ?_⟩
        obtain ⟨A, x, B, d1, d2, d3, d4⟩ := idxK_hit hi
        have hx : x = (k, 2) := key_one hok.b.sn (by rw [d1]; simp) hm (by rw [d3])
        rw [d2, show ((A.length : Nat) : Int).toNat = A.length from rfl, List.getD_eq_getElem?_getD, d1, List.getElem?_append_right (Nat.le_refl _), Nat.sub_self, hx]
        rfl
      have hT : liTouch st k = pruneL (stkL st k 2) := if_pos hh
      rw [hT]
      show ∃ r, pruned ((k, 2) :: remK st.S k) = _
      unfold pruned
      obtain ⟨m, hm⟩ : ∃ m, upTo 2 ((k, 2) :: remK st.S k) = m + 1 := by
        unfold upTo
        split
        · exact ⟨_, rfl⟩
        · exact ⟨0, rfl⟩
      rw [hm, List.take_succ_cons]
      exact ⟨_, rfl⟩
    clear hok hok2 hperm
    generalize liTouch st k = T at *
    generalize liKeys T = M at *
    generalize liKeys st = L at *
    obtain ⟨C, S, Q⟩ := st
    obtain ⟨C2, S2, Q2⟩ := T
    simp only at q1 q2 r1 r2 z1 z3 hhot
    simp (maxSteps := 400000) (dsimp := false) only [h', axs, AThen, ABlock, dstsOk, AStep, callsF, AWant, aop, AS.ev, AS.put, upd, AS.bound, abin, aint, aload, astore, cellsAt, AV.cells, alen, elems, AV.int?, FPost, aresL, ares1, pack, afill, splice, Value.oneCell', Nat.reduceLT, Nat.reduceLeDiff, Nat.reduceEqDiff, Nat.reduceAdd, Nat.reduceMul, Nat.reduceSub, Nat.reduceBEq, Int.reduceLE, Int.reduceLT, Int.reduceToNat, Int.reduceNeg, Int.reduceEq, axt, ftK, ft3, pickP, AScope, AAll, pickQ, ftQ, inHeap, SL, tys]
    refine ACallK.strict rfl (hrun) (by simp only [SeesL, axs, axt, AS.ev, AS.put, upd, inHeap, Nat.reduceLT, Nat.reduceEqDiff, Nat.reduceAdd, Nat.reduceBEq, SL]; repeat' (first | exact True.intro | exact Sees.sc | exact Sees.none | ((with_reducible refine Sees.same ?_) <;> simp [noIds, noIdsL, noIdsE, noIdsE_U, noIdsE_UU, noIdsE_IT, noIdsE_DD] <;> fail) | (refine Live.sees ?_ ?_ <;> first | assumption | (simp [noIdsE_U, noIdsE_UU, noIdsE_IT, noIdsE_DD] <;> fail)) | (refine Sees.obj ?_ ?_ ?_ <;> first | exact ⟨_, _, by assumption, rfl⟩ | (simp [U_len, UU_len, IT_len] <;> fail) | (simp [noIdsE_U, noIdsE_UU, noIdsE_IT, noIdsE_DD] <;> fail) | (simp [U, UU, upd] <;> fail) | (simp [U, UU, upd, neS, *] <;> fail)) | (refine Sees.of_seen 3 ?_ <;> simp [seen, upd, noIdsE, noIdsL, noIds, U, UU, Nat.add_assoc] <;> fail) | refine Sees.agg ?_ | refine And.intro ?_ ?_ | simp only [SeesL])) ?_; simp (maxSteps := 400000) (dsimp := false) only [axs, AThen, ABlock, dstsOk, AStep, callsF, AWant, aop, AS.ev, AS.put, upd, AS.bound, abin, aint, aload, astore, cellsAt, AV.cells, alen, elems, AV.int?, FPost, aresL, ares1, pack, afill, splice, Value.oneCell', Nat.reduceLT, Nat.reduceLeDiff, Nat.reduceEqDiff, Nat.reduceAdd, Nat.reduceMul, Nat.reduceSub, Nat.reduceBEq, Int.reduceLE, Int.reduceLT, Int.reduceToNat, Int.reduceNeg, Int.reduceEq, axt, ftK, ft3, pickP, AScope, AAll, pickQ, ftQ, inHeap, SL, tys]
    refine ACallK.strict rfl (u0) (by simp only [SeesL, axs, axt, AS.ev, AS.put, upd, inHeap, Nat.reduceLT, Nat.reduceEqDiff, Nat.reduceAdd, Nat.reduceBEq, SL]; repeat' (first | exact True.intro | exact Sees.sc | exact Sees.none | ((with_reducible refine Sees.same ?_) <;> simp [noIds, noIdsL, noIdsE, noIdsE_U, noIdsE_UU, noIdsE_IT, noIdsE_DD] <;> fail) | (refine Live.sees ?_ ?_ <;> first | assumption | (simp [noIdsE_U, noIdsE_UU, noIdsE_IT, noIdsE_DD] <;> fail)) | (refine Sees.obj ?_ ?_ ?_ <;> first | exact ⟨_, _, by assumption, rfl⟩ | (simp [U_len, UU_len, IT_len] <;> fail) | (simp [noIdsE_U, noIdsE_UU, noIdsE_IT, noIdsE_DD] <;> fail) | (simp [U, UU, upd] <;> fail) | (simp [U, UU, upd, neS, *] <;> fail)) | (refine Sees.of_seen 3 ?_ <;> simp [seen, upd, noIdsE, noIdsL, noIds, U, UU, Nat.add_assoc] <;> fail) | refine Sees.agg ?_ | refine And.intro ?_ ?_ | simp only [SeesL])) ?_; simp (maxSteps := 400000) (dsimp := false) only [axs, AThen, ABlock, dstsOk, AStep, callsF, AWant, aop, AS.ev, AS.put, upd, AS.bound, abin, aint, aload, astore, cellsAt, AV.cells, alen, elems, AV.int?, FPost, aresL, ares1, pack, afill, splice, Value.oneCell', Nat.reduceLT, Nat.reduceLeDiff, Nat.reduceEqDiff, Nat.reduceAdd, Nat.reduceMul, Nat.reduceSub, Nat.reduceBEq, Int.reduceLE, Int.reduceLT, Int.reduceToNat, Int.reduceNeg, Int.reduceEq, axt, ftK, ft3, pickP, AScope, AAll, pickQ, ftQ, inHeap, SL, tys]
    refine ACallK.strict rfl (u1) (by simp only [SeesL, axs, axt, AS.ev, AS.put, upd, inHeap, Nat.reduceLT, Nat.reduceEqDiff, Nat.reduceAdd, Nat.reduceBEq, SL]; repeat' (first | exact True.intro | exact Sees.sc | exact Sees.none | ((with_reducible refine Sees.same ?_) <;> simp [noIds, noIdsL, noIdsE, noIdsE_U, noIdsE_UU, noIdsE_IT, noIdsE_DD] <;> fail) | (refine Live.sees ?_ ?_ <;> first | assumption | (simp [noIdsE_U, noIdsE_UU, noIdsE_IT, noIdsE_DD] <;> fail)) | (refine Sees.obj ?_ ?_ ?_ <;> first | exact ⟨_, _, by assumption, rfl⟩ | (simp [U_len, UU_len, IT_len] <;> fail) | (simp [noIdsE_U, noIdsE_UU, noIdsE_IT, noIdsE_DD] <;> fail) | (simp [U, UU, upd] <;> fail) | (simp [U, UU, upd, neS, *] <;> fail)) | (refine Sees.of_seen 3 ?_ <;> simp [seen, upd, noIdsE, noIdsL, noIds, U, UU, Nat.add_assoc] <;> fail) | refine Sees.agg ?_ | refine And.intro ?_ ?_ | simp only [SeesL])) ?_; simp (maxSteps := 400000) (dsimp := false) only [axs, AThen, ABlock, dstsOk, AStep, callsF, AWant, aop, AS.ev, AS.put, upd, AS.bound, abin, aint, aload, astore, cellsAt, AV.cells, alen, elems, AV.int?, FPost, aresL, ares1, pack, afill, splice, Value.oneCell', Nat.reduceLT, Nat.reduceLeDiff, Nat.reduceEqDiff, Nat.reduceAdd, Nat.reduceMul, Nat.reduceSub, Nat.reduceBEq, Int.reduceLE, Int.reduceLT, Int.reduceToNat, Int.reduceNeg, Int.reduceEq, axt, ftK, ft3, pickP, AScope, AAll, pickQ, ftQ, inHeap, SL, tys]
    refine ACallK.strict rfl (u2) (by simp only [SeesL, axs, axt, AS.ev, AS.put, upd, inHeap, Nat.reduceLT, Nat.reduceEqDiff, Nat.reduceAdd, Nat.reduceBEq, SL]; repeat' (first | exact True.intro | exact Sees.sc | exact Sees.none | ((with_reducible refine Sees.same ?_) <;> simp [noIds, noIdsL, noIdsE, noIdsE_U, noIdsE_UU, noIdsE_IT, noIdsE_DD] <;> fail) | (refine Live.sees ?_ ?_ <;> first | assumption | (simp [noIdsE_U, noIdsE_UU, noIdsE_IT, noIdsE_DD] <;> fail)) | (refine Sees.obj ?_ ?_ ?_ <;> first | exact ⟨_, _, by assumption, rfl⟩ | (simp [U_len, UU_len, IT_len] <;> fail) | (simp [noIdsE_U, noIdsE_UU, noIdsE_IT, noIdsE_DD] <;> fail) | (simp [U, UU, upd] <;> fail) | (simp [U, UU, upd, neS, *] <;> fail)) | (refine Sees.of_seen 3 ?_ <;> simp [seen, upd, noIdsE, noIdsL, noIds, U, UU, Nat.add_assoc] <;> fail) | refine Sees.agg ?_ | refine And.intro ?_ ?_ | simp only [SeesL])) ?_; simp (maxSteps := 400000) (dsimp := false) only [axs, AThen, ABlock, dstsOk, AStep, callsF, AWant, aop, AS.ev, AS.put, upd, AS.bound, abin, aint, aload, astore, cellsAt, AV.cells, alen, elems, AV.int?, FPost, aresL, ares1, pack, afill, splice, Value.oneCell', Nat.reduceLT, Nat.reduceLeDiff, Nat.reduceEqDiff, Nat.reduceAdd, Nat.reduceMul, Nat.reduceSub, Nat.reduceBEq, Int.reduceLE, Int.reduceLT, Int.reduceToNat, Int.reduceNeg, Int.reduceEq, axt, ftK, ft3, pickP, AScope, AAll, pickQ, ftQ, inHeap, SL, tys]
    refine ALoop.upto L.length (fun p s => s.t 2 = .sc (.int .u64 k) ∧ s.t 7 = .sc (.bool true) ∧ s.t 8 = .ptr n 3 0 0 ∧ s.t 9 = .ptr (n + 1) 3 0 0 ∧ s.t 10 = .lst 1 (U L) ∧ s.t 11 = .lst 1 (U M) ∧ s.t 12 = .sc (.int .i64 p) ∧ s.H n = some (.obj 27 3 [[.sc (.int .i64 C), .lst 2 (IT S), .lst 1 (U Q)]] false) ∧ s.H (n + 1) = some (.obj 27 3 [[.sc (.int .i64 C2), .lst 2 (IT S2), .lst 1 (U Q2)]] false)) ⟨rfl, rfl, rfl, rfl, rfl, rfl, rfl, by simp [upd, neS], by simp [upd, neS]⟩ ?_
    rintro p s hp hb ⟨e2, e7, e8, e9, e10, e11, e12, en, en1⟩
    rcases Nat.lt_or_ge p L.length with hlt | hge
    · obtain ⟨y, hy, hp0, hpl, hw, hT, hD⟩ := idx hlt (by omega)
      have hg := U_get hy
      have v := hmem y (List.mem_of_getElem? hy)
      have t1 := rHas M y (by omega)
      simp (maxSteps := 400000) (dsimp := false) only [e2, e7, e8, e9, e10, e11, e12, en, en1, hp0, hpl, hg, U_len, axs, AThen, ABlock, dstsOk, AStep, callsF, AWant, aop, AS.ev, AS.put, upd, AS.bound, abin, aint, aload, astore, cellsAt, AV.cells, alen, elems, AV.int?, FPost, aresL, ares1, pack, afill, splice, Value.oneCell', Nat.reduceLT, Nat.reduceLeDiff, Nat.reduceEqDiff, Nat.reduceAdd, Nat.reduceMul, Nat.reduceSub, Nat.reduceBEq, Int.reduceLE, Int.reduceLT, Int.reduceToNat, Int.reduceNeg, Int.reduceEq, axt, ftK, ft3, pickP, AScope, AAll, pickQ, ftQ, inHeap, SL, tys]
      refine ACallK.strict rfl (t1) (by simp only [SeesL, e2, e7, e8, e9, e10, e11, e12, en, en1, v, hw, axs, axt, AS.ev, AS.put, upd, inHeap, Nat.reduceLT, Nat.reduceEqDiff, Nat.reduceAdd, Nat.reduceBEq, SL]; repeat' (first | exact True.intro | exact Sees.sc | exact Sees.none | ((with_reducible refine Sees.same ?_) <;> simp [noIds, noIdsL, noIdsE, noIdsE_U, noIdsE_UU, noIdsE_IT, noIdsE_DD] <;> fail) | (refine Live.sees ?_ ?_ <;> first | assumption | (simp [noIdsE_U, noIdsE_UU, noIdsE_IT, noIdsE_DD] <;> fail)) | (refine Sees.obj ?_ ?_ ?_ <;> first | exact ⟨_, _, by assumption, rfl⟩ | (simp [U_len, UU_len, IT_len] <;> fail) | (simp [noIdsE_U, noIdsE_UU, noIdsE_IT, noIdsE_DD] <;> fail) | (simp [U, UU, upd] <;> fail) | (simp [U, UU, upd, neS, *] <;> fail)) | (refine Sees.of_seen 3 ?_ <;> simp [seen, upd, noIdsE, noIdsL, noIds, U, UU, Nat.add_assoc] <;> fail) | refine Sees.agg ?_ | refine And.intro ?_ ?_ | simp only [SeesL])) ?_; simp (maxSteps := 400000) (dsimp := false) only [e2, e7, e8, e9, e10, e11, e12, en, en1, v, hw, axs, AThen, ABlock, dstsOk, AStep, callsF, AWant, aop, AS.ev, AS.put, upd, AS.bound, abin, aint, aload, astore, cellsAt, AV.cells, alen, elems, AV.int?, FPost, aresL, ares1, pack, afill, splice, Value.oneCell', Nat.reduceLT, Nat.reduceLeDiff, Nat.reduceEqDiff, Nat.reduceAdd, Nat.reduceMul, Nat.reduceSub, Nat.reduceBEq, Int.reduceLE, Int.reduceLT, Int.reduceToNat, Int.reduceNeg, Int.reduceEq, axt, ftK, ft3, pickP, AScope, AAll, pickQ, ftQ, inHeap, SL, tys]
      exact hlt
    · have hpl : ¬ (p : Int) < L.length := by omega
      simp (maxSteps := 400000) (dsimp := false) only [e2, e7, e8, e9, e10, e11, e12, en, en1, hpl, U_len, axs, AThen, ABlock, dstsOk, AStep, callsF, AWant, aop, AS.ev, AS.put, upd, AS.bound, abin, aint, aload, astore, cellsAt, AV.cells, alen, elems, AV.int?, FPost, aresL, ares1, pack, afill, splice, Value.oneCell', Nat.reduceLT, Nat.reduceLeDiff, Nat.reduceEqDiff, Nat.reduceAdd, Nat.reduceMul, Nat.reduceSub, Nat.reduceBEq, Int.reduceLE, Int.reduceLT, Int.reduceToNat, Int.reduceNeg, Int.reduceEq, axt, ftK, ft3, pickP, AScope, AAll, pickQ, ftQ, inHeap, SL, tys]
      refine ALoop.upto S.length (fun p s => s.t 2 = .sc (.int .u64 k) ∧ s.t 7 = .sc (.bool true) ∧ s.t 8 = .ptr n 3 0 0 ∧ s.t 9 = .ptr (n + 1) 3 0 0 ∧ s.t 10 = .lst 1 (U L) ∧ s.t 11 = .lst 1 (U M) ∧ s.t 14 = .sc (.int .i64 p) ∧ s.t 13 = .sc (.bool (decide ((k, 2) ∈ S.take p))) ∧ s.H n = some (.obj 27 3 [[.sc (.int .i64 C), .lst 2 (IT S), .lst 1 (U Q)]] false) ∧ s.H (n + 1) = some (.obj 27 3 [[.sc (.int .i64 C2), .lst 2 (IT S2), .lst 1 (U Q2)]] false)) ⟨e2, e7, e8, e9, e10, e11, rfl, rfl, en, en1⟩ ?_
      clear e2 e7 e8 e9 e10 e11 e12 en en1 hb hp hge hpl
      rintro p s hp hb ⟨e2, e7, e8, e9, e10, e11, e14, e13, en, en1⟩
      rcases Nat.lt_or_ge p S.length with hlt | hge
      · obtain ⟨x, hx, hp0, hpl, hw, hT, hD⟩ := idx hlt (by omega)
        have hg := IT_get hx
        rw [hT]
        by_cases m0 : (k, 2) ∈ S.take p
        · have m1 : decide ((k, 2) ∈ S.take p ++ [x]) = true := by simp [m0]
          rw [decide_eq_true m0] at e13
          rw [m1]
          simp (maxSteps := 400000) (dsimp := false) only [e2, e7, e8, e9, e10, e11, e14, e13, en, en1, hp0, hpl, hg, IT_len, hw, axs, AThen, ABlock, dstsOk, AStep, callsF, AWant, aop, AS.ev, AS.put, upd, AS.bound, abin, aint, aload, astore, cellsAt, AV.cells, alen, elems, AV.int?, FPost, aresL, ares1, pack, afill, splice, Value.oneCell', Nat.reduceLT, Nat.reduceLeDiff, Nat.reduceEqDiff, Nat.reduceAdd, Nat.reduceMul, Nat.reduceSub, Nat.reduceBEq, Int.reduceLE, Int.reduceLT, Int.reduceToNat, Int.reduceNeg, Int.reduceEq, axt, ftK, ft3, pickP, AScope, AAll, pickQ, ftQ, inHeap, SL, tys]
          exact hlt
        · rw [decide_eq_false m0] at e13
          by_cases x1 : x.1 = k
          · by_cases x2 : x.2 = 2
            · have m1 : decide ((k, 2) ∈ S.take p ++ [x]) = true := by
                have : x = (k, 2) := by rw [← x1, ← x2]
                rw [this]; simp
              rw [m1]
              simp (maxSteps := 400000) (dsimp := false) only [e2, e7, e8, e9, e10, e11, e14, e13, en, en1, hp0, hpl, hg, IT_len, hw, x1, x2, axs, AThen, ABlock, dstsOk, AStep, callsF, AWant, aop, AS.ev, AS.put, upd, AS.bound, abin, aint, aload, astore, cellsAt, AV.cells, alen, elems, AV.int?, FPost, aresL, ares1, pack, afill, splice, Value.oneCell', Nat.reduceLT, Nat.reduceLeDiff, Nat.reduceEqDiff, Nat.reduceAdd, Nat.reduceMul, Nat.reduceSub, Nat.reduceBEq, Int.reduceLE, Int.reduceLT, Int.reduceToNat, Int.reduceNeg, Int.reduceEq, axt, ftK, ft3, pickP, AScope, AAll, pickQ, ftQ, inHeap, SL, tys]
              exact hlt
            · have m1 : decide ((k, 2) ∈ S.take p ++ [x]) = false := by
                have : ¬ (k, 2) = x := fun h => x2 (by rw [← h])
                simp [m0, this]
              rw [m1]
              simp (maxSteps := 400000) (dsimp := false) only [e2, e7, e8, e9, e10, e11, e14, e13, en, en1, hp0, hpl, hg, IT_len, hw, x1, x2, axs, AThen, ABlock, dstsOk, AStep, callsF, AWant, aop, AS.ev, AS.put, upd, AS.bound, abin, aint, aload, astore, cellsAt, AV.cells, alen, elems, AV.int?, FPost, aresL, ares1, pack, afill, splice, Value.oneCell', Nat.reduceLT, Nat.reduceLeDiff, Nat.reduceEqDiff, Nat.reduceAdd, Nat.reduceMul, Nat.reduceSub, Nat.reduceBEq, Int.reduceLE, Int.reduceLT, Int.reduceToNat, Int.reduceNeg, Int.reduceEq, axt, ftK, ft3, pickP, AScope, AAll, pickQ, ftQ, inHeap, SL, tys]
              exact hlt
          · have m1 : decide ((k, 2) ∈ S.take p ++ [x]) = false := by
              have : ¬ (k, 2) = x := fun h => x1 (by rw [← h])
              simp [m0, this]
            rw [m1]
            simp (maxSteps := 400000) (dsimp := false) only [e2, e7, e8, e9, e10, e11, e14, e13, en, en1, hp0, hpl, hg, IT_len, hw, x1, axs, AThen, ABlock, dstsOk, AStep, callsF, AWant, aop, AS.ev, AS.put, upd, AS.bound, abin, aint, aload, astore, cellsAt, AV.cells, alen, elems, AV.int?, FPost, aresL, ares1, pack, afill, splice, Value.oneCell', Nat.reduceLT, Nat.reduceLeDiff, Nat.reduceEqDiff, Nat.reduceAdd, Nat.reduceMul, Nat.reduceSub, Nat.reduceBEq, Int.reduceLE, Int.reduceLT, Int.reduceToNat, Int.reduceNeg, Int.reduceEq, axt, ftK, ft3, pickP, AScope, AAll, pickQ, ftQ, inHeap, SL, tys]
            exact hlt
      · have hpl : ¬ (p : Int) < S.length := by omega
        rw [List.take_of_length_le hge] at e13
        by_cases m0 : (k, 2) ∈ S
        · rw [decide_eq_true m0] at e13
          obtain ⟨r, rfl⟩ := hhot m0
          have g0 : (IT ((k, 2) :: r))[0]? = some [.sc (.int .u64 k), .sc (.int .i64 2)] := rfl
          have g1 : ((r.length + 1 : Nat) : Int) > 0 := by omega
          have g2 : (0 : Int) < ((r.length + 1 : Nat) : Int) := by omega
          have g3 : (0 : Int) ≤ 0 := by omega
          simp (maxSteps := 400000) (dsimp := false) only [e2, e7, e8, e9, e10, e11, e14, e13, en, en1, hpl, hlen, U_len, IT_len, g0, g1, g2, g3, axs, AThen, ABlock, dstsOk, AStep, callsF, AWant, aop, AS.ev, AS.put, upd, AS.bound, abin, aint, aload, astore, cellsAt, AV.cells, alen, elems, AV.int?, FPost, aresL, ares1, pack, afill, splice, Value.oneCell', Nat.reduceLT, Nat.reduceLeDiff, Nat.reduceEqDiff, Nat.reduceAdd, Nat.reduceMul, Nat.reduceSub, Nat.reduceBEq, Int.reduceLE, Int.reduceLT, Int.reduceToNat, Int.reduceNeg, Int.reduceEq, axt, ftK, ft3, pickP, AScope, AAll, pickQ, ftQ, inHeap, SL, tys]
          refine AStepX.eqS [some .u64, some .i64] rfl rfl rfl rfl rfl (by kernel_rfl) rfl rfl ?_; simp (maxSteps := 400000) (dsimp := false) only [sameSc, sameV, e2, e7, e8, e9, e10, e11, e14, e13, en, en1, axs, AThen, ABlock, dstsOk, AStep, callsF, AWant, aop, AS.ev, AS.put, upd, AS.bound, abin, aint, aload, astore, cellsAt, AV.cells, alen, elems, AV.int?, FPost, aresL, ares1, pack, afill, splice, Value.oneCell', Nat.reduceLT, Nat.reduceLeDiff, Nat.reduceEqDiff, Nat.reduceAdd, Nat.reduceMul, Nat.reduceSub, Nat.reduceBEq, Int.reduceLE, Int.reduceLT, Int.reduceToNat, Int.reduceNeg, Int.reduceEq, axt, ftK, ft3, pickP, AScope, AAll, pickQ, ftQ, inHeap, SL, tys]
          exact ⟨_, rfl, Sees.sc⟩
        · rw [decide_eq_false m0] at e13
          simp (maxSteps := 400000) (dsimp := false) only [e2, e7, e8, e9, e10, e11, e14, e13, en, en1, hpl, hlen, U_len, IT_len, axs, AThen, ABlock, dstsOk, AStep, callsF, AWant, aop, AS.ev, AS.put, upd, AS.bound, abin, aint, aload, astore, cellsAt, AV.cells, alen, elems, AV.int?, FPost, aresL, ares1, pack, afill, splice, Value.oneCell', Nat.reduceLT, Nat.reduceLeDiff, Nat.reduceEqDiff, Nat.reduceAdd, Nat.reduceMul, Nat.reduceSub, Nat.reduceBEq, Int.reduceLE, Int.reduceLT, Int.reduceToNat, Int.reduceNeg, Int.reduceEq, axt, ftK, ft3, pickP, AScope, AAll, pickQ, ftQ, inHeap, SL, tys]
          exact ⟨_, rfl, Sees.sc⟩
  · have h' : (l.length : Int) > 60 := by omega
    simp (maxSteps := 400000) (dsimp := false) only [h', axs, AThen, ABlock, dstsOk, AStep, callsF, AWant, aop, AS.ev, AS.put, upd, AS.bound, abin, aint, aload, astore, cellsAt, AV.cells, alen, elems, AV.int?, FPost, aresL, ares1, pack, afill, splice, Value.oneCell', Nat.reduceLT, Nat.reduceLeDiff, Nat.reduceEqDiff, Nat.reduceAdd, Nat.reduceMul, Nat.reduceSub, Nat.reduceBEq, Int.reduceLE, Int.reduceLT, Int.reduceToNat, Int.reduceNeg, Int.reduceEq, axt, ftK, ft3, pickP, AScope, AAll, pickQ, ftQ, inHeap, SL, tys]
    exact ⟨_, rfl, Sees.sc⟩
end Go.Al
